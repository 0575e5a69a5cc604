/- Functions of the program, walked: each comes to its plain function. -/
import Derived.Test.YtpbgbliikifjjaaGreatDoorKse2
import Derived.Test.YtpbgbliikifjjaaGreatDoorExse
import Derived.Test.YtpbgbliikifjjaaGreatDoorS1se
import Derived.Test.YtpbgbliikifjjaaGreatDoorSsse
import Derived.Test.YtpbgbliikifjjaaGreatDoorStse
set_option linter.unusedVariables false
set_option linter.unusedSimpArgs false
set_option maxRecDepth 20000
set_option maxHeartbeats 1000000
namespace Go.Cb
open Go.Proofs Go.RowKit
variable {w:World} {Fo:List Ob} {rs:List Rp}

def mE(b:(List aN))(c:List ((Int)×bO))(d:(List aE))(e:(List aI))(f:(List aK))(g:(List aD)):Option (aG×(List aE)×(List aI)×(List aN)×(List aK)×(List aD)×(List ((Int)×bO))):=
  some ((⟨0,0,false,0,[],(⟨[],[]⟩:bB),[],[],[]⟩:aG),d,e,b,f,g,c)
def mF(c:(List aN))(d:List ((Int)×bO))(i:List aE)(j:List aI)(e:List aK)(f:List aD)(k:(List cF))(g:Bool):Option (aG×(List aE)×(List aI)×(List aN)×(List aK)×(List aD)×(List ((Int)×bO))):=
  if g=true then ((rP i j e f k).bind fun b=>mE c d b.2.1 b.2.2.1 b.2.2.2.1 b.2.2.2.2) else (mE c d i j e f)
def mG(g:List aE)(i:List aI)(b:List aK)(c:List aD)(j:(List cF))(k:List aN)(d:List ((Int)×bO))(l:Bool)(x20:bA)(m:Bool)(n:Bool):Option (aG×(List aE)×(List aI)×(List aN)×(List aK)×(List aD)×(List ((Int)×bO))):=
  if n=true then ((dM 2).bind fun o=>some (o,g,i,k,b,c,d)) else (if l=true then (some ((⟨0,0,false,0,[],(⟨[],[]⟩:bB),[],[],[]⟩:aG),g,i,k,b,c,d)) else ((mpt (kyI .i64) d x20.Txn (⟨true,[],(⟨0,0,false,0,[],(⟨[],[]⟩:bB),[],[],[]⟩:aG)⟩:bO)).bind fun e=>(A9 k x20.Txn).bind fun f=>if x20.Yes=true then (mF f e g i b c j m) else (mF f e g i b c j false)))
def mH(i:List aE)(j:List aI)(c:List aK)(d:List aD)(e:(List cF))(k:List aN)(b:List ((Int)×bO))(f:Bool)(x20:bA)(g:Bool)(l:Bool)(m:Bool):Option (aG×(List aE)×(List aI)×(List aN)×(List aK)×(List aD)×(List ((Int)×bO))):=
  if m=true then ((dM 62).bind fun n=>some (n,i,j,k,c,d,b)) else (if (!l)=true then (mG i j c d e k b f x20 g ((b.length:Int) == 128)) else (mG i j c d e k b f x20 g false))
def qF(j:List aE)(k:List aI)(c:List aK)(d:List aD)(l:List aN)(e:List ((Int)×bO))(x20:bA)(b:Bool)(f:Bool)(g:(List cF))(m:Int)(n:Int)(i:Bool)(o:Int)(p:(List cL))(q:(List aE))(s:(List aI))(t:(List bK))(u:(List lQ))(v:(List Int)):Option (aG×(List aE)×(List aI)×(List aN)×(List aK)×(List aD)×(List ((Int)×bO))):=
  if (!b)=true then (mH j k c d g l e f x20 i b x20.Yes) else (mH j k c d g l e f x20 i b false)
def sO(f:List aE)(g:List aI)(i:List aN)(d:List aK)(e:List aD)(c:List ((Int)×bO))(x20:bA):Option (aG×(List aE)×(List aI)×(List aN)×(List aK)×(List aD)×(List ((Int)×bO))):=
  (A2 (kyI .i64) c x20.Txn E1).bind fun b=>qF f g d e i c x20 b.2 b.1.over_ b.1.pieces_ b.1.a_.Err b.1.a_.At b.1.a_.Yes b.1.a_.Epoch b.1.a_.Results b.1.a_.Store.Nodes b.1.a_.Store.Turns b.1.a_.Events b.1.a_.Mounts b.1.a_.Wounded
theorem K6{m e:Nat}{b2 b3 c1 z A M N O P n o p:Value}{d2:List aE}{d3:List aI}{d4:List aN}{Q:List aK}{R:List aD}{B:List ((Int)×bO)}{x20:bA}(H:Sep w (Blk m 75 [b2,b3,n,c1,z,A,o,.map (some e),p]::cB Tryz.prog 2 (kyI .i64) cQ true e B::Fo) rs)(G:rSl aF b2 d2 ∈ rs)(I:rSl aJ b3 d3 ∈ rs)(V:rSl bG c1 d4 ∈ rs)(J:rSl aX z Q ∈ rs)(L:rSl aO A R ∈ rs)(g0:xU Tryz.prog ∈ rs){r:aG×(List aE)×(List aI)×(List aN)×(List aK)×(List aD)×(List ((Int)×bO))}(hm:sO d2 d3 d4 Q R B x20=some r) :
    Calls Tryz.prog 27 [pt m 0,.agg (aR x20 M N O P).toArray].toArray w (Ret fun v w'=>∃ g9 i0 i1 i2 i3 i4 i5 f0 f1 f2 f3,.agg (bC r.1 g9 i0 i1 i2 i3 i4).toArray=v∧Sep w' (Blk m 75 [i5,f0,n,f1,f2,f3,o,.map (some e),p]::cB Tryz.prog 2 (kyI .i64) cQ true e r.2.2.2.2.2.2::Fo) (rSl bE g9 r.1.Results::rSl aF i0 r.1.Store.Nodes::rSl aJ i1 r.1.Store.Turns::rSl aV i2 r.1.Events::rSl bL i3 r.1.Mounts::rSl (kI .i64) i4 r.1.Wounded::rSl aF i5 r.2.1::rSl aJ f0 r.2.2.1::rSl bG f1 r.2.2.2.1::rSl aX f2 r.2.2.2.2.1::rSl aO f3 r.2.2.2.2.2.1::rs)):=by
 unfold sO at hm
 refine ent Tryz.func27 rfl Tryz.ntmps27 rfl rfl fun a E=>sq<|bS E H (wn rfl) rfl rfl rfl rfl rfl fun q w a H E=>al E H rfl rfl rfl rfl gN fun l w a H E=>nt<|aT (fun a w=>∃ s t b4 b5 b6 b7 b8 b9 c0 C u S T D U f4 f5 f6 f7 f8 f9 X,Env 70 a [(0,pt m 0),(3,pt q 0),(4,pt l 0),(5,pt s 0),(6,.bool c0)]∧Sep w (Blk m 75 [b2,b3,n,c1,z,A,o,.map (some e),p]::Blk q 37 (aR x20 M N O P)::Blk l 48 bN::Blk s 128 [.bool C,t,.int .i64 S,.int .i64 T,.bool D,.int .i64 U,b4,b5,b6,b7,b8,b9]::cB Tryz.prog 2 (kyI .i64) cQ true e B::Fo) X∧(∀ r,r ∈ rs→r ∈ X)∧rSl cE t u ∈ X∧qF d2 d3 Q R d4 B x20 c0 C u S T D U f4 f5 f6 f7 f8 f9=some r) ?_ ?_
 ·refine bd hm fun j4 d1 hm=>?_
  have hI:dP [Blk q 37 (aR x20 M N O P),Blk m 75 [b2,b3,n,c1,z,A,o,.map (some e),p]] [] { w with drawn:=w.drawn+1 }:=⟨_,_,H.kept (Kp.drawn _ w _),(aB mm1 (aB mm2 (aL))),(aM)⟩
  refine jY _ (.go 0 0 (.go 1 0 (.go 2 0 (.go 3 0 (.go 4 0 (.go 5 0 (.alt 6 (.go 7 0 (.go 8 0 (.go 9 0 (.go 10 1 (.go 11 1 (.go 12 2 .nil)))))) 10 (.go 6 1 (.go 7 0 (.go 8 0 (.go 9 0 (.go 11 1 (.go 12 2 .nil))))))))))))) [12] kG (by kernel_rfl) (fun _ _ _ h=>False.elim h.2) hI<|have H:=H.kept (Kp.drawn _ w (w.drawn+1));?_
  generalize ({ w with drawn:=w.drawn+1 }:World)=w at H hI ⊢
  replace hI:∃ W,dP [Blk q 37 (aR x20 M N O P),Blk m 75 [b2,b3,n,c1,z,A,o,.map (some e),p]] [] W:=⟨_,hI⟩
  obtain ⟨W0,hI⟩:=hI
  refine aW E rfl (wn rfl) rfl rfl (fun w hW=>(bD E rfl rfl)) fun a E=>aW E rfl (wn rfl) rfl rfl (fun w hW=>(sF E rfl rfl)) fun a E=>aW E rfl (wn rfl) rfl rfl (fun w hW=>iY E rfl rfl (v:=pt m 7) (Fv _ _)) fun a E=>aW E rfl (wn rfl) rfl rfl (fun w hW=>eZ E rfl rfl (kD mm1 rfl U69 rfl w hW)) fun a E=>aW E rfl (wn rfl) rfl rfl (fun w hW=>iY E rfl rfl (v:=pt q 2) (Be _ _)) fun a E=>aW E rfl (wn rfl) rfl rfl (fun w hW=>eZ E rfl rfl (kD m0 rfl U2 rfl w hW)) fun a E=>?_
  refine kM rfl rfl ?_ ?_
  ·refine lR (i:=3) (K:=(kyI .i64)) E H (wn rfl) rfl rfl rfl rfl rfl rfl (dX U2) U69 Bm Ef d1 fun j5 a H E=>?_
   obtain ⟨j6,j7,j8,j9,k0,k1,k2,rfl,h⟩:=q5 H;clear H;have H:=h
   refine nt<|?_
   refine ⟨⟨_,_,H,(aB mm1 (aB mm2 (aL))),(aM)⟩,?_⟩
   refine aW E rfl (wn rfl) rfl rfl (fun w hW=>(bD E rfl rfl)) fun a E=>aW E rfl (wn rfl) rfl rfl (fun w hW=>(cX E rfl rfl rfl)) fun a E=>aW E rfl (wn rfl) rfl rfl (fun w hW=>(cX E rfl rfl rfl)) fun a E=>cJ rfl<|al E H rfl rfl rfl rfl Eg fun k3 w a H E=>nt<|?_
   refine ⟨⟨_,_,H,(aB mm2 (aB mm3 (aL))),(aM)⟩,?_⟩
   refine cJ rfl<|aZ (i:=0) E H (wn rfl) rfl rfl rfl rfl rfl rfl Eh rfl (xH H mm6 mm5 mm4 mm3 mm2 mm1 m0) fun w H=>nt<|?_
   refine ⟨⟨_,_,H,(aB mm2 (aB mm3 (aL))),(aM)⟩,?_⟩
   refine cP rfl<|pr 1 E rfl fun a E=>nt<|dW<|?_
   clear hI
   exact aC<|have H:=H.frs [4,1,2,3,4] rfl;X22 ⟨E.to rfl,H,(Y8 Y0),mm6,hm⟩
  ·refine al E H rfl rfl rfl rfl Eg fun k4 w a H E=>nt<|?_
   refine ⟨⟨_,_,H,(aB mm2 (aB mm3 (aL))),(aM)⟩,?_⟩
   refine cJ rfl<|lR (i:=4) (K:=(kyI .i64)) E H (wn rfl) rfl rfl rfl rfl rfl rfl (dX U2) U69 Bm Ef d1 fun k5 a H E=>?_
   obtain ⟨k6,k7,k8,k9,l0,l1,l2,rfl,h⟩:=q5 H;clear H;have H:=h
   refine nt<|?_
   refine ⟨⟨_,_,H,(aB mm2 (aB mm3 (aL))),(aM)⟩,?_⟩
   refine aW E rfl (wn rfl) rfl rfl (fun w hW=>(bD E rfl rfl)) fun a E=>aW E rfl (wn rfl) rfl rfl (fun w hW=>(cX E rfl rfl rfl)) fun a E=>aW E rfl (wn rfl) rfl rfl (fun w hW=>(cX E rfl rfl rfl)) fun a E=>cJ rfl<|aZ (i:=0) E H (wn rfl) rfl rfl rfl rfl rfl rfl Eh rfl (xH H mm6 mm5 mm4 mm3 mm2 mm1 m0) fun w H=>nt<|?_
   refine ⟨⟨_,_,H,(aB mm2 (aB mm3 (aL))),(aM)⟩,?_⟩
   refine cP rfl<|pr 1 E rfl fun a E=>nt<|dW<|?_
   clear hI
   exact aC<|have H:=H.frs [4,1,2,3,4] rfl;X22 ⟨E.to rfl,H,(Y8 Y0),mm6,hm⟩
 ·clear E H hm
  rintro a w ⟨s,t,b4,b5,b6,b7,b8,b9,c0,C,u,S,T,D,U,f4,f5,f6,f7,f8,f9,X,E,H,d5,d6,hm⟩
  unfold qF at hm
  refine wp_seq<|wp_block<|aT (fun a w=>∃ d7 Y,Env 70 a [(0,pt m 0),(3,pt q 0),(4,pt l 0),(5,pt s 0),(6,.bool c0),(17,.bool d7)]∧Sep w (Blk m 75 [b2,b3,n,c1,z,A,o,.map (some e),p]::Blk q 37 (aR x20 M N O P)::Blk l 48 bN::Blk s 128 [.bool C,t,.int .i64 S,.int .i64 T,.bool D,.int .i64 U,b4,b5,b6,b7,b8,b9]::cB Tryz.prog 2 (kyI .i64) cQ true e B::Fo) Y∧(∀ r,r ∈ rs→r ∈ Y)∧rSl cE t u ∈ Y∧mH d2 d3 Q R u d4 B C x20 D c0 d7=some r) ?_ ?_
  ·refine wp_region_lit<|pr 3 E rfl fun a E=>cs hm (fun x hm=>?_) fun x hm=>?_
   ·exact pk 1 E (kc 20 rfl x) rfl fun a E=>aQ E (ws' (d:=20) E rfl rfl rfl rfl x) rfl rfl (cD (i:=1) E H rfl rfl rfl rfl U4 rfl) fun a E=>pk 2 E (kc 20 rfl x) rfl fun a E=>nt<|⟨_,_,E.to rfl,H,d5,d6,hm⟩
   ·exact pk 4 E (kc 20 rfl x) rfl fun a E=>nt<|⟨_,_,E.to rfl,H,d5,d6,hm⟩
  ·clear E H hm
   rintro a w ⟨d7,Y,E,H,g,d8,hm⟩
   unfold mH at hm
   refine wif E hm rfl (fun hm=>?_) fun hm=>?_
   ·refine sq<|bd hm fun i6 g1 hm=>cG E rfl rfl rfl rfl rfl tM (dT H g1)<|?_
    rintro _ w ⟨i7,i8,i9,j0,j1,j2,rfl,H⟩ a E
    refine aZ (i:=2) E H (wn rfl) rfl rfl rfl rfl rfl rfl bU rfl (bF H m0 mm1 mm2 mm3 mm4 mm5) fun w H=>nt<|wp_ret<|bV<|aP<|dH E rfl (cV (i:=2) (us:=(bC i6 i7 i8 i9 j0 j1 j2)) H rfl rfl rfl U48 rfl bU)<|have H:=H.drs [1,1,1];?_
    cases hm
    exact X11 ⟨rfl,H.reads (aA m0 (aA mm1 (aA mm2 (aA mm3 (aA mm4 (aA mm5 (aA (t6 (g _ G)) (aA (t6 (g _ I)) (aA (t6 (g _ V)) (aA (t6 (g _ J)) (aA (t6 (g _ L)) (fun r hr=>(t6 (g r hr))))))))))))))⟩
   ·refine aT (fun a w=>∃ d9 Z,Env 70 a [(0,pt m 0),(3,pt q 0),(4,pt l 0),(5,pt s 0),(25,.bool d9)]∧Sep w (Blk m 75 [b2,b3,n,c1,z,A,o,.map (some e),p]::Blk q 37 (aR x20 M N O P)::Blk l 48 bN::Blk s 128 [.bool C,t,.int .i64 S,.int .i64 T,.bool D,.int .i64 U,b4,b5,b6,b7,b8,b9]::cB Tryz.prog 2 (kyI .i64) cQ true e B::Fo) Z∧(∀ r,r ∈ rs→r ∈ Z)∧rSl cE t u ∈ Z∧mG d2 d3 Q R u d4 B C x20 D d9=some r) ?_ ?_
    ·refine wp_region_lit<|pr 3 E rfl fun a E=>cs hm (fun k hm=>?_) fun k hm=>?_
     ·exact pk 3 E (kc 28 rfl k) rfl fun a E=>aQ E (ws' (d:=28) E rfl rfl rfl rfl k) rfl rfl (cD (i:=0) E H rfl rfl rfl rfl U69 rfl) fun a E=>aQ E (ws' (d:=28) E rfl rfl rfl rfl k) rfl rfl (r7 (i:=4) E H rfl rfl rfl U69) fun a E=>pk 3 E (kc 28 rfl k) rfl fun a E=>nt<|⟨_,_,E.to rfl,H,g,d8,hm⟩
     ·exact pk 8 E (kc 28 rfl k) rfl fun a E=>nt<|⟨_,_,E.to rfl,H,g,d8,hm⟩
    ·clear E H hm
     rintro a w ⟨d9,Z,E,H,b,e0,hm⟩
     unfold mG at hm
     refine wif E hm rfl (fun hm=>?_) fun hm=>?_
     ·refine sq<|bd hm fun j3 g2 hm=>cG E rfl rfl rfl rfl rfl tM (dT H g2)<|?_
      rintro _ w ⟨g3,g4,g5,g6,g7,g8,rfl,H⟩ a E
      refine aZ (i:=2) E H (wn rfl) rfl rfl rfl rfl rfl rfl bU rfl (bF H m0 mm1 mm2 mm3 mm4 mm5) fun w H=>nt<|wp_ret<|bV<|aP<|dH E rfl (cV (i:=2) (us:=(bC j3 g3 g4 g5 g6 g7 g8)) H rfl rfl rfl U48 rfl bU)<|have H:=H.drs [1,1,1];?_
      cases hm
      exact X11 ⟨rfl,H.reads (aA m0 (aA mm1 (aA mm2 (aA mm3 (aA mm4 (aA mm5 (aA (t6 (b _ G)) (aA (t6 (b _ I)) (aA (t6 (b _ V)) (aA (t6 (b _ J)) (aA (t6 (b _ L)) (fun r hr=>(t6 (b r hr))))))))))))))⟩
     ·refine sq<|pr 1 E rfl fun a E=>lb E H 3 rfl rfl rfl rfl rfl rfl rfl U4 rfl fun a E=>pr 1 E rfl fun a E=>nt<|wif E hm rfl (fun hm=>?_) fun hm=>?_
      ·refine sq<|sv E rfl rfl rfl (cI E rfl (E.evs rfl) (v:=.agg bN.toArray) (by kernel_rfl)) fun a E=>aZ (i:=2) E H (wn rfl) rfl rfl rfl rfl rfl rfl bU rfl rfl fun w H=>nt<|wp_ret<|bV<|aP<|dH E rfl (cV (i:=2) (us:=bN) H rfl rfl rfl U48 rfl bU)<|have H:=H.nilSl bE;?_
       refine have H:=H.nilSl aF;have H:=H.nilSl aJ;have H:=H.nilSl aV;have H:=H.nilSl bL;have H:=H.nilSl (kI .i64);have H:=H.drs [1,1,1];?_
       cases hm
       exact X11 ⟨rfl,H.reads (aA mm5 (aA mm4 (aA mm3 (aA mm2 (aA mm1 (aA m0 (aA (t6 (b _ G)) (aA (t6 (b _ I)) (aA (t6 (b _ V)) (aA (t6 (b _ J)) (aA (t6 (b _ L)) (fun r hr=>(t6 (b r hr))))))))))))))⟩
      ·refine wp_skip<|bY<|aC<|wp_seq<|dw [(0,0),(1,0),(2,0),(3,0),(4,0),(5,0),(6,0),(7,2)] [0,1] [] H (by kernel_rfl) (fun _ _ _ h=>False.elim h.2) fun w W0 hI H=>fn 3 E rfl fun a E=>fb E rfl (wn rfl) rfl rfl rfl rfl m0 rfl U69 rfl fun a E=>fn 1 E rfl fun a E=>fb E rfl (wn rfl) rfl rfl rfl rfl mm1 rfl U2 rfl fun a E=>?_
       refine bW E rfl (wn rfl) rfl rfl (fun w hW=>(cI E rfl (E.evs rfl) (v:=.agg #[.bool true,.slice none 0 0,.int .i64 0,.int .i64 0,.bool false,.int .i64 0,.slice none 0 0,.slice none 0 0,.slice none 0 0,.slice none 0 0,.slice none 0 0,.slice none 0 0]) (by kernel_rfl))) fun a E=>?_
       refine bQ rfl<|bd hm fun b0 e1 hm=>zR (i:=4) (K:=(kyI .i64)) (v:=(⟨true,[],(⟨0,0,false,0,[],(⟨[],[]⟩:bB),[],[],[]⟩:aG)⟩:bO)) (cs:=[.bool true,.slice none 0 0,.int .i64 0,.int .i64 0,.bool false,.int .i64 0,.slice none 0 0,.slice none 0 0,.slice none 0 0,.slice none 0 0,.slice none 0 0,.slice none 0 0]) E H (wn rfl) rfl rfl rfl rfl rfl rfl (dX U2) U69 e1 (fun ok hr=>(zT (Sl.nil _ _ _) (Sl.nil _ _ _) (Sl.nil _ _ _) (Sl.nil _ _ _) (Sl.nil _ _ _) (Sl.nil _ _ _) (Sl.nil _ _ _))) fun w H=>nt<|bR<|?_
       clear hI
       refine aC<|wp_seq<|dw [(0,0),(1,0),(2,0),(3,0),(4,0),(5,0),(6,0),(7,1),(8,2),(9,2),(10,2)] [0,1] [] H (by kernel_rfl) (fun _ _ _ h=>False.elim h.2) fun w W0 hI H=>fn 4 E rfl fun a E=>fb E rfl (wn rfl) rfl rfl rfl rfl m0 rfl U62 rfl fun a E=>fn 1 E rfl fun a E=>fb E rfl (wn rfl) rfl rfl rfl rfl mm1 rfl U2 rfl fun a E=>bZ rfl<|bd hm fun j e2 hm=>?_
       refine cG E rfl rfl rfl rfl rfl AE (Fz H (b _ V) e2)<|?_
       rintro _ w ⟨l3,rfl,H⟩ a E
       refine nt<|?_
       refine ⟨⟨_,_,H,(aB mm1 (aB mm2 (aL))),(aM)⟩,?_⟩
       refine bQ rfl<|pr 1 E rfl fun a E=>nt<|bQ rfl<|pr 1 E rfl fun a E=>nt<|bQ rfl<|?_
       obtain ⟨q111,b1,rfl⟩:=H.rowform (i:=0) rfl
       refine aZ (i:=1) E H (wn rfl) rfl rfl rfl rfl rfl rfl Sx rfl rfl fun w H=>nt<|bR<|?_
       clear hI
       refine aC<|aT (fun a w=>∃ c2 c3 c4 c5 c6 c7 c8 c9 f,Env 70 a [(4,pt l 0)]∧Sep w (Blk l 48 bN::Blk m 75 [c2,c3,n,(.slice q111 j.length b1),c4,c5,o,.map (some e),p]::cB Tryz.prog 2 (kyI .i64) cQ true e b0::Row 103 bG (.slice q111 j.length b1) j::Fo) f∧(∀ r,r ∈ rs→r ∈ f)∧rSl aF c2 c6 ∈ f∧rSl aJ c3 c7 ∈ f∧rSl aX c4 c8 ∈ f∧rSl aO c5 c9 ∈ f∧mE j b0 c6 c7 c8 c9=some r) ?_ ?_
       ·refine aT (fun a w=>∃ d0 F,Env 70 a [(0,pt m 0),(4,pt l 0),(5,pt s 0),(64,.bool d0)]∧Sep w (Blk m 75 [b2,b3,n,(.slice q111 j.length b1),z,A,o,.map (some e),p]::Blk l 48 bN::Blk s 128 [.bool C,t,.int .i64 S,.int .i64 T,.bool D,.int .i64 U,b4,b5,b6,b7,b8,b9]::cB Tryz.prog 2 (kyI .i64) cQ true e b0::Row 103 bG (.slice q111 j.length b1) j::Fo) F∧(∀ r,r ∈ rs→r ∈ F)∧rSl cE t u ∈ F∧mF j b0 d2 d3 Q R u d0=some r) ?_ ?_
        ·refine wp_region_lit<|pr 1 E rfl fun a E=>lb E H 2 rfl rfl rfl rfl rfl rfl rfl U4 rfl fun a E=>pr 1 E rfl fun a E=>cs hm (fun y hm=>?_) fun y hm=>?_
         ·exact pk 2 E (kc 60 rfl y) rfl fun a E=>aQ E (ws' (d:=60) E rfl rfl rfl rfl y) rfl rfl (cD (i:=4) E H rfl rfl rfl rfl U4 rfl) fun a E=>pk 1 E (kc 60 rfl y) rfl fun a E=>nt<|have H:=H.drop 2;have H:=H.frs [0,4,4,4,4] rfl;⟨_,_,E.to rfl,H,b,e0,hm⟩
         ·exact pk 4 E (kc 60 rfl y) rfl fun a E=>nt<|have H:=H.drop 2;have H:=H.frs [0,4,4,4,4] rfl;⟨_,_,E.to rfl,H,b,e0,hm⟩
        ·clear E H hm
         rintro a w ⟨d0,F,E,H,c,e3,hm⟩
         unfold mF at hm
         refine wif E hm rfl (fun hm=>?_) fun hm=>?_
         ·refine wp_region_lit<|pr 2 E rfl fun a E=>lb E H 2 rfl rfl rfl rfl rfl rfl rfl U26 rfl fun a E=>bd hm fun l4 e4 hm=>cG E rfl rfl rfl rfl rfl Sf (x6 H (c _ G) (c _ I) (c _ J) (c _ L) e3 (c _ g0) e4)<|?_
          rintro _ w ⟨l5,l6,l7,l8,l9,m1,m2,m3,m4,m5,rfl,H⟩ a E
          exact nt<|have H:=H.drop 2;have H:=H.frs [3,3,2,3] rfl;X9 ⟨E.to rfl,H,(Y2 (Y8 c)),mm6,(t1 mm6),(t2 mm6),(t3 mm6),hm⟩
         ·exact wp_skip<|aC<|have H:=H.drop 2;have H:=H.frs [3,3,2,3] rfl;X9 ⟨E.to rfl,H,c,(c _ G),(c _ I),(c _ J),(c _ L),hm⟩
       ·clear E H hm
        rintro a w ⟨c2,c3,c4,c5,c6,c7,c8,c9,f,E,H,e5,e6,e7,e8,e9,hm⟩
        unfold mE at hm
        refine sq<|sv E rfl rfl rfl (cI E rfl (E.evs rfl) (v:=.agg bN.toArray) (by kernel_rfl)) fun a E=>aZ (i:=0) E H (wn rfl) rfl rfl rfl rfl rfl rfl bU rfl rfl fun w H=>nt<|wp_ret<|dH E rfl (cV (i:=0) (us:=bN) H rfl rfl rfl U48 rfl bU)<|have H:=H.nilSl bE;have H:=H.nilSl aF;have H:=H.nilSl aJ;?_
        refine have H:=H.nilSl aV;have H:=H.nilSl bL;have H:=H.nilSl (kI .i64);have H:=H.thaw (i:=3) rfl;have H:=H.drop 0;?_
        cases hm
        exact X11 ⟨rfl,H.reads (aA mm6 (aA mm5 (aA mm4 (aA mm3 (aA mm2 (aA mm1 (aA (t7 e6) (aA (t7 e7) (aA m0 (aA (t7 e8) (aA (t7 e9) (fun r hr=>(t7 (e5 r hr))))))))))))))⟩

def rQ(c:List aH)(e:Int)(f:ByteArray)(g:Bool):Option ((List aH)×Bool):=
  if g=true then (some ([],false)) else ((idx c e).bind fun d=>(xE c (⟨f,d.Epoch,2⟩:aH)).bind fun b=>some (b.1,b.2))
def zY(b:List aH)(d:ByteArray):Option ((List aH)×Bool):=
  (oU b d).bind fun c=>if (decide (c < 0))=true then (rQ b c d true) else ((idx b c).bind fun e=>rQ b c d (e.State != 1))
theorem Cq{j:Value}{k:List aH}{f:ByteArray}(H:Sep w (Fo) rs)(c:rSl aS j k ∈ rs){r:(List aH)×Bool}(hm:zY k f=some r) :
    Calls Tryz.prog 75 [j,.string f].toArray w (Ret fun v w'=>∃ p,.tuple #[p,.bool r.2]=v∧Sep w' (Row 31 aS p r.1::Fo) (rs)):=by
 unfold zY at hm
 refine ent Tryz.func75 rfl Tryz.ntmps75 rfl rfl fun a E=>sq<|pr 2 E rfl fun a E=>nx<|pr 2 E rfl fun a E=>bd hm fun q s hm=>xk E rfl rfl rfl rfl rfl Aa (sK H c s) fun w H a E=>pr 1 E rfl fun a E=>nt<|?_
 refine wp_seq<|aT (fun a w=>∃ l g,Env 31 a [(0,j),(1,.string f),(6,.int .i64 q),(19,.bool l)]∧Sep w (Fo) g∧(∀ r,r ∈ rs→r ∈ g)∧rQ k q f l=some r) ?_ ?_
 ·refine wp_region_lit<|pr 3 E rfl fun a E=>cs hm (fun b hm=>?_) fun b hm=>?_
  ·exact pk 7 E (kc 12 rfl b) rfl fun a E=>nt<|⟨_,_,E.to rfl,H,Y0,hm⟩
  ·exact pk 2 E (kc 12 rfl b) rfl fun a E=>bd hm fun t m hm=>dE E H (ws' (d:=12) E rfl rfl rfl rfl b) rfl rfl rfl rfl rfl c U32 gL m fun q19 a H E=>have H:=H.derive1 m0 (rAt (kI .i64) (q19.add 2) t.State) (fun ok h=>yT h);pk 1 E (kc 12 rfl b) rfl fun a E=>aQ E (ws' (d:=12) E rfl rfl rfl rfl b) rfl rfl (nT E H rfl rfl m0 U3 rfl) fun a E=>pk 2 E (kc 12 rfl b) rfl fun a E=>nt<|⟨_,_,E.to rfl,H,(Y2 Y0),hm⟩
 ·clear E H hm
  rintro a w ⟨l,g,E,H,e,hm⟩
  unfold rQ at hm
  refine wif E hm rfl (fun hm=>?_) fun hm=>?_
  ·refine sq<|pr 2 E rfl fun a E=>nt<|wp_ret<|aP<|fX E rfl rfl rfl<|have H:=H.nilRow 31 aS;?_
   cases hm
   exact ⟨_,rfl,H.reads e⟩
  ·refine wp_skip<|aC<|sq<|pr 4 E rfl fun a E=>bd hm fun i n hm=>dE E H (wn rfl) rfl rfl rfl rfl rfl (e _ c) U32 gL n fun q12 a H E=>have H:=H.derive1 m0 (rAt (kI .i64) (q12.add 1) i.Epoch) (fun ok h=>yS h);pr 1 E rfl fun a E=>sv E rfl rfl rfl (nT E H rfl rfl m0 U2 rfl) fun a E=>?_
   refine sv E rfl rfl rfl (cI E rfl (E.evs rfl) (v:=.agg #[.string f,.int .i64 i.Epoch,.int .i64 2]) (by kernel_rfl)) fun a E=>bd hm fun u o hm=>cG E rfl rfl rfl rfl rfl Jb (F4 (x3:=(⟨f,i.Epoch,2⟩:aH)) H (t2 (e _ c)) o)<|?_
   rintro _ w ⟨x,rfl,H⟩ a E
   refine pr 4 E rfl fun a E=>nt<|wp_ret<|fX E rfl rfl rfl<|?_
   cases hm
   exact ⟨_,rfl,H.reads (Y2 e)⟩

def sP(x1:aH)(b:ByteArray):Option Bool:=
  some (sEq x1.Prefix b)
theorem K7{x1:aH}{b:Nat}{c:ByteArray}(H:Sep w (Blk b 9 [.string c]::Fo) rs){r:Bool}(hm:sP x1 c=some r) :
    Calls Tryz.prog 142 [.agg (kN x1).toArray,pt b 0].toArray w (Ret fun v w'=>.bool r=v∧Sep w' (Blk b 9 [.string c]::Fo) (rs)):=by
 unfold sP at hm
 refine ent Tryz.func142 rfl Tryz.ntmps142 rfl rfl fun a E=>sq<|bS E H (wn rfl) rfl rfl rfl rfl rfl fun d w a H E=>pr 1 E rfl fun a E=>nx<|pr 1 E rfl fun a E=>lb E H 0 rfl rfl rfl rfl rfl rfl rfl U9 rfl fun a E=>lb E H 1 rfl rfl rfl rfl rfl rfl rfl U9 rfl fun a E=>pr 2 E rfl fun a E=>?_
 refine nt<|wp_ret<|aY E rfl rfl<|have H:=H.drop 0;?_
 cases hm
 exact ⟨rfl,H.reads Y0⟩

def eU(c:List aH)(d:ByteArray):Nat→Int→Option Int
  | 0,_=>none
  | f+1,b=>
    if (decide (b < (c.length:Int)))=true then ((idx c b).bind fun g=>(sP g d).bind fun e=>if e=true then (some (b)) else (eU c d f (IntKind.i64.wrap (b+1)))) else (some ((-1)))
def iK(b:List aH)(c:ByteArray):Option Int:=
  eU b c (((b.length:Int) - 0:Int).toNat+1) 0
theorem tX{j:Value}{d:List aH}{e:Nat}{f:ByteArray}(H:Sep w (Blk e 9 [.string f]::Fo) rs)(i:rSl aS j d ∈ rs){r:Int}(hm:iK d f=some r) :
    Calls Tryz.prog 141 [j,.func (.func 142) #[] #[pt e 0]].toArray w (Ret fun v w'=>.int .i64 r=v∧Sep w' (Blk e 9 [.string f]::Fo) (rs)):=by
 unfold iK at hm
 refine ent Tryz.func141 rfl Tryz.ntmps141 rfl rfl fun a E=>sq<|pr 1 E rfl fun a E=>nt<|wp_seq<|sq<|pr 1 E rfl fun a E=>sv E rfl rfl rfl (cR E H rfl rfl i U32) fun a E=>pr 1 E rfl fun a E=>?_
 refine nt<|wp_block<|bX (fun c a w=>∃ k g,Env 19 a [(0,j),(1,.func (.func 142) #[] #[pt e 0]),(7,.int .i64 (d.length:Int)),(8,.int .i64 k)]∧Sep w (Blk e 9 [.string f]::Fo) g∧(∀ r,r ∈ rs→r ∈ g)∧eU d f c k=some r) (((d.length:Int) - 0:Int).toNat+1) ?_ ?_
 ·exact ⟨_,_,E.to rfl,H,Y0,hm⟩
 ·clear E H hm
  rintro c a w ⟨k,g,E,H,b,hm⟩
  cases c with
  | zero=>exact (bT hm rfl).elim
  | succ c=>
   unfold eU at hm
   refine sq<|pr 1 E rfl fun a E=>nt<|wp_seq<|wif E hm rfl (fun hm=>?_) fun hm=>?_
   ·refine wp_skip<|aC<|wp_seq<|wp_block<|sq<|pr 2 E rfl fun a E=>nx<|pr 3 E rfl fun a E=>bd hm fun o l hm=>?_
    refine dE E H (wn rfl) rfl rfl rfl rfl rfl (b _ i) U32 gL l fun q11 a H E=>ldf gZ E H rfl rfl rfl rfl rfl m0 U31 rfl gL fun a E=>bd hm fun n m hm=>aU E (wn rfl) rfl rfl (bP E rfl rfl rfl (Xv _)) (K7 H m)<|?_
    rintro _ w ⟨rfl,H⟩ a E
    refine nt<|wif E hm rfl (fun hm=>?_) fun hm=>?_
    ·refine sq<|pr 2 E rfl fun a E=>nt<|wp_ret<|bV<|aP<|aP<|bV<|aP<|?_
     refine aY E rfl rfl<|?_
     cases hm
     exact ⟨rfl,H.reads (Y1 b)⟩
    ·exact wp_skip<|bY<|aC<|wp_region_lit<|pr 2 E rfl fun a E=>nt<|⟨c,Nat.lt_succ_self c,_,_,E.to rfl,H,(Y1 b),hm⟩
   ·refine wp_exit<|bH<|bH<|dG<|aC<|sq<|pr 1 E rfl fun a E=>nt<|wp_ret<|?_
    refine aY E rfl rfl<|?_
    cases hm
    exact ⟨rfl,H.reads b⟩

def nQ(c:List aH)(d:ByteArray):Option (aH×Bool):=
  (iK c d).bind fun b=>if (decide (b < 0))=true then (some ((⟨(ByteArray.mk #[]),0,0⟩:aH),false)) else ((idx c b).bind fun e=>some (e,true))
theorem vE{n:Nat}{o c d e f g j k l:Value}{s:List aH}{m:ByteArray}(H:Sep w (Blk n 75 [c,d,o,e,f,g,j,k,l]::Fo) rs)(b:rSl aS o s ∈ rs){r:aH×Bool}(hm:nQ s m=some r) :
    Calls Tryz.prog 74 [pt n 0,.string m].toArray w (Ret fun v w'=>.tuple #[.agg (kN r.1).toArray,.bool r.2]=v∧Sep w' (Blk n 75 [c,d,o,e,f,g,j,k,l]::Fo) (rs)):=by
 unfold nQ at hm
 refine ent Tryz.func74 rfl Tryz.ntmps74 rfl rfl fun a E=>sq<|bS E H (wn rfl) rfl rfl rfl rfl rfl fun u w a H E=>al E H rfl rfl rfl rfl Cg fun x w a H E=>pr 1 E rfl fun a E=>nx<|pr 3 E rfl fun a E=>lb E H 2 rfl rfl rfl rfl rfl rfl rfl U32 rfl fun a E=>sv E rfl rfl rfl (iP E rfl rfl rfl) fun a E=>?_
 refine have H:=H.frs [2,1,2] rfl;bd hm fun y p hm=>xk E rfl rfl rfl rfl rfl Xu (tX H b p) fun w H a E=>pr 1 E rfl fun a E=>nt<|wp_seq<|sq<|pr 2 E rfl fun a E=>nt<|wif E hm rfl (fun hm=>?_) fun hm=>?_
 ·refine sq<|sv E rfl rfl rfl (cI E rfl (E.evs rfl) (v:=.agg Gn.toArray) (by kernel_rfl)) fun a E=>aZ (i:=1) E H (wn rfl) rfl rfl rfl rfl rfl rfl gL rfl rfl fun w H=>pr 1 E rfl fun a E=>nt<|wp_ret<|aP<|rJ E rfl (cV (i:=1) (us:=Gn) H rfl rfl rfl U31 rfl gL) (rvT rfl)<|have H:=H.drs [0,0];?_
  cases hm
  exact ⟨rfl,H.reads Y0⟩
 ·refine wp_skip<|aC<|sq<|pr 3 E rfl fun a E=>lb E H 2 rfl rfl rfl rfl rfl rfl rfl U32 rfl fun a E=>pr 1 E rfl fun a E=>bd hm fun t q hm=>dE E H (wn rfl) rfl rfl rfl rfl rfl b U32 gL q fun q36 a H E=>ldf gZ E H rfl rfl rfl rfl rfl m0 U31 rfl gL fun a E=>?_
  refine aZ (i:=1) E H (wn rfl) rfl rfl rfl rfl rfl rfl gL rfl rfl fun w H=>pr 1 E rfl fun a E=>nt<|wp_ret<|rJ E rfl (cV (i:=1) (us:=(kN t)) H rfl rfl rfl U31 rfl gL) (rvT rfl)<|have H:=H.drs [0,0];?_
  cases hm
  exact ⟨rfl,H.reads (Y1 Y0)⟩

def sQ(x1:aN)(b:List aH)(e:ByteArray):Option Bool:=
  (oU b x1.Dir).bind fun c=>if (decide (c ≥ 0))=true then ((idx b c).bind fun d=>some (sEq d.Prefix e)) else (some (false))
theorem K8{x1:aN}{e f:Nat}{g:Value}{p:List aH}{i:ByteArray}(H:Sep w (Blk e 32 [g]::Blk f 9 [.string i]::Fo) rs)(c:rSl aS g p ∈ rs){r:Bool}(hm:sQ x1 p i=some r) :
    Calls Tryz.prog 144 [.agg (nG x1).toArray,pt e 0,pt f 0].toArray w (Ret fun v w'=>.bool r=v∧Sep w' (Blk e 32 [g]::Blk f 9 [.string i]::Fo) (rs)):=by
 unfold sQ at hm
 refine ent Tryz.func144 rfl Tryz.ntmps144 rfl rfl fun a E=>sq<|bS E H (wn rfl) rfl rfl rfl rfl rfl fun u w a H E=>pr 1 E rfl fun a E=>nx<|lb E H 1 rfl rfl rfl rfl rfl rfl rfl U32 rfl fun a E=>pr 1 E rfl fun a E=>lb E H 0 rfl rfl rfl rfl rfl rfl rfl U9 rfl fun a E=>bd hm fun x j hm=>?_
 refine xk E rfl rfl rfl rfl rfl Aa (sK H c j) fun w H a E=>pr 1 E rfl fun a E=>nt<|wp_seq<|?_
 obtain ⟨q,H⟩:=H.raw c
 refine dw [(0,0),(1,0),(2,0),(3,0),(4,0),(5,0),(6,0),(7,0),(8,0),(9,0),(10,0),(11,2)] [1,2] [0] H (by kernel_rfl) (fun _ _ _ h=>False.elim h.2) fun w W0 hI H=>fn 3 E rfl fun a E=>cs hm (fun b hm=>?_) fun b hm=>?_
 ·refine fb E rfl (ws' (d:=12) E rfl rfl rfl rfl b) rfl rfl rfl rfl m0 rfl U32 rfl fun a E=>fk 1 E (kc 12 rfl b) rfl fun a E=>bd hm fun s l hm=>?_
  obtain ⟨q15,t,m,n⟩:=oO (P:=Tryz.prog) (k:=.i64) hI (oN (.head _)) U32 gL l
  refine bW E rfl (ws' (d:=12) E rfl rfl rfl rfl b) rfl rfl (fun w hW=>rI E rfl rfl rfl (m w)) fun a E=>?_
  have o:=uU n (fun _ _ _ h=>nV h)
  refine fk 1 E (kc 12 rfl b) rfl fun a E=>fa E rfl (ws' (d:=12) E rfl rfl rfl rfl b) rfl rfl rfl rfl o U9 rfl fun a E=>fb E rfl (ws' (d:=12) E rfl rfl rfl rfl b) rfl rfl rfl rfl mm1 rfl U9 rfl fun a E=>fk 2 E (kc 12 rfl b) rfl fun a E=>bQ rfl<|pr 1 E rfl fun a E=>nt<|bR<|?_
  clear hI
  refine aC<|wp_ret<|aY E rfl rfl<|have H:=H.drop 0;?_
  cases hm
  exact ⟨rfl,H.reads (Y1 Y0)⟩
 ·refine fk 8 E (kc 12 rfl b) rfl fun a E=>bQ rfl<|pr 1 E rfl fun a E=>nt<|bR<|?_
  clear hI
  refine aC<|wp_ret<|aY E rfl rfl<|have H:=H.drop 0;?_
  cases hm
  exact ⟨rfl,H.reads (Y1 Y0)⟩

def eV(c:List aN)(d:List aH)(e:ByteArray):Nat→Int→Option Int
  | 0,_=>none
  | i+1,b=>
    if (decide (b < (c.length:Int)))=true then ((idx c b).bind fun f=>(sQ f d e).bind fun g=>if g=true then (some (b)) else (eV c d e i (IntKind.i64.wrap (b+1)))) else (some ((-1)))
def iL(b:List aN)(c:List aH)(d:ByteArray):Option Int:=
  eV b c d (((b.length:Int) - 0:Int).toNat+1) 0
theorem tY{m k:Value}{e:List aN}{f g:Nat}{n:List aH}{i:ByteArray}(H:Sep w (Blk f 32 [k]::Blk g 9 [.string i]::Fo) rs)(l:rSl bG m e ∈ rs)(q:rSl aS k n ∈ rs){r:Int}(hm:iL e n i=some r) :
    Calls Tryz.prog 120 [m,.func (.func 144) #[] #[pt f 0,pt g 0]].toArray w (Ret fun v w'=>.int .i64 r=v∧Sep w' (Blk f 32 [k]::Blk g 9 [.string i]::Fo) (rs)):=by
 unfold iL at hm
 refine ent Tryz.func120 rfl Tryz.ntmps120 rfl rfl fun a E=>sq<|pr 1 E rfl fun a E=>nt<|wp_seq<|sq<|pr 1 E rfl fun a E=>sv E rfl rfl rfl (cR E H rfl rfl l U62) fun a E=>pr 1 E rfl fun a E=>?_
 refine nt<|wp_block<|bX (fun d a w=>∃ j c,Env 19 a [(0,m),(1,.func (.func 144) #[] #[pt f 0,pt g 0]),(7,.int .i64 (e.length:Int)),(8,.int .i64 j)]∧Sep w (Blk f 32 [k]::Blk g 9 [.string i]::Fo) c∧(∀ r,r ∈ rs→r ∈ c)∧eV e n i d j=some r) (((e.length:Int) - 0:Int).toNat+1) ?_ ?_
 ·exact ⟨_,_,E.to rfl,H,Y0,hm⟩
 ·clear E H hm
  rintro d a w ⟨j,c,E,H,b,hm⟩
  cases d with
  | zero=>exact (bT hm rfl).elim
  | succ d=>
   unfold eV at hm
   refine sq<|pr 1 E rfl fun a E=>nt<|wp_seq<|wif E hm rfl (fun hm=>?_) fun hm=>?_
   ·refine wp_skip<|aC<|wp_seq<|wp_block<|sq<|pr 2 E rfl fun a E=>nx<|pr 3 E rfl fun a E=>bd hm fun s o hm=>?_
    refine dE E H (wn rfl) rfl rfl rfl rfl rfl (b _ l) U62 gQ o fun q15 a H E=>ldf eC E H rfl rfl rfl rfl rfl m0 s9 rfl gQ fun a E=>bd hm fun t p hm=>aU E (wn rfl) rfl rfl (bP E rfl rfl rfl (Xw _)) (K8 H (t1 (b _ q)) p)<|?_
    rintro _ w ⟨rfl,H⟩ a E
    refine nt<|wif E hm rfl (fun hm=>?_) fun hm=>?_
    ·refine sq<|pr 2 E rfl fun a E=>nt<|wp_ret<|bV<|aP<|aP<|bV<|aP<|?_
     refine aY E rfl rfl<|?_
     cases hm
     exact ⟨rfl,H.reads (Y1 b)⟩
    ·exact wp_skip<|bY<|aC<|wp_region_lit<|pr 2 E rfl fun a E=>nt<|⟨d,Nat.lt_succ_self d,_,_,E.to rfl,H,(Y1 b),hm⟩
   ·refine wp_exit<|bH<|bH<|dG<|aC<|sq<|pr 1 E rfl fun a E=>nt<|wp_ret<|?_
    refine aY E rfl rfl<|?_
    cases hm
    exact ⟨rfl,H.reads b⟩

def iA(c:List aN)(d:List aH)(e:ByteArray):Option Bool:=
  (iL c d e).bind fun b=>some (decide (b ≥ 0))
theorem tI{g b:Value}{i:List aN}{c d:Nat}{j:List aH}{e:ByteArray}(H:Sep w (Blk c 32 [b]::Blk d 9 [.string e]::Fo) rs)(k:rSl bG g i ∈ rs)(l:rSl aS b j ∈ rs){r:Bool}(hm:iA i j e=some r) :
    Calls Tryz.prog 127 [g,.func (.func 144) #[] #[pt c 0,pt d 0]].toArray w (Ret fun v w'=>.bool r=v∧Sep w' (Blk c 32 [b]::Blk d 9 [.string e]::Fo) (rs)):=by
 unfold iA at hm
 refine ent Tryz.func127 rfl Tryz.ntmps127 rfl rfl fun a E=>sq<|pr 1 E rfl fun a E=>nx<|pr 2 E rfl fun a E=>bd hm fun m f hm=>xk E rfl rfl rfl rfl rfl Bi (tY H k l f) fun w H a E=>pr 2 E rfl fun a E=>nt<|?_
 refine wp_ret<|aY E rfl rfl<|?_
 cases hm
 exact ⟨rfl,H.reads Y0⟩

def qX(e:List aN)(b:List aH)(c:ByteArray):Option Bool:=
  (iA e b c).bind fun d=>some (d)
theorem s3{o:Nat}{p c d e f g i j k l:Value}{t:List aN}{m:List aH}{n:ByteArray}(H:Sep w (Blk o 75 [d,e,f,p,g,i,j,k,l]::Fo) rs)(q:rSl bG p t ∈ rs)(b:rSl aS c m ∈ rs){r:Bool}(hm:qX t m n=some r) :
    Calls Tryz.prog 77 [pt o 0,c,.string n].toArray w (Ret fun v w'=>.bool r=v∧Sep w' (Blk o 75 [d,e,f,p,g,i,j,k,l]::Fo) (rs)):=by
 unfold qX at hm
 refine ent Tryz.func77 rfl Tryz.ntmps77 rfl rfl fun a E=>sq<|?_
 obtain ⟨q34,u,rfl⟩:=H.slform b
 refine bS E H (wn rfl) rfl rfl rfl rfl rfl fun x w a H E=>bS E H (wn rfl) rfl rfl rfl rfl rfl fun y w a H E=>pr 1 E rfl fun a E=>nx<|pr 3 E rfl fun a E=>lb E H 2 rfl rfl rfl rfl rfl rfl rfl U62 rfl fun a E=>sv E rfl rfl rfl (iP E rfl rfl rfl) fun a E=>have H:=H.frs [2,1,2] rfl;bd hm fun z s hm=>?_
 refine xk E rfl rfl rfl rfl rfl Jc (tI H q b s) fun w H a E=>pr 1 E rfl fun a E=>nt<|wp_ret<|aY E rfl rfl<|have H:=H.drs [0,0];?_
 cases hm
 exact ⟨rfl,H.reads Y0⟩

def qG(b:aH×Bool)(c:(List aH))(d:(List aE))(e:(List aI)):Option (aG×(List aH)):=
  some ((⟨0,0,false,b.1.Epoch,[],(⟨d,e⟩:bB),[],[],[]⟩:aG),c)
def mI(x20:bA)(e:List aE)(f:List aI)(b:(List aH)):Option (aG×(List aH)):=
  (nQ b x20.Prefix).bind fun d=>(tL (⟨e,f⟩:bB) b x20.Prefix).bind fun c=>qG d b c.1 c.2.1
def mJ(x20:bA)(l:List aE)(m:List aI)(c:List aH)(n:List aN)(d:Bool):Option (aG×(List aH)):=
  if d=true then ((zY c x20.Prefix).bind fun b=>if (!b.2)=true then ((dM 132).bind fun e=>some (e,c)) else ((oU b.1 x20.Prefix).bind fun f=>(idx b.1 f).bind fun g=>if (g.Epoch != x20.Epoch)=true then ((dM 133).bind fun i=>some (i,c)) else ((qX n b.1 x20.Prefix).bind fun j=>if j=true then ((dM 131).bind fun k=>some (k,c)) else (mI x20 l m b.1)))) else (mI x20 l m c)
def sR(d:List aE)(e:List aI)(c:List aH)(f:List aN)(x20:bA):Option (aG×(List aH)):=
  (nQ c x20.Prefix).bind fun b=>if (b.1.State != 2)=true then (mJ x20 d e c f true) else (mJ x20 d e c f (b.1.Epoch != x20.Epoch))
theorem K9{j:Nat}{z A c1 I J K L M l m n o p:Value}{B:List aE}{C:List aI}{c2:List aH}{c3:List aN}{x20:bA}(H:Sep w (Blk j 75 [z,A,c1,I,l,m,n,o,p]::Fo) rs)(q:rSl aF z B ∈ rs)(s:rSl aJ A C ∈ rs)(g:rSl aS c1 c2 ∈ rs)(c4:rSl bG I c3 ∈ rs){r:aG×(List aH)}(hm:sR B C c2 c3 x20=some r) :
    Calls Tryz.prog 29 [pt j 0,.agg (aR x20 J K L M).toArray].toArray w (Ret fun v w'=>∃ e9 f0 f1 f2 f3 f4 f5,.agg (bC r.1 e9 f0 f1 f2 f3 f4).toArray=v∧Sep w' (Blk j 75 [z,A,f5,I,l,m,n,o,p]::Fo) (rSl bE e9 r.1.Results::rSl aF f0 r.1.Store.Nodes::rSl aJ f1 r.1.Store.Turns::rSl aV f2 r.1.Events::rSl bL f3 r.1.Mounts::rSl (kI .i64) f4 r.1.Wounded::rSl aS f5 r.2::rs)):=by
 unfold sR at hm
 refine ent Tryz.func29 rfl Tryz.ntmps29 rfl rfl fun a E=>sq<|bS E H (wn rfl) rfl rfl rfl rfl rfl fun t w a H E=>al E H rfl rfl rfl rfl gN fun y w a H E=>nt<|aT (fun a w=>∃ u N D,Env 90 a [(0,pt j 0),(3,pt t 0),(4,pt y 0)]∧Sep w (Blk j 75 [z,A,u,I,l,m,n,o,p]::Blk t 37 (aR x20 J K L M)::Blk y 48 bN::Fo) D∧(∀ r,r ∈ rs→r ∈ D)∧rSl aS u N ∈ D∧mI x20 B C N=some r) ?_ ?_
 ·refine sq<|pr 2 E rfl fun a E=>lb E H 1 rfl rfl rfl rfl rfl rfl rfl U9 rfl fun a E=>have H:=H.frs [1,1,2] rfl;bd hm fun f6 X hm=>xk E rfl rfl rfl rfl rfl Lw (vE H g X) fun w H a E=>pr 3 E rfl fun a E=>al E H rfl rfl rfl rfl Cg fun f7 w a H E=>aZ (i:=0) E H (wn rfl) rfl rfl rfl rfl rfl rfl gL rfl rfl fun w H=>?_
  refine pr 1 E rfl fun a E=>nt<|aT (fun a w=>∃ R F,Env 90 a [(0,pt j 0),(3,pt t 0),(4,pt y 0),(29,.bool R)]∧Sep w (Blk j 75 [z,A,c1,I,l,m,n,o,p]::Blk t 37 (aR x20 J K L M)::Blk y 48 bN::Fo) F∧(∀ r,r ∈ rs→r ∈ F)∧mJ x20 B C c2 c3 R=some r) ?_ ?_
  ·refine wp_region_lit<|pr 1 E rfl fun a E=>lb E H 0 rfl rfl rfl rfl rfl rfl rfl U3 rfl fun a E=>pr 2 E rfl fun a E=>cs hm (fun f hm=>?_) fun f hm=>?_
   ·exact pk 6 E (kc 23 rfl f) rfl fun a E=>nt<|have H:=H.drop 0;have H:=H.frs [1,2,2] rfl;⟨_,_,E.to rfl,H,Y0,hm⟩
   ·exact pk 1 E (kc 23 rfl f) rfl fun a E=>aQ E (ws' (d:=23) E rfl rfl rfl rfl f) rfl rfl (cD (i:=0) E H rfl rfl rfl rfl U2 rfl) fun a E=>pk 1 E (kc 23 rfl f) rfl fun a E=>aQ E (ws' (d:=23) E rfl rfl rfl rfl f) rfl rfl (cD (i:=3) E H rfl rfl rfl rfl U2 rfl) fun a E=>pk 2 E (kc 23 rfl f) rfl fun a E=>nt<|have H:=H.drop 0;have H:=H.frs [1,2,2] rfl;⟨_,_,E.to rfl,H,Y0,hm⟩
  ·clear E H hm
   rintro a w ⟨R,F,E,H,c,hm⟩
   unfold mJ at hm
   refine wif E hm rfl (fun hm=>?_) fun hm=>?_
   ·refine wp_seq<|dw [(0,0),(1,0),(2,0),(3,0),(4,0),(5,0),(6,1),(7,0),(8,0),(9,0),(10,1),(11,2)] [0,1] [] H (by kernel_rfl) (fun _ _ _ h=>False.elim h.2) fun w W0 hI H=>fn 3 E rfl fun a E=>fb E rfl (wn rfl) rfl rfl rfl rfl m0 rfl U32 rfl fun a E=>fn 1 E rfl fun a E=>fb E rfl (wn rfl) rfl rfl rfl rfl mm1 rfl U9 rfl fun a E=>bZ rfl<|bd hm fun f8 Y hm=>cG E rfl rfl rfl rfl rfl AB (Cq H (c _ g) Y)<|?_
    rintro _ w ⟨f9,rfl,H⟩ a E
    refine nt<|?_
    refine ⟨⟨_,_,H,(aB mm1 (aB mm2 (aL))),(aM)⟩,?_⟩
    refine fn 3 E rfl fun a E=>bZ rfl<|pr 1 E rfl fun a E=>nt<|?_
    refine ⟨⟨_,_,H,(aB mm1 (aB mm2 (aL))),(aM)⟩,?_⟩
    refine bQ rfl<|pr 1 E rfl fun a E=>nt<|bR<|?_
    clear hI
    refine aC<|wp_seq<|sq<|pr 2 E rfl fun a E=>nt<|wif E hm rfl (fun hm=>?_) fun hm=>?_
    ·refine sq<|bd hm fun c5 Z hm=>cG E rfl rfl rfl rfl rfl tM (dT H Z)<|?_
     rintro _ w ⟨c6,c7,c8,c9,d0,d1,rfl,H⟩ a E
     refine aZ (i:=3) E H (wn rfl) rfl rfl rfl rfl rfl rfl bU rfl (bF H m0 mm1 mm2 mm3 mm4 mm5) fun w H=>nt<|wp_ret<|aP<|aP<|dH E rfl (cV (i:=3) (us:=(bC c5 c6 c7 c8 c9 d0 d1)) H rfl rfl rfl U48 rfl bU)<|have H:=H.drs [0,1,1];?_
     cases hm
     exact X7 ⟨rfl,H.reads (aA m0 (aA mm1 (aA mm2 (aA mm3 (aA mm4 (aA mm5 (aA (t6 (c _ g)) (fun r hr=>(t6 (c r hr))))))))))⟩
    ·refine wp_skip<|aC<|wp_seq<|wp_seq<|have H:=H.thaw (i:=0) rfl;?_
     obtain ⟨g0,H⟩:=H.raw m0
     refine dw [(0,0),(1,0),(2,0),(3,0),(8,0),(9,0),(4,1),(5,0),(6,0),(7,0),(10,0)] [1] [0] H (by kernel_rfl) (fun _ _ _ h=>False.elim h.2) fun w W0 hI H=>fn 3 E rfl fun a E=>fb E rfl (wn rfl) rfl rfl rfl rfl m0 rfl U9 rfl fun a E=>fn 1 E rfl fun a E=>fb E rfl (wn rfl) rfl rfl rfl rfl m0 rfl U2 rfl fun a E=>bZ rfl<|bd hm fun g1 b0 hm=>xk E rfl rfl rfl rfl rfl Aa (sK H mm1 b0) fun w H a E=>nt<|?_
     refine ⟨⟨_,_,H,(aB mm1 (aL)),(aA m0 (aM))⟩,?_⟩
     refine bd hm fun g2 b1 hm=>?_
     obtain ⟨q258,g3,b2,b3⟩:=oO (P:=Tryz.prog) (k:=.i64) hI (oN (.head _)) U32 gL b1
     refine bW E rfl (wn rfl) rfl rfl (fun w hW=>rI E rfl rfl rfl (b2 w)) fun a E=>?_
     have b4:=uU b3 (fun _ _ _ h=>Ba h)
     refine fn 1 E rfl fun a E=>fa E rfl (wn rfl) rfl rfl rfl rfl b4 U2 rfl fun a E=>fn 1 E rfl fun a E=>bR<|?_
     clear hI
     refine aC<|wif E hm rfl (fun hm=>?_) fun hm=>?_
     ·refine sq<|bd hm fun d2 b5 hm=>cG E rfl rfl rfl rfl rfl tM (dT H b5)<|?_
      rintro _ w ⟨d3,d4,d5,d6,d7,d8,rfl,H⟩ a E
      refine aZ (i:=2) E H (wn rfl) rfl rfl rfl rfl rfl rfl bU rfl (bF H m0 mm1 mm2 mm3 mm4 mm5) fun w H=>nt<|wp_ret<|aP<|aP<|dH E rfl (cV (i:=2) (us:=(bC d2 d3 d4 d5 d6 d7 d8)) H rfl rfl rfl U48 rfl bU)<|have H:=H.drs [1,1];?_
      cases hm
      exact X7 ⟨rfl,H.reads (aA m0 (aA mm1 (aA mm2 (aA mm3 (aA mm4 (aA mm5 (aA (t8 (c _ g)) (fun r hr=>(t8 (c r hr))))))))))⟩
     ·refine wp_skip<|aC<|wp_seq<|sq<|pr 3 E rfl fun a E=>lb E H 1 rfl rfl rfl rfl rfl rfl rfl U9 rfl fun a E=>bd hm fun g4 b6 hm=>xk E rfl rfl rfl rfl rfl St (s3 H (t2 (c _ c4)) mm1 b6) fun w H a E=>nt<|wif E hm rfl (fun hm=>?_) fun hm=>?_
      ·refine sq<|bd hm fun d9 b7 hm=>cG E rfl rfl rfl rfl rfl tM (dT H b7)<|?_
       rintro _ w ⟨e0,e1,e2,e3,e4,e5,rfl,H⟩ a E
       refine aZ (i:=2) E H (wn rfl) rfl rfl rfl rfl rfl rfl bU rfl (bF H m0 mm1 mm2 mm3 mm4 mm5) fun w H=>nt<|wp_ret<|aP<|aP<|dH E rfl (cV (i:=2) (us:=(bC d9 e0 e1 e2 e3 e4 e5)) H rfl rfl rfl U48 rfl bU)<|have H:=H.drs [1,1];?_
       cases hm
       exact X7 ⟨rfl,H.reads (aA m0 (aA mm1 (aA mm2 (aA mm3 (aA mm4 (aA mm5 (aA (t8 (c _ g)) (fun r hr=>(t8 (c r hr))))))))))⟩
      ·refine wp_skip<|aC<|wp_region_lit<|pr 4 E rfl fun a E=>?_
       obtain ⟨q281,g5,rfl⟩:=H.slform mm1
       exact aZ (i:=0) E H (wn rfl) rfl rfl rfl rfl rfl rfl Lv rfl rfl fun w H=>nt<|X3 ⟨E.to rfl,H,(Y2 c),mm1,hm⟩
   ·exact wp_skip<|aC<|X3 ⟨E.to rfl,H,c,(c _ g),hm⟩
 ·clear E H hm
  rintro a w ⟨u,N,D,E,H,b,e,hm⟩
  unfold mI at hm
  refine sq<|pr 2 E rfl fun a E=>lb E H 1 rfl rfl rfl rfl rfl rfl rfl U9 rfl fun a E=>bd hm fun S e6 hm=>xk E rfl rfl rfl rfl rfl Lw (vE H e e6) fun w H a E=>pr 3 E rfl fun a E=>al E H rfl rfl rfl rfl Cg fun b8 w a H E=>aZ (i:=0) E H (wn rfl) rfl rfl rfl rfl rfl rfl gL rfl rfl fun w H=>pr 1 E rfl fun a E=>?_
  refine nt<|aT (fun a w=>∃ V T U O Q G,Env 90 a [(4,pt y 0),(9,pt b8 0),(11,pt V 0)]∧Sep w (Blk y 48 bN::Blk b8 31 (kN S.1)::Blk V 25 [T,U]::Blk j 75 [z,A,u,I,l,m,n,o,p]::Row 95 aF T O::Row 77 aJ U Q::Fo) G∧(∀ r,r ∈ rs→r ∈ G)∧rSl aS u N ∈ G∧qG S N O Q=some r) ?_ ?_
  ·refine bd hm fun n1 x hm=>?_
   have hI:dP [Blk j 75 [z,A,u,I,l,m,n,o,p],Blk t 37 (aR x20 J K L M)] [] { w with drawn:=w.drawn+1 }:=⟨_,_,H.kept (Kp.drawn _ w _),(aB mm1 (aB mm2 (aL))),(aM)⟩
   refine jY _ (.go 0 0 (.go 1 0 (.go 2 0 (.go 3 0 (.go 4 0 (.go 5 0 (.go 6 0 (.go 7 0 (.go 8 0 (.go 9 0 (.alt3 10 (.go 11 0 (.go 12 0 (.go 13 0 (.alt 14 (.go 15 1 (.go 16 1 (.go 17 2 .nil))) 15 (.go 14 1 (.go 16 1 (.go 17 2 .nil))))))) 14 (.alt 10 (.go 11 0 (.go 12 0 (.go 13 0 (.go 15 1 (.go 16 1 (.go 17 2 .nil)))))) 15 (.go 10 1 (.go 11 0 (.go 12 0 (.go 13 0 (.go 16 1 (.go 17 2 .nil))))))) 15 (.alt 10 (.go 11 0 (.go 12 0 (.go 13 0 (.go 14 1 (.go 16 1 (.go 17 2 .nil)))))) 14 (.go 10 1 (.go 11 0 (.go 12 0 (.go 13 0 (.go 16 1 (.go 17 2 .nil)))))))))))))))))) [17] kG (by kernel_rfl) (fun _ _ _ h=>False.elim h.2) hI<|have H:=H.kept (Kp.drawn _ w (w.drawn+1));?_
   generalize ({ w with drawn:=w.drawn+1 }:World)=w at H hI ⊢
   replace hI:∃ W,dP [Blk j 75 [z,A,u,I,l,m,n,o,p],Blk t 37 (aR x20 J K L M)] [] W:=⟨_,hI⟩
   obtain ⟨W0,hI⟩:=hI
   refine aW E rfl (wn rfl) rfl rfl (fun w hW=>(bD E rfl rfl)) fun a E=>aW E rfl (wn rfl) rfl rfl (fun w hW=>(sF E rfl rfl)) fun a E=>aW E rfl (wn rfl) rfl rfl (fun w hW=>iY E rfl rfl (v:=pt j 0) (Bj _ _)) fun a E=>aW E rfl (wn rfl) rfl rfl (fun w hW=>eZ E rfl rfl (yN (us:=[z,A]) m0 rfl U25 rfl dA w hW)) fun a E=>aW E rfl (wn rfl) rfl rfl (fun w hW=>(bD E rfl rfl)) fun a E=>aW E rfl (wn rfl) rfl rfl (fun w hW=>(sF E rfl rfl)) fun a E=>aW E rfl (wn rfl) rfl rfl (fun w hW=>iY E rfl rfl (v:=pt j 2) (Ke _ _)) fun a E=>aW E rfl (wn rfl) rfl rfl (fun w hW=>eZ E rfl rfl (kD m0 rfl U32 rfl w hW)) fun a E=>aW E rfl (wn rfl) rfl rfl (fun w hW=>iY E rfl rfl (v:=pt t 6) (Fp _ _)) fun a E=>?_
   refine aW E rfl (wn rfl) rfl rfl (fun w hW=>eZ E rfl rfl (kD mm1 rfl U9 rfl w hW)) fun a E=>?_
   refine Hc rfl rfl rfl ?_ ?_ ?_
   ·refine cG E rfl rfl rfl rfl rfl u7 (jL (x1:=(⟨B,C⟩:bB)) H (b _ q) (b _ s) e x)<|?_
    rintro _ w ⟨g6,g7,g8,g9,rfl,H⟩ a E
    refine nt<|?_
    refine ⟨⟨_,_,H,(aB mm5 (aB mm6 (aL))),(aM)⟩,?_⟩
    refine aW E rfl (wn rfl) rfl rfl (fun w hW=>(bD E rfl rfl)) fun a E=>aW E rfl (wn rfl) rfl rfl (fun w hW=>(cX E rfl rfl rfl)) fun a E=>aW E rfl (wn rfl) rfl rfl (fun w hW=>(cX E rfl rfl rfl)) fun a E=>?_
    refine kM rfl rfl ?_ ?_
    ·refine al E H rfl rfl rfl rfl jN fun i0 w a H E=>nt<|?_
     refine ⟨⟨_,_,H,(aB mm6 (aB (t1 mm6) (aL))),(aM)⟩,?_⟩
     refine cJ rfl<|al E H rfl rfl rfl rfl jN fun i1 w a H E=>nt<|?_
     refine ⟨⟨_,_,H,(aB (t1 mm6) (aB (t2 mm6) (aL))),(aM)⟩,?_⟩
     refine cJ rfl<|?_
     obtain ⟨q156,i2,rfl⟩:=H.rowform (i:=2) rfl
     obtain ⟨q158,i3,rfl⟩:=H.rowform (i:=3) rfl
     refine aZ (i:=1) E H (wn rfl) rfl rfl rfl rfl rfl rfl dA rfl rfl fun w H=>nt<|?_
     refine ⟨⟨_,_,H,(aB (t1 mm6) (aB (t2 mm6) (aL))),(aM)⟩,?_⟩
     refine cP rfl<|?_
     obtain ⟨q160,i4,rfl⟩:=H.rowform (i:=4) rfl
     obtain ⟨q162,i5,rfl⟩:=H.rowform (i:=5) rfl
     refine aZ (i:=0) E H (wn rfl) rfl rfl rfl rfl rfl rfl dA rfl rfl fun w H=>nt<|dW<|?_
     clear hI
     exact aC<|have H:=H.drs [0,3,3,5];have H:=H.frs [2,2,4,3,4,5] rfl;X6 ⟨E.to rfl,H,b,e,hm⟩
    ·refine al E H rfl rfl rfl rfl jN fun i6 w a H E=>nt<|?_
     refine ⟨⟨_,_,H,(aB mm6 (aB (t1 mm6) (aL))),(aM)⟩,?_⟩
     refine cJ rfl<|al E H rfl rfl rfl rfl jN fun i7 w a H E=>nt<|?_
     refine ⟨⟨_,_,H,(aB (t1 mm6) (aB (t2 mm6) (aL))),(aM)⟩,?_⟩
     refine cJ rfl<|?_
     obtain ⟨q166,i8,rfl⟩:=H.rowform (i:=2) rfl
     obtain ⟨q168,i9,rfl⟩:=H.rowform (i:=3) rfl
     refine aZ (i:=0) E H (wn rfl) rfl rfl rfl rfl rfl rfl dA rfl rfl fun w H=>nt<|?_
     refine ⟨⟨_,_,H,(aB (t1 mm6) (aB (t2 mm6) (aL))),(aM)⟩,?_⟩
     refine cP rfl<|?_
     obtain ⟨q170,j0,rfl⟩:=H.rowform (i:=4) rfl
     obtain ⟨q172,j1,rfl⟩:=H.rowform (i:=5) rfl
     refine aZ (i:=1) E H (wn rfl) rfl rfl rfl rfl rfl rfl dA rfl rfl fun w H=>nt<|dW<|?_
     clear hI
     exact aC<|have H:=H.drs [1,3,3,5];have H:=H.frs [2,2,4,3,4,5] rfl;X6 ⟨E.to rfl,H,b,e,hm⟩
   ·refine al E H rfl rfl rfl rfl jN fun j2 w a H E=>nt<|?_
    refine ⟨⟨_,_,H,(aB mm2 (aB mm3 (aL))),(aM)⟩,?_⟩
    refine kM rfl rfl ?_ ?_
    ·refine cG E rfl rfl rfl rfl rfl u7 (jL (x1:=(⟨B,C⟩:bB)) H (b _ q) (b _ s) e x)<|?_
     rintro _ w ⟨j3,j4,j5,j6,rfl,H⟩ a E
     refine nt<|?_
     refine ⟨⟨_,_,H,(aB mm6 (aB (t1 mm6) (aL))),(aM)⟩,?_⟩
     refine aW E rfl (wn rfl) rfl rfl (fun w hW=>(bD E rfl rfl)) fun a E=>aW E rfl (wn rfl) rfl rfl (fun w hW=>(cX E rfl rfl rfl)) fun a E=>aW E rfl (wn rfl) rfl rfl (fun w hW=>(cX E rfl rfl rfl)) fun a E=>cJ rfl<|al E H rfl rfl rfl rfl jN fun j7 w a H E=>nt<|?_
     refine ⟨⟨_,_,H,(aB (t1 mm6) (aB (t2 mm6) (aL))),(aM)⟩,?_⟩
     refine cJ rfl<|?_
     obtain ⟨q182,j8,rfl⟩:=H.rowform (i:=1) rfl
     obtain ⟨q184,j9,rfl⟩:=H.rowform (i:=2) rfl
     refine aZ (i:=5) E H (wn rfl) rfl rfl rfl rfl rfl rfl dA rfl rfl fun w H=>nt<|?_
     refine ⟨⟨_,_,H,(aB (t1 mm6) (aB (t2 mm6) (aL))),(aM)⟩,?_⟩
     refine cP rfl<|?_
     obtain ⟨q186,k0,rfl⟩:=H.rowform (i:=3) rfl
     obtain ⟨q188,k1,rfl⟩:=H.rowform (i:=4) rfl
     refine aZ (i:=0) E H (wn rfl) rfl rfl rfl rfl rfl rfl dA rfl rfl fun w H=>nt<|dW<|?_
     clear hI
     exact aC<|have H:=H.drs [0,2,2,5];have H:=H.frs [1,1,4,3,4,5] rfl;X6 ⟨E.to rfl,H,b,e,hm⟩
    ·refine al E H rfl rfl rfl rfl jN fun k2 w a H E=>nt<|?_
     refine ⟨⟨_,_,H,(aB mm3 (aB mm4 (aL))),(aM)⟩,?_⟩
     refine cJ rfl<|cG E rfl rfl rfl rfl rfl u7 (jL (x1:=(⟨B,C⟩:bB)) H (b _ q) (b _ s) e x)<|?_
     rintro _ w ⟨k3,k4,k5,k6,rfl,H⟩ a E
     refine nt<|?_
     refine ⟨⟨_,_,H,(aB (t1 mm6) (aB (t2 mm6) (aL))),(aM)⟩,?_⟩
     refine aW E rfl (wn rfl) rfl rfl (fun w hW=>(bD E rfl rfl)) fun a E=>aW E rfl (wn rfl) rfl rfl (fun w hW=>(cX E rfl rfl rfl)) fun a E=>aW E rfl (wn rfl) rfl rfl (fun w hW=>(cX E rfl rfl rfl)) fun a E=>cJ rfl<|?_
     obtain ⟨q197,k7,rfl⟩:=H.rowform (i:=0) rfl
     obtain ⟨q199,k8,rfl⟩:=H.rowform (i:=1) rfl
     refine aZ (i:=5) E H (wn rfl) rfl rfl rfl rfl rfl rfl dA rfl rfl fun w H=>nt<|?_
     refine ⟨⟨_,_,H,(aB (t1 mm6) (aB (t2 mm6) (aL))),(aM)⟩,?_⟩
     refine cP rfl<|?_
     obtain ⟨q201,k9,rfl⟩:=H.rowform (i:=2) rfl
     obtain ⟨q203,l0,rfl⟩:=H.rowform (i:=3) rfl
     refine aZ (i:=4) E H (wn rfl) rfl rfl rfl rfl rfl rfl dA rfl rfl fun w H=>nt<|dW<|?_
     clear hI
     exact aC<|have H:=H.drs [2,2,2,5];have H:=H.frs [1,1,4,3,4,5] rfl;X6 ⟨E.to rfl,H,b,e,hm⟩
   ·refine al E H rfl rfl rfl rfl jN fun l1 w a H E=>nt<|?_
    refine ⟨⟨_,_,H,(aB mm2 (aB mm3 (aL))),(aM)⟩,?_⟩
    refine kM rfl rfl ?_ ?_
    ·refine cG E rfl rfl rfl rfl rfl u7 (jL (x1:=(⟨B,C⟩:bB)) H (b _ q) (b _ s) e x)<|?_
     rintro _ w ⟨l2,l3,l4,l5,rfl,H⟩ a E
     refine nt<|?_
     refine ⟨⟨_,_,H,(aB mm6 (aB (t1 mm6) (aL))),(aM)⟩,?_⟩
     refine aW E rfl (wn rfl) rfl rfl (fun w hW=>(bD E rfl rfl)) fun a E=>aW E rfl (wn rfl) rfl rfl (fun w hW=>(cX E rfl rfl rfl)) fun a E=>aW E rfl (wn rfl) rfl rfl (fun w hW=>(cX E rfl rfl rfl)) fun a E=>cJ rfl<|al E H rfl rfl rfl rfl jN fun l6 w a H E=>nt<|?_
     refine ⟨⟨_,_,H,(aB (t1 mm6) (aB (t2 mm6) (aL))),(aM)⟩,?_⟩
     refine cJ rfl<|?_
     obtain ⟨q213,l7,rfl⟩:=H.rowform (i:=1) rfl
     obtain ⟨q215,l8,rfl⟩:=H.rowform (i:=2) rfl
     refine aZ (i:=0) E H (wn rfl) rfl rfl rfl rfl rfl rfl dA rfl rfl fun w H=>nt<|?_
     refine ⟨⟨_,_,H,(aB (t1 mm6) (aB (t2 mm6) (aL))),(aM)⟩,?_⟩
     refine cP rfl<|?_
     obtain ⟨q217,l9,rfl⟩:=H.rowform (i:=3) rfl
     obtain ⟨q219,m1,rfl⟩:=H.rowform (i:=4) rfl
     refine aZ (i:=5) E H (wn rfl) rfl rfl rfl rfl rfl rfl dA rfl rfl fun w H=>nt<|dW<|?_
     clear hI
     exact aC<|have H:=H.drs [3,3,3,5];have H:=H.frs [2,2,4,3,4,5] rfl;X6 ⟨E.to rfl,H,b,e,hm⟩
    ·refine al E H rfl rfl rfl rfl jN fun m2 w a H E=>nt<|?_
     refine ⟨⟨_,_,H,(aB mm3 (aB mm4 (aL))),(aM)⟩,?_⟩
     refine cJ rfl<|cG E rfl rfl rfl rfl rfl u7 (jL (x1:=(⟨B,C⟩:bB)) H (b _ q) (b _ s) e x)<|?_
     rintro _ w ⟨m3,m4,m5,m6,rfl,H⟩ a E
     refine nt<|?_
     refine ⟨⟨_,_,H,(aB (t1 mm6) (aB (t2 mm6) (aL))),(aM)⟩,?_⟩
     refine aW E rfl (wn rfl) rfl rfl (fun w hW=>(bD E rfl rfl)) fun a E=>aW E rfl (wn rfl) rfl rfl (fun w hW=>(cX E rfl rfl rfl)) fun a E=>aW E rfl (wn rfl) rfl rfl (fun w hW=>(cX E rfl rfl rfl)) fun a E=>cJ rfl<|?_
     obtain ⟨q228,m7,rfl⟩:=H.rowform (i:=0) rfl
     obtain ⟨q230,m8,rfl⟩:=H.rowform (i:=1) rfl
     refine aZ (i:=4) E H (wn rfl) rfl rfl rfl rfl rfl rfl dA rfl rfl fun w H=>nt<|?_
     refine ⟨⟨_,_,H,(aB (t1 mm6) (aB (t2 mm6) (aL))),(aM)⟩,?_⟩
     refine cP rfl<|?_
     obtain ⟨q232,m9,rfl⟩:=H.rowform (i:=2) rfl
     obtain ⟨q234,n0,rfl⟩:=H.rowform (i:=3) rfl
     refine aZ (i:=5) E H (wn rfl) rfl rfl rfl rfl rfl rfl dA rfl rfl fun w H=>nt<|dW<|?_
     clear hI
     exact aC<|have H:=H.drs [2,2,3,5];have H:=H.frs [1,1,4,3,4,5] rfl;X6 ⟨E.to rfl,H,b,e,hm⟩
  ·clear E H hm
   rintro a w ⟨V,T,U,O,Q,G,E,H,e7,e8,hm⟩
   unfold qG at hm
   refine sq<|pr 1 E rfl fun a E=>lb E H 1 rfl rfl rfl rfl rfl rfl rfl U2 rfl fun a E=>sv E rfl rfl rfl (cA (i:=2) (us:=[T,U]) E H rfl rfl rfl rfl U25 rfl dA) fun a E=>?_
   obtain ⟨q56,b9,rfl⟩:=H.rowform (i:=4) rfl
   obtain ⟨q58,c0,rfl⟩:=H.rowform (i:=5) rfl
   refine sv E rfl rfl rfl (cI E rfl (E.evs rfl) (v:=.agg #[.int .i64 0,.int .i64 0,.bool false,.int .i64 S.1.Epoch,.slice none 0 0,(.slice q56 O.length b9),(.slice q58 Q.length c0),.slice none 0 0,.slice none 0 0,.slice none 0 0]) (by kernel_rfl)) fun a E=>aZ (i:=0) E H (wn rfl) rfl rfl rfl rfl rfl rfl bU rfl rfl fun w H=>nt<|wp_ret<|dH E rfl (cV (i:=0) (us:=[.int .i64 0,.int .i64 0,.bool false,.int .i64 S.1.Epoch,.slice none 0 0,(.slice q56 O.length b9),(.slice q58 Q.length c0),.slice none 0 0,.slice none 0 0,.slice none 0 0]) H rfl rfl rfl U48 rfl bU)<|have H:=H.thaw (i:=4) rfl;have H:=H.thaw (i:=4) rfl;have H:=H.nilSl bE;have H:=H.nilSl aV;?_
   refine have H:=H.nilSl bL;have H:=H.nilSl (kI .i64);have H:=H.drs [0,0,0];?_
   cases hm
   exact X7 ⟨rfl,H.reads (aA mm3 (aA mm5 (aA mm4 (aA mm2 (aA mm1 (aA m0 (aA (t6 e8) (fun r hr=>(t6 (e7 r hr))))))))))⟩

def qY(d:List aH)(e:ByteArray)(f:Int)(c:Bool):Option ((List aH)×Bool):=
  if c=true then (some ([],false)) else ((xE d (⟨e,f,1⟩:aH)).bind fun b=>some (b.1,b.2))
def lI(b:List aH)(c:ByteArray)(d:Int)(g:Bool):Option ((List aH)×Bool):=
  if g=true then (some ([],false)) else ((uY b c).bind fun e=>if e.2=true then ((idx b e.1).bind fun f=>qY b c d (decide (f.Epoch ≥ d))) else (qY b c d false))
def zF(c:List aH)(d:ByteArray)(b:Int):Option ((List aH)×Bool):=
  (oL c).bind fun e=>if (!e)=true then (lI c d b true) else ((fA d).bind fun f=>if (!f)=true then (lI c d b true) else (if (decide (b < 0))=true then (lI c d b true) else (lI c d b (decide (b > 281474976710656)))))
theorem Bw{p:Value}{q:List aH}{e:ByteArray}{f:Int}(H:Sep w (Fo) rs)(m:rSl aS p q ∈ rs){r:(List aH)×Bool}(hm:zF q e f=some r) :
    Calls Tryz.prog 79 [p,.string e,.int .i64 f].toArray w (Ret fun v w'=>∃ A,.tuple #[A,.bool r.2]=v∧Sep w' (Row 31 aS A r.1::Fo) (rs)):=by
 unfold zF at hm
 refine ent Tryz.func79 rfl Tryz.ntmps79 rfl rfl fun a E=>sq<|pr 2 E rfl fun a E=>nt<|wp_seq<|aT (fun a w=>∃ s n,Env 49 a [(0,p),(1,.string e),(2,.int .i64 f),(25,.bool s)]∧Sep w (Fo) n∧(∀ r,r ∈ rs→r ∈ n)∧lI q e f s=some r) ?_ ?_
 ·refine wp_region_lit<|pr 1 E rfl fun a E=>bd hm fun C t hm=>xk E rfl rfl rfl rfl rfl Fk (tB H m t) fun w H a E=>pr 2 E rfl fun a E=>cs hm (fun c hm=>?_) fun c hm=>?_
  ·exact pk 12 E (kc 13 rfl c) rfl fun a E=>nt<|⟨_,_,E.to rfl,H,Y0,hm⟩
  ·refine pk 1 E (kc 13 rfl c) rfl fun a E=>bd hm fun D u hm=>aU E (ws' (d:=13) E rfl rfl rfl rfl c) rfl rfl (cC E rfl rfl (yU _)) (gC H u)<|?_
   rintro _ w ⟨rfl,H⟩ a E
   refine pk 3 E (kc 13 rfl c) rfl fun a E=>cs hm (fun i hm=>?_) fun i hm=>?_
   ·exact pk 7 E (kc 18 rfl i) rfl fun a E=>nt<|⟨_,_,E.to rfl,H,Y0,hm⟩
   ·refine pk 4 E (kc 18 rfl i) rfl fun a E=>cs hm (fun j hm=>?_) fun j hm=>?_
    ·exact pk 3 E (kc 22 rfl j) rfl fun a E=>nt<|⟨_,_,E.to rfl,H,Y0,hm⟩
    ·exact pk 3 E (kc 22 rfl j) rfl fun a E=>nt<|⟨_,_,E.to rfl,H,Y0,hm⟩
 ·clear E H hm
  rintro a w ⟨s,n,E,H,g,hm⟩
  unfold lI at hm
  refine wif E hm rfl (fun hm=>?_) fun hm=>?_
  ·refine sq<|pr 2 E rfl fun a E=>nt<|wp_ret<|aP<|fX E rfl rfl rfl<|have H:=H.nilRow 31 aS;?_
   cases hm
   exact ⟨_,rfl,H.reads g⟩
  ·refine wp_skip<|aC<|wp_seq<|sq<|pr 2 E rfl fun a E=>bd hm fun I x hm=>xk E rfl rfl rfl rfl rfl Ja (A7 H (g _ m) x) fun w H a E=>pr 5 E rfl fun a E=>nt<|aT (fun a w=>∃ o k,Env 49 a [(0,p),(1,.string e),(2,.int .i64 f),(41,.bool o)]∧Sep w (Fo) k∧(∀ r,r ∈ rs→r ∈ k)∧qY q e f o=some r) ?_ ?_
   ·refine wp_region_lit<|pr 2 E rfl fun a E=>cs hm (fun b hm=>?_) fun b hm=>?_
    ·exact pk 2 E (kc 33 rfl b) rfl fun a E=>bd hm fun B y hm=>dE E H (ws' (d:=33) E rfl rfl rfl rfl b) rfl rfl rfl rfl rfl (g _ m) U32 gL y fun q20 a H E=>have H:=H.derive1 m0 (rAt (kI .i64) (q20.add 1) B.Epoch) (fun ok h=>yS h);pk 1 E (kc 33 rfl b) rfl fun a E=>aQ E (ws' (d:=33) E rfl rfl rfl rfl b) rfl rfl (nT E H rfl rfl m0 U2 rfl) fun a E=>pk 3 E (kc 33 rfl b) rfl fun a E=>nt<|⟨_,_,E.to rfl,H,(Y2 g),hm⟩
    ·exact pk 8 E (kc 33 rfl b) rfl fun a E=>nt<|⟨_,_,E.to rfl,H,g,hm⟩
   ·clear E H hm
    rintro a w ⟨o,k,E,H,l,hm⟩
    unfold qY at hm
    refine wif E hm rfl (fun hm=>?_) fun hm=>?_
    ·refine sq<|pr 2 E rfl fun a E=>nt<|wp_ret<|aP<|fX E rfl rfl rfl<|have H:=H.nilRow 31 aS;?_
     cases hm
     exact ⟨_,rfl,H.reads l⟩
    ·refine wp_skip<|aC<|sq<|pr 3 E rfl fun a E=>sv E rfl rfl rfl (cI E rfl (E.evs rfl) (v:=.agg #[.string e,.int .i64 f,.int .i64 1]) (by kernel_rfl)) fun a E=>bd hm fun F z hm=>cG E rfl rfl rfl rfl rfl Jb (F4 (x3:=(⟨e,f,1⟩:aH)) H (l _ m) z)<|?_
     rintro _ w ⟨G,rfl,H⟩ a E
     refine pr 4 E rfl fun a E=>nt<|wp_ret<|fX E rfl rfl rfl<|?_
     cases hm
     exact ⟨_,rfl,H.reads l⟩

def rV(x1:aN)(e:List aH)(b:List aH):Option Bool:=
  (oU e x1.Dir).bind fun c=>(oU b x1.Dir).bind fun d=>if (decide (c < 0))=true then (some (true)) else (if (decide (d < 0))=true then (some (true)) else ((idx e c).bind fun f=>(idx b d).bind fun g=>some (!(sEq f.Prefix g.Prefix))))
theorem I6{x1:aN}{x j e:Nat}{y f l m n o p q s t:Value}{L u:List aH}(H:Sep w (Blk x 28 [pt j 0]::Blk j 75 [l,m,y,n,o,p,q,s,t]::Blk e 32 [f]::Fo) rs)(g:rSl aS y L ∈ rs)(i:rSl aS f u ∈ rs){r:Bool}(hm:rV x1 L u=some r) :
    Calls Tryz.prog 155 [.agg (nG x1).toArray,pt x 0,pt e 0].toArray w (Ret fun v w'=>.bool r=v∧Sep w' (Blk x 28 [pt j 0]::Blk j 75 [l,m,y,n,o,p,q,s,t]::Blk e 32 [f]::Fo) (rs)):=by
 unfold rV at hm
 refine ent Tryz.func155 rfl Tryz.ntmps155 rfl rfl fun a E=>sq<|bS E H (wn rfl) rfl rfl rfl rfl rfl fun M w a H E=>pr 1 E rfl fun a E=>nt<|wp_seq<|dw [(0,0),(1,0),(2,0),(3,0),(4,0),(5,0),(7,0),(8,0),(9,0),(6,1),(10,1),(11,1),(12,2)] [0,1,2,3] [] H (by kernel_rfl) (fun _ _ _ h=>False.elim h.2) fun w W0 hI H=>fb E rfl (wn rfl) rfl rfl rfl rfl mm1 rfl U28 rfl fun a E=>fn 2 E rfl fun a E=>?_
 refine fb E rfl (wn rfl) rfl rfl rfl rfl mm2 rfl U32 rfl fun a E=>fn 1 E rfl fun a E=>fb E rfl (wn rfl) rfl rfl rfl rfl m0 rfl U9 rfl fun a E=>fb E rfl (wn rfl) rfl rfl rfl rfl mm3 rfl U32 rfl fun a E=>fn 1 E rfl fun a E=>fb E rfl (wn rfl) rfl rfl rfl rfl m0 rfl U9 rfl fun a E=>bZ rfl<|bd hm fun N z hm=>xk E rfl rfl rfl rfl rfl Aa (sK H g z) fun w H a E=>?_
 refine nt<|?_
 refine ⟨⟨_,_,H,(aB m0 (aB mm1 (aB mm2 (aB mm3 (aL))))),(aM)⟩,?_⟩
 refine bZ rfl<|bd hm fun O A hm=>xk E rfl rfl rfl rfl rfl Aa (sK H i A) fun w H a E=>nt<|?_
 refine ⟨⟨_,_,H,(aB m0 (aB mm1 (aB mm2 (aB mm3 (aL))))),(aM)⟩,?_⟩
 refine bZ rfl<|pr 1 E rfl fun a E=>nt<|?_
 refine ⟨⟨_,_,H,(aB m0 (aB mm1 (aB mm2 (aB mm3 (aL))))),(aM)⟩,?_⟩
 refine bQ rfl<|pr 1 E rfl fun a E=>nt<|bR<|?_
 clear hI
 refine aC<|wp_seq<|?_
 obtain ⟨Q,H⟩:=H.raw g
 obtain ⟨R,H⟩:=H.raw (t1 i)
 refine dw [(0,0),(1,0),(2,0),(3,0),(4,0),(5,0),(6,0),(7,0),(8,0),(9,0),(10,0),(11,0),(12,0),(13,0),(14,0),(15,0),(16,0),(17,0),(18,0),(19,0),(20,0),(21,0),(22,2)] [1,2,3] [1,0] H (by kernel_rfl) (fun _ _ _ h=>False.elim h.2) fun w W0 hI H=>fn 3 E rfl fun a E=>cs hm (fun c hm=>?_) fun c hm=>?_
 ·refine fk 19 E (kc 20 rfl c) rfl fun a E=>bQ rfl<|pr 1 E rfl fun a E=>nt<|bR<|?_
  clear hI
  refine aC<|wp_ret<|aY E rfl rfl<|have H:=H.drop 0;?_
  cases hm
  exact ⟨rfl,H.reads (Y2 Y0)⟩
 ·refine fk 4 E (kc 20 rfl c) rfl fun a E=>cs hm (fun b hm=>?_) fun b hm=>?_
  ·refine fk 15 E (kc 24 rfl b) rfl fun a E=>bQ rfl<|pr 1 E rfl fun a E=>nt<|bR<|?_
   clear hI
   refine aC<|wp_ret<|aY E rfl rfl<|have H:=H.drop 0;?_
   cases hm
   exact ⟨rfl,H.reads (Y2 Y0)⟩
  ·refine fb E rfl (ws' (d:=24) E rfl rfl rfl rfl b) rfl rfl rfl rfl m0 rfl U28 rfl fun a E=>fk 2 E (kc 24 rfl b) rfl fun a E=>fb E rfl (ws' (d:=24) E rfl rfl rfl rfl b) rfl rfl rfl rfl mm1 rfl U32 rfl fun a E=>fk 1 E (kc 24 rfl b) rfl fun a E=>bd hm fun S B hm=>?_
   obtain ⟨q46,T,C,D⟩:=oO (P:=Tryz.prog) (k:=.i64) hI (oN (.head _)) U32 gL B
   refine bW E rfl (ws' (d:=24) E rfl rfl rfl rfl b) rfl rfl (fun w hW=>rI E rfl rfl rfl (C w)) fun a E=>?_
   have F:=uU D (fun _ _ _ h=>nV h)
   refine fk 1 E (kc 24 rfl b) rfl fun a E=>fa E rfl (ws' (d:=24) E rfl rfl rfl rfl b) rfl rfl rfl rfl F U9 rfl fun a E=>fb E rfl (ws' (d:=24) E rfl rfl rfl rfl b) rfl rfl rfl rfl mm2 rfl U32 rfl fun a E=>fk 1 E (kc 24 rfl b) rfl fun a E=>bd hm fun U G hm=>?_
   obtain ⟨q53,V,I,J⟩:=oO (P:=Tryz.prog) (k:=.i64) hI (oN (.tail _ (.head _))) U32 gL G
   refine bW E rfl (ws' (d:=24) E rfl rfl rfl rfl b) rfl rfl (fun w hW=>rI E rfl rfl rfl (I w)) fun a E=>?_
   have K:=uU J (fun _ _ _ h=>nV h)
   refine fk 1 E (kc 24 rfl b) rfl fun a E=>fa E rfl (ws' (d:=24) E rfl rfl rfl rfl b) rfl rfl rfl rfl K U9 rfl fun a E=>fk 2 E (kc 24 rfl b) rfl fun a E=>bQ rfl<|pr 1 E rfl fun a E=>nt<|bR<|?_
   clear hI
   refine aC<|wp_ret<|aY E rfl rfl<|have H:=H.drop 0;?_
   cases hm
   exact ⟨rfl,H.reads (Y2 Y0)⟩

def eW(e:List aN)(c:List aH)(d:List aH):Nat→Int→Option Int
  | 0,_=>none
  | i+1,b=>
    if (decide (b < (e.length:Int)))=true then ((idx e b).bind fun f=>(rV f c d).bind fun g=>if g=true then (some (b)) else (eW e c d i (IntKind.i64.wrap (b+1)))) else (some ((-1)))
def iM(b:List aN)(c:List aH)(d:List aH):Option Int:=
  eW b c d (((b.length:Int) - 0:Int).toNat+1) 0
theorem tZ{A z e i j k l m n o p:Value}{q:List aN}{s f c:Nat}{t u:List aH}(H:Sep w (Blk s 28 [pt f 0]::Blk f 75 [i,j,z,k,l,m,n,o,p]::Blk c 32 [e]::Fo) rs)(x:rSl bG A q ∈ rs)(B:rSl aS z t ∈ rs)(C:rSl aS e u ∈ rs){r:Int}(hm:iM q t u=some r) :
    Calls Tryz.prog 120 [A,.func (.func 155) #[] #[pt s 0,pt c 0]].toArray w (Ret fun v w'=>.int .i64 r=v∧Sep w' (Blk s 28 [pt f 0]::Blk f 75 [i,j,z,k,l,m,n,o,p]::Blk c 32 [e]::Fo) (rs)):=by
 unfold iM at hm
 refine ent Tryz.func120 rfl Tryz.ntmps120 rfl rfl fun a E=>sq<|pr 1 E rfl fun a E=>nt<|wp_seq<|sq<|pr 1 E rfl fun a E=>sv E rfl rfl rfl (cR E H rfl rfl x U62) fun a E=>pr 1 E rfl fun a E=>?_
 refine nt<|wp_block<|bX (fun g a w=>∃ y d,Env 19 a [(0,A),(1,.func (.func 155) #[] #[pt s 0,pt c 0]),(7,.int .i64 (q.length:Int)),(8,.int .i64 y)]∧Sep w (Blk s 28 [pt f 0]::Blk c 32 [e]::Blk f 75 [i,j,z,k,l,m,n,o,p]::Fo) d∧(∀ r,r ∈ rs→r ∈ d)∧eW q t u g y=some r) (((q.length:Int) - 0:Int).toNat+1) ?_ ?_
 ·exact have H:=H.frs [1,2,2] rfl;⟨_,_,E.to rfl,H,Y0,hm⟩
 ·clear E H hm
  rintro g a w ⟨y,d,E,H,b,hm⟩
  cases g with
  | zero=>exact (bT hm rfl).elim
  | succ g=>
   unfold eW at hm
   refine sq<|pr 1 E rfl fun a E=>nt<|wp_seq<|wif E hm rfl (fun hm=>?_) fun hm=>?_
   ·refine wp_skip<|aC<|wp_seq<|wp_block<|sq<|pr 2 E rfl fun a E=>nx<|pr 3 E rfl fun a E=>bd hm fun G D hm=>?_
    refine dE E H (wn rfl) rfl rfl rfl rfl rfl (b _ x) U62 gQ D fun q42 a H E=>ldf eC E H rfl rfl rfl rfl rfl m0 s9 rfl gQ fun a E=>have H:=H.frs [1,2,2] rfl;bd hm fun I F hm=>aU E (wn rfl) rfl rfl (bP E rfl rfl rfl (Xx _)) (I6 H (t1 (b _ B)) (t1 (b _ C)) F)<|?_
    rintro _ w ⟨rfl,H⟩ a E
    refine nt<|wif E hm rfl (fun hm=>?_) fun hm=>?_
    ·refine sq<|pr 2 E rfl fun a E=>nt<|wp_ret<|bV<|aP<|aP<|bV<|aP<|?_
     refine aY E rfl rfl<|?_
     cases hm
     exact ⟨rfl,H.reads (Y1 b)⟩
    ·exact wp_skip<|bY<|aC<|wp_region_lit<|pr 2 E rfl fun a E=>nt<|have H:=H.frs [1,2,2] rfl;⟨g,Nat.lt_succ_self g,_,_,E.to rfl,H,(Y1 b),hm⟩
   ·refine wp_exit<|bH<|bH<|dG<|aC<|sq<|pr 1 E rfl fun a E=>nt<|wp_ret<|?_
    refine aY E rfl rfl<|have H:=H.frs [1,2,2] rfl;?_
    cases hm
    exact ⟨rfl,H.reads b⟩

def gU(e:List aN)(b:List aH)(c:List aH):Option Bool:=
  (iM e b c).bind fun d=>some (decide (d ≥ 0))
theorem sD{y p b e f g i j k l m:Value}{z:List aN}{q d c:Nat}{n o:List aH}(H:Sep w (Blk q 28 [pt d 0]::Blk d 75 [e,f,p,g,i,j,k,l,m]::Blk c 32 [b]::Fo) rs)(s:rSl bG y z ∈ rs)(t:rSl aS p n ∈ rs)(u:rSl aS b o ∈ rs){r:Bool}(hm:gU z n o=some r) :
    Calls Tryz.prog 127 [y,.func (.func 155) #[] #[pt q 0,pt c 0]].toArray w (Ret fun v w'=>.bool r=v∧Sep w' (Blk q 28 [pt d 0]::Blk d 75 [e,f,p,g,i,j,k,l,m]::Blk c 32 [b]::Fo) (rs)):=by
 unfold gU at hm
 refine ent Tryz.func127 rfl Tryz.ntmps127 rfl rfl fun a E=>sq<|pr 1 E rfl fun a E=>nx<|pr 2 E rfl fun a E=>bd hm fun A x hm=>xk E rfl rfl rfl rfl rfl Bi (tZ H s t u x) fun w H a E=>pr 2 E rfl fun a E=>nt<|?_
 refine wp_ret<|aY E rfl rfl<|?_
 cases hm
 exact ⟨rfl,H.reads Y0⟩

def uA(d:List aH)(e:List aN)(b:List aH):Option Bool:=
  (gU e d b).bind fun c=>some (c)
theorem M9{m:Nat}{n o c d e f g i j k:Value}{t l:List aH}{u:List aN}(H:Sep w (Blk m 75 [d,e,n,o,f,g,i,j,k]::Fo) rs)(p:rSl aS n t ∈ rs)(q:rSl bG o u ∈ rs)(b:rSl aS c l ∈ rs){r:Bool}(hm:uA t u l=some r) :
    Calls Tryz.prog 81 [pt m 0,c].toArray w (Ret fun v w'=>.bool r=v∧Sep w' (Blk m 75 [d,e,n,o,f,g,i,j,k]::Fo) (rs)):=by
 unfold uA at hm
 refine ent Tryz.func81 rfl Tryz.ntmps81 rfl rfl fun a E=>sq<|bS E H (wn rfl) rfl rfl rfl rfl rfl fun x w a H E=>?_
 obtain ⟨q34,y,rfl⟩:=H.slform b
 refine bS E H (wn rfl) rfl rfl rfl rfl rfl fun z w a H E=>pr 1 E rfl fun a E=>nx<|lb E H 1 rfl rfl rfl rfl rfl rfl rfl U28 rfl fun a E=>pr 2 E rfl fun a E=>lb E H 2 rfl rfl rfl rfl rfl rfl rfl U62 rfl fun a E=>sv E rfl rfl rfl (iP E rfl rfl rfl) fun a E=>have H:=H.frs [0,2,2] rfl;bd hm fun A s hm=>?_
 refine xk E rfl rfl rfl rfl rfl Jc (sD H q p b s) fun w H a E=>pr 1 E rfl fun a E=>nt<|wp_ret<|aY E rfl rfl<|have H:=H.drs [0,1];?_
 cases hm
 exact ⟨rfl,H.reads Y0⟩

def wG(x1:aH)(b:ByteArray):Option Int:=
  (jZ x1.Prefix b).bind fun c=>some (c)
theorem I7{x1:aH}{b:ByteArray}(H:Sep w (Fo) rs){r:Int}(hm:wG x1 b=some r) :
    Calls Tryz.prog 153 [.agg (kN x1).toArray,.string b].toArray w (Ret fun v w'=>.int .i64 r=v∧Sep w' (Fo) (rs)):=by
 unfold wG at hm
 refine ent Tryz.func153 rfl Tryz.ntmps153 rfl rfl fun a E=>sq<|bS E H (wn rfl) rfl rfl rfl rfl rfl fun d w a H E=>pr 1 E rfl fun a E=>nx<|pr 1 E rfl fun a E=>lb E H 0 rfl rfl rfl rfl rfl rfl rfl U9 rfl fun a E=>pr 1 E rfl fun a E=>bd hm fun e c hm=>?_
 refine xk E rfl rfl rfl rfl rfl Fu (oP H c) fun w H a E=>pr 1 E rfl fun a E=>nt<|wp_ret<|aY E rfl rfl<|have H:=H.drop 0;?_
 cases hm
 exact ⟨rfl,H.reads Y0⟩

def cW(c:List aH)(e:ByteArray):Nat→Int→Int→Option (Int×Bool)
  | 0,_,_=>none
  | f+1,b,d=>
    if (decide (b < d))=true then ((idx c (IntKind.i64.wrap (pH .u64 (IntKind.u64.wrap (IntKind.i64.wrap (b+d))) 1))).bind fun k=>(wG k e).bind fun g=>if (decide (g < 0))=true then (cW c e f (IntKind.i64.wrap ((IntKind.i64.wrap (pH .u64 (IntKind.u64.wrap (IntKind.i64.wrap (b+d))) 1))+1)) d) else (cW c e f b (IntKind.i64.wrap (pH .u64 (IntKind.u64.wrap (IntKind.i64.wrap (b+d))) 1)))) else (if (decide (b < (c.length:Int)))=true then ((idx c b).bind fun i=>(wG i e).bind fun j=>some (b,j == 0)) else (some (b,false)))
def eF(b:List aH)(c:ByteArray):Option (Int×Bool):=
  cW b c (((b.length:Int) - 0:Int).toNat+1) 0 (b.length:Int)
theorem nR{j:Value}{e:List aH}{p:ByteArray}(H:Sep w (Row 31 aS j e::Fo) rs){r:Int×Bool}(hm:eF e p=some r) :
    Calls Tryz.prog 152 [j,.string p,.func (.func 153) #[] #[]].toArray w (Ret fun v w'=>.tuple #[.int .i64 r.1,.bool r.2]=v∧Sep w' (Row 31 aS j e::Fo) (rs)):=by
 unfold eF at hm
 refine ent Tryz.func152 rfl Tryz.ntmps152 rfl rfl fun a E=>sq<|pr 2 E rfl fun a E=>nx<|pr 1 E rfl fun a E=>sv E rfl rfl rfl (iZ (i:=0) E H rfl rfl rfl U32) fun a E=>pr 1 E rfl fun a E=>nx<|pr 3 E rfl fun a E=>?_
 refine nt<|wp_seq<|wp_block<|bX (fun c a w=>∃ q s k,Env 49 a [(0,j),(1,.string p),(2,.func (.func 153) #[] #[]),(8,.int .i64 (e.length:Int)),(9,.int .i64 q),(10,.int .i64 s)]∧Sep w (Row 31 aS j e::Fo) k∧(∀ r,r ∈ rs→r ∈ k)∧cW e p c q s=some r) (((e.length:Int) - 0:Int).toNat+1) ?_ ?_
 ·exact X3 ⟨E.to rfl,H,Y0,hm⟩
 ·clear E H hm
  rintro c a w ⟨q,s,k,E,H,g,hm⟩
  cases c with
  | zero=>exact (bT hm rfl).elim
  | succ c=>
   unfold cW at hm
   refine wp_seq<|sq<|pr 3 E rfl fun a E=>nt<|wif E hm rfl (fun hm=>?_) fun hm=>?_
   ·refine wp_skip<|aC<|wp_block<|sq<|pr 4 E rfl fun a E=>sv E rfl rfl rfl (J4 E rfl rfl rfl (by decide)) fun a E=>pr 2 E rfl fun a E=>nx<|pr 3 E rfl fun a E=>?_
    refine bd hm fun t l hm=>?_
    obtain ⟨y,z,m⟩:=H.rowformNE (i:=0) rfl l
    refine sv E rfl rfl rfl (cY (d:=aS) E m rfl rfl rfl rfl U32 gL l) fun a E=>sv E rfl rfl rfl (fZ (i:=0) E H gZ m rfl rfl rfl l (us:=[.string t.Prefix,.int .i64 t.Epoch,.int .i64 t.State]) rfl U31 rfl gL) fun a E=>pr 1 E rfl fun a E=>bd hm fun A u hm=>aU E (wn rfl) rfl rfl (bP E rfl rfl rfl (Ng _)) (I7 H u)<|?_
    rintro _ w ⟨rfl,H⟩ a E
    refine pr 1 E rfl fun a E=>nt<|wif E hm rfl (fun hm=>?_) fun hm=>?_
    ·exact wp_region_lit<|pr 3 E rfl fun a E=>wpList_nil<|bY<|aC<|⟨c,Nat.lt_succ_self c,X3 ⟨E.to rfl,H,g,hm⟩⟩
    ·exact wp_region_lit<|pr 2 E rfl fun a E=>wpList_nil<|bY<|aC<|⟨c,Nat.lt_succ_self c,X3 ⟨E.to rfl,H,g,hm⟩⟩
   ·refine wp_exit<|bH<|bH<|dG<|aC<|sq<|pr 5 E rfl fun a E=>cs hm (fun b hm=>?_) fun b hm=>?_
    ·refine pk 3 E (kc 39 rfl b) rfl fun a E=>bd hm fun n f hm=>?_
     obtain ⟨B,C,o⟩:=H.rowformNE (i:=0) rfl f
     refine aQ E (ws' (d:=39) E rfl rfl rfl rfl b) rfl rfl (cY (d:=aS) E o rfl rfl rfl rfl U32 gL f) fun a E=>aQ E (ws' (d:=39) E rfl rfl rfl rfl b) rfl rfl (fZ (i:=0) E H gZ o rfl rfl rfl f (us:=[.string n.Prefix,.int .i64 n.Epoch,.int .i64 n.State]) rfl U31 rfl gL) fun a E=>pk 1 E (kc 39 rfl b) rfl fun a E=>bd hm fun D x hm=>aU E (ws' (d:=39) E rfl rfl rfl rfl b) rfl rfl (bP E rfl rfl rfl (Ng _)) (I7 H x)<|?_
     rintro _ w ⟨rfl,H⟩ a E
     refine pk 4 E (kc 39 rfl b) rfl fun a E=>nt<|wp_ret<|fX E rfl rfl rfl<|?_
     cases hm
     exact ⟨rfl,H.reads g⟩
    ·refine pk 11 E (kc 39 rfl b) rfl fun a E=>nt<|wp_ret<|fX E rfl rfl rfl<|?_
     cases hm
     exact ⟨rfl,H.reads g⟩

def uL(rec_1:(List aH)→Int→Option (List aH))(c:Int)(b:(List aH)):Option (List aH):=
  rec_1 b (IntKind.i64.wrap (c+1))
def oE(d:List ByteArray):Nat→(List aH)→Int→Option (List aH)
  | 0,_,_=>none
  | g+1,c,e=>
    if (decide (e < (d.length:Int)))=true then ((idx d e).bind fun f=>(eF c f).bind fun b=>if (!b.2)=true then ((ck (0 ≤ b.1∧b.1 ≤ c.length∧c.length ≤ 1000000)).bind fun i=>uL (oE d g) e (c.take b.1.toNat ++ (⟨f,0,3⟩:aH)::c.drop b.1.toNat)) else (uL (oE d g) e c)) else (some (c))
def B4(c:List aH)(b:List ByteArray):Option (List aH):=
  oE b (((b.length:Int) - 0:Int).toNat+1) c 0
theorem Gc{z n:Value}{A:List aH}{f:List ByteArray}(H:Sep w (Row 31 aS z A::Fo) rs)(o:rSl kS n f ∈ rs){r:(List aH)}(hm:B4 A f=some r) :
    Calls Tryz.prog 80 [z,n].toArray w (Ret fun v w'=>∃ B,B=v∧Sep w' (Row 31 aS B r::Fo) (rs)):=by
 unfold B4 at hm
 refine ent Tryz.func80 rfl Tryz.ntmps80 rfl rfl fun a E=>sq<|pr 1 E rfl fun a E=>nt<|wp_seq<|sq<|pr 1 E rfl fun a E=>sv E rfl rfl rfl (cR E H rfl rfl o U33) fun a E=>pr 1 E rfl fun a E=>?_
 refine nt<|wp_block<|bX (fun g a w=>∃ p q j k,Env 31 a [(0,p),(9,n),(10,.int .i64 (f.length:Int)),(11,.int .i64 j)]∧Sep w (Row 31 aS p q::Fo) k∧(∀ r,r ∈ rs→r ∈ k)∧oE f g q j=some r) (((f.length:Int) - 0:Int).toNat+1) ?_ ?_
 ·exact X4 ⟨E.to rfl,H,Y0,hm⟩
 ·clear E H hm
  rintro g a w ⟨p,q,j,k,E,H,b,hm⟩
  cases g with
  | zero=>exact (bT hm rfl).elim
  | succ g=>
   unfold oE at hm
   refine sq<|pr 1 E rfl fun a E=>nt<|wp_seq<|wif E hm rfl (fun hm=>?_) fun hm=>?_
   ·refine wp_skip<|aC<|aT (fun a w=>∃ l m i,Env 31 a [(0,l),(9,n),(10,.int .i64 (f.length:Int)),(11,.int .i64 j)]∧Sep w (Row 31 aS l m::Fo) i∧(∀ r,r ∈ rs→r ∈ i)∧uL (oE f g) j m=some r) ?_ ?_
    ·refine wp_block<|sq<|bd hm fun c s hm=>dE E H (wn rfl) rfl rfl rfl rfl rfl (b _ o) U33 sz9 s fun q17 a H E=>sv E rfl rfl rfl (nT E H rfl rfl m0 U9 rfl) fun a E=>pr 1 E rfl fun a E=>nx<|pr 2 E rfl fun a E=>bd hm fun C t hm=>?_
     refine xk E rfl rfl rfl rfl rfl Nb (nR H t) fun w H a E=>pr 5 E rfl fun a E=>nx<|pr 2 E rfl fun a E=>nt<|wif E hm rfl (fun hm=>?_) fun hm=>?_
     ·refine wp_region_lit<|pr 3 E rfl fun a E=>sv E rfl rfl rfl (cI E rfl (E.evs rfl) (v:=.agg #[.string c,.int .i64 0,.int .i64 3]) (by kernel_rfl)) fun a E=>fY (e:=31) (d:=aS) (cs:=[.string c,.int .i64 0,.int .i64 3]) (xs:=[(⟨c,0,3⟩:aH)]) E H (wn rfl) rfl rfl rfl (E.evs rfl) (by kernel_rfl) rfl rfl (fun ok hr=>(Rows.single (d:=aS) (cs:=[.string c,.int .i64 0,.int .i64 3]) (x:=(⟨c,0,3⟩:aH)) rR)) fun D w a H E=>bk hm fun u hm=>aU E (wn rfl) rfl rfl (cC E rfl rfl (Nd _)) (Ra.insert_a (ix:=1) (iu:=0) H rfl rfl (by decide) u) fun F w H a E=>pr 1 E rfl fun a E=>wpList_nil<|bY<|?_
      exact aC<|have H:=H.drop 0;X3 ⟨E.to rfl,H,(Y1 b),hm⟩
     ·exact wp_skip<|bY<|aC<|X3 ⟨E.to rfl,H,(Y1 b),hm⟩
    ·clear E H hm
     rintro a w ⟨l,m,i,E,H,y,hm⟩
     unfold uL at hm
     exact wp_region_lit<|pr 2 E rfl fun a E=>nt<|⟨g,Nat.lt_succ_self g,X4 ⟨E.to rfl,H,y,hm⟩⟩
   ·refine wp_exit<|bH<|bH<|dG<|aC<|sq<|pr 2 E rfl fun a E=>nt<|wp_ret<|?_
    refine aY E rfl rfl<|?_
    cases hm
    exact ⟨_,rfl,H.reads b⟩

def pP(x20:bA)(e:(List aH))(c:(List aE))(d:(List aI)):Option (aG×(List aE)×(List aI)×(List aH)):=
  (tL x20.Store e x20.Prefix).bind fun b=>(ck (c.length+b.1.length ≤ LIM)).bind fun f=>(ck (d.length+b.2.1.length ≤ LIM)).bind fun g=>(ck ((c ++ b.1).length ≤ 1000000)).bind fun i=>(ck ((d ++ b.2.1).length ≤ 1000000)).bind fun j=>some ((⟨0,0,false,0,[],(⟨[],[]⟩:bB),[],[],[]⟩:aG),srtN (c ++ b.1),Tn.srtN (d ++ b.2.1),e)
def lU(x20:bA)(c:(List aH))(d:List aE)(e:List aI)(i:List aH)(f:Bool):Option (aG×(List aE)×(List aI)×(List aH)):=
  if f=true then ((dM 131).bind fun g=>some (g,d,e,i)) else ((tL (⟨d,e⟩:bB) c x20.Prefix).bind fun b=>pP x20 c b.2.2.1 b.2.2.2)
def lV(x20:bA)(b:(List aH))(e:List aE)(f:List aI)(d:List aH)(i:List aN)(j:Bool):Option (aG×(List aE)×(List aI)×(List aH)):=
  if j=true then ((dM 2).bind fun k=>some (k,e,f,d)) else ((qX i b x20.Prefix).bind fun c=>if c=true then (lU x20 b e f d c) else ((uA d i b).bind fun g=>lU x20 b e f d g))
def lW(x20:bA)(d:List aE)(e:List aI)(f:List aH)(g:List aN)(c:(List aH)×Bool)(b:(List aH)):Option (aG×(List aE)×(List aI)×(List aH)):=
  if (!c.2)=true then (lV x20 b d e f g (!c.2)) else (lV x20 b d e f g (decide ((b.length:Int) > 32)))
def lX(x20:bA)(d:List aE)(e:List aI)(c:List aH)(g:List aN)(i:Bool):Option (aG×(List aE)×(List aI)×(List aH)):=
  if i=true then (some ((⟨0,0,false,0,[],(⟨[],[]⟩:bB),[],[],[]⟩:aG),d,e,c)) else ((zF c x20.Prefix x20.Epoch).bind fun b=>if b.2=true then ((B4 b.1 x20.Gone).bind fun f=>lW x20 d e c g b f) else (lW x20 d e c g b b.1))
def rW(d:List aE)(e:List aI)(c:List aH)(f:List aN)(x20:bA):Option (aG×(List aE)×(List aI)×(List aH)):=
  (nQ c x20.Prefix).bind fun b=>if b.2=true then (lX x20 d e c f (decide (b.1.Epoch ≥ x20.Epoch))) else (lX x20 d e c f false)
theorem I8{t:Nat}{u x z A s g j l m n o p q:Value}{P:List aE}{Q:List aI}{b7:List aH}{b8:List aN}{x20:bA}(H:Sep w (Blk t 75 [u,x,z,A,m,n,o,p,q]::Fo) rs)(D:rSl aF u P ∈ rs)(F:rSl aJ x Q ∈ rs)(O:rSl aS z b7 ∈ rs)(b9:rSl bG A b8 ∈ rs)(g1:rSl aF g x20.Store.Nodes ∈ rs)(g2:rSl aJ j x20.Store.Turns ∈ rs)(g3:rSl kS l x20.Gone ∈ rs){r:aG×(List aE)×(List aI)×(List aH)}(hm:rW P Q b7 b8 x20=some r) :
    Calls Tryz.prog 30 [pt t 0,.agg (aR x20 s g j l).toArray].toArray w (Ret fun v w'=>∃ l1 l2 l3 l4 l5 l6 l7 e8 e9,.agg (bC r.1 l1 l2 l3 l4 l5 l6).toArray=v∧Sep w' (Blk t 75 [l7,e8,e9,A,m,n,o,p,q]::Fo) (rSl bE l1 r.1.Results::rSl aF l2 r.1.Store.Nodes::rSl aJ l3 r.1.Store.Turns::rSl aV l4 r.1.Events::rSl bL l5 r.1.Mounts::rSl (kI .i64) l6 r.1.Wounded::rSl aF l7 r.2.1::rSl aJ e8 r.2.2.1::rSl aS e9 r.2.2.2::rs)):=by
 unfold rW at hm
 refine ent Tryz.func30 rfl Tryz.ntmps30 rfl rfl fun a E=>sq<|bS E H (wn rfl) rfl rfl rfl rfl rfl fun f w a H E=>al E H rfl rfl rfl rfl gN fun k w a H E=>nt<|wp_seq<|sq<|pr 2 E rfl fun a E=>lb E H 1 rfl rfl rfl rfl rfl rfl rfl U9 rfl fun a E=>?_
 refine have H:=H.frs [1,1,2] rfl;bd hm fun l8 g4 hm=>xk E rfl rfl rfl rfl rfl Lw (vE H O g4) fun w H a E=>pr 3 E rfl fun a E=>al E H rfl rfl rfl rfl Cg fun o1 w a H E=>aZ (i:=0) E H (wn rfl) rfl rfl rfl rfl rfl rfl gL rfl rfl fun w H=>pr 1 E rfl fun a E=>nt<|aT (fun a w=>∃ c0 Z,Env 110 a [(0,pt t 0),(3,pt f 0),(4,pt k 0),(27,.bool c0)]∧Sep w (Blk t 75 [u,x,z,A,m,n,o,p,q]::Blk f 37 (aR x20 s g j l)::Blk k 48 bN::Fo) Z∧(∀ r,r ∈ rs→r ∈ Z)∧lX x20 P Q b7 b8 c0=some r) ?_ ?_
 ·refine wp_region_lit<|pr 2 E rfl fun a E=>cs hm (fun B hm=>?_) fun B hm=>?_
  ·exact pk 1 E (kc 21 rfl B) rfl fun a E=>aQ E (ws' (d:=21) E rfl rfl rfl rfl B) rfl rfl (cD (i:=0) E H rfl rfl rfl rfl U2 rfl) fun a E=>pk 1 E (kc 21 rfl B) rfl fun a E=>aQ E (ws' (d:=21) E rfl rfl rfl rfl B) rfl rfl (cD (i:=3) E H rfl rfl rfl rfl U2 rfl) fun a E=>pk 2 E (kc 21 rfl B) rfl fun a E=>nt<|have H:=H.drop 0;have H:=H.frs [1,2,2] rfl;⟨decide (l8.1.Epoch ≥ x20.Epoch),_,E.sel [0,3,4,27] rfl,H,fun r hr=>hr,hm⟩
  ·exact pk 6 E (kc 21 rfl B) rfl fun a E=>nt<|have H:=H.drop 0;have H:=H.frs [1,2,2] rfl;⟨false,_,E.sel [0,3,4,27] rfl,H,fun r hr=>hr,hm⟩
 ·clear E H hm
  rintro a w ⟨c0,Z,E,H,G,hm⟩
  unfold lX at hm
  refine wif E hm rfl (fun hm=>?_) fun hm=>?_
  ·refine sq<|sv E rfl rfl rfl (cI E rfl (E.evs rfl) (v:=.agg bN.toArray) (by kernel_rfl)) fun a E=>aZ (i:=2) E H (wn rfl) rfl rfl rfl rfl rfl rfl bU rfl rfl fun w H=>?_
   replace H:Sep w (Blk t 75 [u,x,z,A,m,n,o,p,q]::Blk f 37 (aR x20 s g j l)::Blk k 48 bN::Fo) _:=H
   refine nt<|wp_ret<|aP<|dH E rfl (cV (i:=2) (us:=bN) H rfl rfl rfl U48 rfl bU)<|have H:=H.nilSl bE;have H:=H.nilSl aF;have H:=H.nilSl aJ;have H:=H.nilSl aV;have H:=H.nilSl bL;?_
   refine have H:=H.nilSl (kI .i64);have H:=H.drs [1,1];?_
   cases hm
   exact ⟨(.slice none 0 0),(.slice none 0 0),(.slice none 0 0),(.slice none 0 0),(.slice none 0 0),(.slice none 0 0),u,x,z,rfl,H.reads (aA mm5 (aA mm4 (aA mm3 (aA mm2 (aA mm1 (aA m0 (aA (t6 (G _ D)) (aA (t6 (G _ F)) (aA (t6 (G _ O)) (fun r hr=>(t6 (G r hr))))))))))))⟩
  ·refine wp_skip<|aC<|wp_seq<|dw [(0,0),(1,0),(2,0),(3,0),(4,0),(5,0),(6,0),(7,0),(8,1),(9,0),(10,0),(11,0),(12,1),(13,2)] [0,1] [] H (by kernel_rfl) (fun _ _ _ h=>False.elim h.2) fun w W0 hI H=>fn 3 E rfl fun a E=>fb E rfl (wn rfl) rfl rfl rfl rfl m0 rfl U32 rfl fun a E=>fn 1 E rfl fun a E=>fb E rfl (wn rfl) rfl rfl rfl rfl mm1 rfl U9 rfl fun a E=>fn 1 E rfl fun a E=>?_
   refine fb E rfl (wn rfl) rfl rfl rfl rfl mm1 rfl U2 rfl fun a E=>bZ rfl<|bd hm fun b4 g5 hm=>cG E rfl rfl rfl rfl rfl Zv (Bw H (G _ O) g5)<|?_
   rintro _ w ⟨l9,rfl,H⟩ a E
   refine nt<|?_
   refine ⟨⟨_,_,H,(aB mm1 (aB mm2 (aL))),(aM)⟩,?_⟩
   refine fn 3 E rfl fun a E=>bZ rfl<|pr 1 E rfl fun a E=>nt<|?_
   refine ⟨⟨_,_,H,(aB mm1 (aB mm2 (aL))),(aM)⟩,?_⟩
   refine bQ rfl<|pr 1 E rfl fun a E=>nt<|bR<|?_
   clear hI
   refine aC<|aT (fun a w=>∃ K I b0,Env 110 a [(0,pt t 0),(3,pt f 0),(4,pt k 0),(7,K),(8,.bool b4.2)]∧Sep w (Blk t 75 [u,x,z,A,m,n,o,p,q]::Blk f 37 (aR x20 s g j l)::Blk k 48 bN::Row 31 aS K I::Fo) b0∧(∀ r,r ∈ rs→r ∈ b0)∧lW x20 P Q b7 b8 b4 I=some r) ?_ ?_
   ·refine sq<|pr 1 E rfl fun a E=>nt<|wif E hm rfl (fun hm=>?_) fun hm=>?_
    ·refine wp_region_lit<|pr 2 E rfl fun a E=>lb E H 2 rfl rfl rfl rfl rfl rfl rfl U33 rfl fun a E=>bd hm fun g6 e1 hm=>cG E rfl rfl rfl rfl rfl Zw (Gc H (G _ g3) e1)<|?_
     rintro _ w ⟨g7,rfl,H⟩ a E
     exact pr 1 E rfl fun a E=>nt<|have H:=H.frs [0,3,3,3] rfl;⟨g7,g6,_,E.sel [0,3,4,7,8] rfl,H,G,hm⟩
    ·exact wp_skip<|aC<|have H:=H.frs [0,3,3,3] rfl;⟨l9,b4.1,_,E.sel [0,3,4,7,8] rfl,H,G,hm⟩
   ·clear E H hm
    rintro a w ⟨K,I,b0,E,H,c1,hm⟩
    unfold lW at hm
    refine wp_seq<|wp_block<|aT (fun a w=>∃ c2 b1,Env 110 a [(0,pt t 0),(3,pt f 0),(4,pt k 0),(7,K),(46,.bool c2)]∧Sep w (Blk t 75 [u,x,z,A,m,n,o,p,q]::Blk f 37 (aR x20 s g j l)::Blk k 48 bN::Row 31 aS K I::Fo) b1∧(∀ r,r ∈ rs→r ∈ b1)∧lV x20 I P Q b7 b8 c2=some r) ?_ ?_
    ·refine sq<|pr 3 E rfl fun a E=>nt<|wif E hm rfl (fun hm=>?_) fun hm=>?_
     ·exact wp_skip<|aC<|⟨!b4.2,_,E.sel [0,3,4,7,46] rfl,H,c1,hm⟩
     ·exact wp_region_lit<|pr 1 E rfl fun a E=>sv E rfl rfl rfl (iZ (i:=3) E H rfl rfl rfl U32) fun a E=>pr 2 E rfl fun a E=>nt<|⟨decide ((I.length:Int) > 32),_,E.sel [0,3,4,7,46] rfl,H,c1,hm⟩
    ·clear E H hm
     rintro a w ⟨c2,b1,E,H,C,hm⟩
     unfold lV at hm
     refine wif E hm rfl (fun hm=>?_) fun hm=>?_
     ·refine sq<|bd hm fun m1 g8 hm=>cG E rfl rfl rfl rfl rfl tM (dT H g8)<|?_
      rintro _ w ⟨f0,f1,f2,f3,f4,f5,rfl,H⟩ a E
      refine aZ (i:=2) E H (wn rfl) rfl rfl rfl rfl rfl rfl bU rfl (bF H m0 mm1 mm2 mm3 mm4 mm5) fun w H=>nt<|wp_ret<|bV<|aP<|dH E rfl (cV (i:=2) (us:=(bC m1 f0 f1 f2 f3 f4 f5)) H rfl rfl rfl U48 rfl bU)<|have H:=H.drs [1,1,1];?_
      cases hm
      exact ⟨f0,f1,f2,f3,f4,f5,u,x,z,rfl,H.reads (aA m0 (aA mm1 (aA mm2 (aA mm3 (aA mm4 (aA mm5 (aA (t6 (C _ D)) (aA (t6 (C _ F)) (aA (t6 (C _ O)) (fun r hr=>(t6 (C r hr))))))))))))⟩
     ·refine aT (fun a w=>∃ c3 J,Env 110 a [(0,pt t 0),(3,pt f 0),(4,pt k 0),(7,K),(53,.bool c3)]∧Sep w (Blk t 75 [u,x,z,A,m,n,o,p,q]::Blk f 37 (aR x20 s g j l)::Blk k 48 bN::Fo) J∧(∀ r,r ∈ rs→r ∈ J)∧rSl aS K I ∈ J∧lU x20 I P Q b7 c3=some r) ?_ ?_
      ·refine sq<|pr 3 E rfl fun a E=>lb E H 1 rfl rfl rfl rfl rfl rfl rfl U9 rfl fun a E=>have H:=H.thaw (i:=3) rfl;bd hm fun g9 e2 hm=>xk E rfl rfl rfl rfl rfl St (s3 H (t1 (C _ b9)) m0 e2) fun w H a E=>pr 1 E rfl fun a E=>nt<|wif E hm rfl (fun hm=>?_) fun hm=>?_
       ·exact wp_skip<|aC<|⟨g9,_,E.sel [0,3,4,7,53] rfl,H,fun r hr=>(t1 (C r hr)),m0,hm⟩
       ·exact wp_region_lit<|pr 2 E rfl fun a E=>bd hm fun i0 e3 hm=>xk E rfl rfl rfl rfl rfl Zx (M9 H (t1 (C _ O)) (t1 (C _ b9)) m0 e3) fun w H a E=>pr 1 E rfl fun a E=>nt<|⟨i0,_,E.sel [0,3,4,7,53] rfl,H,fun r hr=>(t1 (C r hr)),m0,hm⟩
      ·clear E H hm
       rintro a w ⟨c3,J,E,H,e,y,hm⟩
       unfold lU at hm
       refine wif E hm rfl (fun hm=>?_) fun hm=>?_
       ·refine sq<|bd hm fun f6 i1 hm=>cG E rfl rfl rfl rfl rfl tM (dT H i1)<|?_
        rintro _ w ⟨c4,c5,c6,c7,c8,c9,rfl,H⟩ a E
        refine aZ (i:=2) E H (wn rfl) rfl rfl rfl rfl rfl rfl bU rfl (bF H m0 mm1 mm2 mm3 mm4 mm5) fun w H=>?_
        replace H:Sep w (Blk t 75 [u,x,z,A,m,n,o,p,q]::Blk f 37 (aR x20 s g j l)::Blk k 48 (bC f6 c4 c5 c6 c7 c8 c9)::Fo) _:=H
        refine nt<|wp_ret<|bV<|aP<|dH E rfl (cV (i:=2) (us:=(bC f6 c4 c5 c6 c7 c8 c9)) H rfl rfl rfl U48 rfl bU)<|have H:=H.drs [1,1];?_
        cases hm
        exact ⟨c4,c5,c6,c7,c8,c9,u,x,z,rfl,H.reads (aA m0 (aA mm1 (aA mm2 (aA mm3 (aA mm4 (aA mm5 (aA (t6 (e _ D)) (aA (t6 (e _ F)) (aA (t6 (e _ O)) (fun r hr=>(t6 (e r hr))))))))))))⟩
       ·refine wp_skip<|bY<|aC<|aT (fun a w=>∃ V X Y L M R,Env 110 a [(0,pt t 0),(3,pt f 0),(4,pt k 0),(7,K),(10,pt V 0)]∧Sep w (Blk t 75 [u,x,z,A,m,n,o,p,q]::Blk f 37 (aR x20 s g j l)::Blk k 48 bN::Blk V 25 [X,Y]::Row 95 aF X L::Row 77 aJ Y M::Fo) R∧(∀ r,r ∈ rs→r ∈ R)∧rSl aS K I ∈ R∧pP x20 I L M=some r) ?_ ?_
        ·refine bd hm fun b N hm=>?_
         have hI:dP [Blk t 75 [u,x,z,A,m,n,o,p,q],Blk f 37 (aR x20 s g j l)] [] { w with drawn:=w.drawn+1 }:=⟨_,_,H.kept (Kp.drawn _ w _),(aB m0 (aB mm1 (aL))),(aM)⟩
         refine jY _ (.go 0 0 (.go 1 0 (.go 2 0 (.go 3 0 (.go 4 0 (.go 5 0 (.go 6 0 (.alt3 7 (.go 8 0 (.go 9 0 (.go 10 0 (.alt 11 (.go 12 1 (.go 13 1 (.go 14 2 .nil))) 12 (.go 11 1 (.go 13 1 (.go 14 2 .nil))))))) 11 (.alt 7 (.go 8 0 (.go 9 0 (.go 10 0 (.go 12 1 (.go 13 1 (.go 14 2 .nil)))))) 12 (.go 7 1 (.go 8 0 (.go 9 0 (.go 10 0 (.go 13 1 (.go 14 2 .nil))))))) 12 (.alt 7 (.go 8 0 (.go 9 0 (.go 10 0 (.go 11 1 (.go 13 1 (.go 14 2 .nil)))))) 11 (.go 7 1 (.go 8 0 (.go 9 0 (.go 10 0 (.go 13 1 (.go 14 2 .nil))))))))))))))) [14] kG (by kernel_rfl) (fun _ _ _ h=>False.elim h.2) hI<|have H:=H.kept (Kp.drawn _ w (w.drawn+1));?_
         generalize ({ w with drawn:=w.drawn+1 }:World)=w at H hI ⊢
         replace hI:∃ W,dP [Blk t 75 [u,x,z,A,m,n,o,p,q],Blk f 37 (aR x20 s g j l)] [] W:=⟨_,hI⟩
         obtain ⟨W0,hI⟩:=hI
         refine aW E rfl (wn rfl) rfl rfl (fun w hW=>(bD E rfl rfl)) fun a E=>aW E rfl (wn rfl) rfl rfl (fun w hW=>(sF E rfl rfl)) fun a E=>aW E rfl (wn rfl) rfl rfl (fun w hW=>iY E rfl rfl (v:=pt t 0) (Bj _ _)) fun a E=>aW E rfl (wn rfl) rfl rfl (fun w hW=>eZ E rfl rfl (yN (us:=[u,x]) m0 rfl U25 rfl dA w hW)) fun a E=>aW E rfl (wn rfl) rfl rfl (fun w hW=>(bD E rfl rfl)) fun a E=>aW E rfl (wn rfl) rfl rfl (fun w hW=>iY E rfl rfl (v:=pt f 6) (Fp _ _)) fun a E=>aW E rfl (wn rfl) rfl rfl (fun w hW=>eZ E rfl rfl (kD mm1 rfl U9 rfl w hW)) fun a E=>?_
         refine Hc rfl rfl rfl ?_ ?_ ?_
         ·refine cG E rfl rfl rfl rfl rfl u7 (jL (x1:=(⟨P,Q⟩:bB)) H (e _ D) (e _ F) y N)<|?_
          rintro _ w ⟨m4,m5,d0,d1,rfl,H⟩ a E
          refine nt<|?_
          refine ⟨⟨_,_,H,(aB mm4 (aB mm5 (aL))),(aM)⟩,?_⟩
          refine aW E rfl (wn rfl) rfl rfl (fun w hW=>(bD E rfl rfl)) fun a E=>aW E rfl (wn rfl) rfl rfl (fun w hW=>(cX E rfl rfl rfl)) fun a E=>aW E rfl (wn rfl) rfl rfl (fun w hW=>(cX E rfl rfl rfl)) fun a E=>?_
          refine kM rfl rfl ?_ ?_
          ·refine al E H rfl rfl rfl rfl jN fun i2 w a H E=>nt<|?_
           refine ⟨⟨_,_,H,(aB mm5 (aB mm6 (aL))),(aM)⟩,?_⟩
           refine cJ rfl<|al E H rfl rfl rfl rfl jN fun d2 w a H E=>nt<|?_
           refine ⟨⟨_,_,H,(aB mm6 (aB (t1 mm6) (aL))),(aM)⟩,?_⟩
           refine cJ rfl<|?_
           obtain ⟨q212,d3,rfl⟩:=H.rowform (i:=2) rfl
           obtain ⟨q214,d4,rfl⟩:=H.rowform (i:=3) rfl
           refine aZ (i:=1) E H (wn rfl) rfl rfl rfl rfl rfl rfl dA rfl rfl fun w H=>?_
           replace H:Sep w (Blk d2 25 [.slice none 0 0,.slice none 0 0]::Blk i2 25 [(.slice q212 b.1.length d3),(.slice q214 b.2.1.length d4)]::Row 95 aF (.slice q212 b.1.length d3) b.1::Row 77 aJ (.slice q214 b.2.1.length d4) b.2.1::Row 95 aF d0 b.2.2.1::Row 77 aJ d1 b.2.2.2::Blk t 75 [u,x,z,A,m,n,o,p,q]::Blk f 37 (aR x20 s g j l)::Blk k 48 bN::Fo) _:=H
           refine nt<|?_
           refine ⟨⟨_,_,H,(aB mm6 (aB (t1 mm6) (aL))),(aM)⟩,?_⟩
           refine cP rfl<|?_
           obtain ⟨q216,i3,rfl⟩:=H.rowform (i:=4) rfl
           obtain ⟨q218,i4,rfl⟩:=H.rowform (i:=5) rfl
           refine aZ (i:=0) E H (wn rfl) rfl rfl rfl rfl rfl rfl dA rfl rfl fun w H=>nt<|dW<|?_
           clear hI
           exact aC<|have H:=H.drs [1,1,1];have H:=H.frs [2,2,2,5,5,5] rfl;⟨d2,(.slice q216 b.2.2.1.length i3),(.slice q218 b.2.2.2.length i4),b.2.2.1,b.2.2.2,_,E.sel [0,3,4,7,10] rfl,H,e,y,hm⟩
          ·refine al E H rfl rfl rfl rfl jN fun d5 w a H E=>nt<|?_
           refine ⟨⟨_,_,H,(aB mm5 (aB mm6 (aL))),(aM)⟩,?_⟩
           refine cJ rfl<|al E H rfl rfl rfl rfl jN fun i5 w a H E=>nt<|?_
           refine ⟨⟨_,_,H,(aB mm6 (aB (t1 mm6) (aL))),(aM)⟩,?_⟩
           refine cJ rfl<|?_
           obtain ⟨q222,d6,rfl⟩:=H.rowform (i:=2) rfl
           obtain ⟨q224,d7,rfl⟩:=H.rowform (i:=3) rfl
           refine aZ (i:=0) E H (wn rfl) rfl rfl rfl rfl rfl rfl dA rfl rfl fun w H=>?_
           replace H:Sep w (Blk i5 25 [(.slice q222 b.1.length d6),(.slice q224 b.2.1.length d7)]::Blk d5 25 [.slice none 0 0,.slice none 0 0]::Row 95 aF (.slice q222 b.1.length d6) b.1::Row 77 aJ (.slice q224 b.2.1.length d7) b.2.1::Row 95 aF d0 b.2.2.1::Row 77 aJ d1 b.2.2.2::Blk t 75 [u,x,z,A,m,n,o,p,q]::Blk f 37 (aR x20 s g j l)::Blk k 48 bN::Fo) _:=H
           refine nt<|?_
           refine ⟨⟨_,_,H,(aB mm6 (aB (t1 mm6) (aL))),(aM)⟩,?_⟩
           refine cP rfl<|?_
           obtain ⟨q226,i6,rfl⟩:=H.rowform (i:=4) rfl
           obtain ⟨q228,i7,rfl⟩:=H.rowform (i:=5) rfl
           refine aZ (i:=1) E H (wn rfl) rfl rfl rfl rfl rfl rfl dA rfl rfl fun w H=>nt<|dW<|?_
           clear hI
           exact aC<|have H:=H.drs [0,1,1];have H:=H.frs [2,2,2,5,5,5] rfl;⟨d5,(.slice q226 b.2.2.1.length i6),(.slice q228 b.2.2.2.length i7),b.2.2.1,b.2.2.2,_,E.sel [0,3,4,7,10] rfl,H,e,y,hm⟩
         ·refine al E H rfl rfl rfl rfl jN fun d8 w a H E=>nt<|?_
          refine ⟨⟨_,_,H,(aB mm1 (aB mm2 (aL))),(aM)⟩,?_⟩
          refine kM rfl rfl ?_ ?_
          ·refine cG E rfl rfl rfl rfl rfl u7 (jL (x1:=(⟨P,Q⟩:bB)) H (e _ D) (e _ F) y N)<|?_
           rintro _ w ⟨i8,i9,j0,j1,rfl,H⟩ a E
           refine nt<|?_
           refine ⟨⟨_,_,H,(aB mm5 (aB mm6 (aL))),(aM)⟩,?_⟩
           refine aW E rfl (wn rfl) rfl rfl (fun w hW=>(bD E rfl rfl)) fun a E=>aW E rfl (wn rfl) rfl rfl (fun w hW=>(cX E rfl rfl rfl)) fun a E=>aW E rfl (wn rfl) rfl rfl (fun w hW=>(cX E rfl rfl rfl)) fun a E=>cJ rfl<|al E H rfl rfl rfl rfl jN fun d9 w a H E=>nt<|?_
           replace H:Sep w (Blk d9 25 [.slice none 0 0,.slice none 0 0]::Row 95 aF i8 b.1::Row 77 aJ i9 b.2.1::Row 95 aF j0 b.2.2.1::Row 77 aJ j1 b.2.2.2::Blk d8 25 [.slice none 0 0,.slice none 0 0]::Blk t 75 [u,x,z,A,m,n,o,p,q]::Blk f 37 (aR x20 s g j l)::Blk k 48 bN::Fo) (J):=H
           refine ⟨⟨_,_,H,(aB mm6 (aB (t1 mm6) (aL))),(aM)⟩,?_⟩
           refine cJ rfl<|?_
           obtain ⟨q238,m6,rfl⟩:=H.rowform (i:=1) rfl
           obtain ⟨q240,m7,rfl⟩:=H.rowform (i:=2) rfl
           refine aZ (i:=5) E H (wn rfl) rfl rfl rfl rfl rfl rfl dA rfl rfl fun w H=>nt<|?_
           refine ⟨⟨_,_,H,(aB mm6 (aB (t1 mm6) (aL))),(aM)⟩,?_⟩
           refine cP rfl<|?_
           obtain ⟨q242,j2,rfl⟩:=H.rowform (i:=3) rfl
           obtain ⟨q244,j3,rfl⟩:=H.rowform (i:=4) rfl
           refine aZ (i:=0) E H (wn rfl) rfl rfl rfl rfl rfl rfl dA rfl rfl fun w H=>nt<|dW<|?_
           clear hI
           exact aC<|have H:=H.drs [1,1,3];have H:=H.frs [2,2,2,5,5,5] rfl;⟨d9,(.slice q242 b.2.2.1.length j2),(.slice q244 b.2.2.2.length j3),b.2.2.1,b.2.2.2,_,E.sel [0,3,4,7,10] rfl,H,e,y,hm⟩
          ·refine al E H rfl rfl rfl rfl jN fun e0 w a H E=>nt<|?_
           refine ⟨⟨_,_,H,(aB mm2 (aB mm3 (aL))),(aM)⟩,?_⟩
           refine cJ rfl<|cG E rfl rfl rfl rfl rfl u7 (jL (x1:=(⟨P,Q⟩:bB)) H (e _ D) (e _ F) y N)<|?_
           rintro _ w ⟨j4,j5,j6,j7,rfl,H⟩ a E
           refine nt<|?_
           replace H:Sep w (Row 95 aF j4 b.1::Row 77 aJ j5 b.2.1::Row 95 aF j6 b.2.2.1::Row 77 aJ j7 b.2.2.2::Blk e0 25 [.slice none 0 0,.slice none 0 0]::Blk d8 25 [.slice none 0 0,.slice none 0 0]::Blk t 75 [u,x,z,A,m,n,o,p,q]::Blk f 37 (aR x20 s g j l)::Blk k 48 bN::Fo) (J):=H
           refine ⟨⟨_,_,H,(aB mm6 (aB (t1 mm6) (aL))),(aM)⟩,?_⟩
           refine aW E rfl (wn rfl) rfl rfl (fun w hW=>(bD E rfl rfl)) fun a E=>aW E rfl (wn rfl) rfl rfl (fun w hW=>(cX E rfl rfl rfl)) fun a E=>aW E rfl (wn rfl) rfl rfl (fun w hW=>(cX E rfl rfl rfl)) fun a E=>cJ rfl<|?_
           obtain ⟨q253,m8,rfl⟩:=H.rowform (i:=0) rfl
           obtain ⟨q255,m9,rfl⟩:=H.rowform (i:=1) rfl
           refine aZ (i:=5) E H (wn rfl) rfl rfl rfl rfl rfl rfl dA rfl rfl fun w H=>nt<|?_
           refine ⟨⟨_,_,H,(aB mm6 (aB (t1 mm6) (aL))),(aM)⟩,?_⟩
           refine cP rfl<|?_
           obtain ⟨q257,j8,rfl⟩:=H.rowform (i:=2) rfl
           obtain ⟨q259,j9,rfl⟩:=H.rowform (i:=3) rfl
           refine aZ (i:=4) E H (wn rfl) rfl rfl rfl rfl rfl rfl dA rfl rfl fun w H=>nt<|dW<|?_
           clear hI
           exact aC<|have H:=H.drs [0,0,3];have H:=H.frs [1,1,2,5,5,5] rfl;⟨e0,(.slice q257 b.2.2.1.length j8),(.slice q259 b.2.2.2.length j9),b.2.2.1,b.2.2.2,_,E.sel [0,3,4,7,10] rfl,H,e,y,hm⟩
         ·refine al E H rfl rfl rfl rfl jN fun S w a H E=>nt<|?_
          refine ⟨⟨_,_,H,(aB mm1 (aB mm2 (aL))),(aM)⟩,?_⟩
          refine kM rfl rfl ?_ ?_
          ·refine cG E rfl rfl rfl rfl rfl u7 (jL (x1:=(⟨P,Q⟩:bB)) H (e _ D) (e _ F) y N)<|?_
           rintro _ w ⟨k0,k1,k2,k3,rfl,H⟩ a E
           refine nt<|?_
           replace H:Sep w (Row 95 aF k0 b.1::Row 77 aJ k1 b.2.1::Row 95 aF k2 b.2.2.1::Row 77 aJ k3 b.2.2.2::Blk S 25 [.slice none 0 0,.slice none 0 0]::Blk t 75 [u,x,z,A,m,n,o,p,q]::Blk f 37 (aR x20 s g j l)::Blk k 48 bN::Fo) (J):=H
           refine ⟨⟨_,_,H,(aB mm5 (aB mm6 (aL))),(aM)⟩,?_⟩
           refine aW E rfl (wn rfl) rfl rfl (fun w hW=>(bD E rfl rfl)) fun a E=>aW E rfl (wn rfl) rfl rfl (fun w hW=>(cX E rfl rfl rfl)) fun a E=>aW E rfl (wn rfl) rfl rfl (fun w hW=>(cX E rfl rfl rfl)) fun a E=>cJ rfl<|al E H rfl rfl rfl rfl jN fun n0 w a H E=>nt<|?_
           refine ⟨⟨_,_,H,(aB mm6 (aB (t1 mm6) (aL))),(aM)⟩,?_⟩
           refine cJ rfl<|?_
           obtain ⟨q269,n1,rfl⟩:=H.rowform (i:=1) rfl
           obtain ⟨q271,n2,rfl⟩:=H.rowform (i:=2) rfl
           refine aZ (i:=0) E H (wn rfl) rfl rfl rfl rfl rfl rfl dA rfl rfl fun w H=>nt<|?_
           refine ⟨⟨_,_,H,(aB mm6 (aB (t1 mm6) (aL))),(aM)⟩,?_⟩
           refine cP rfl<|?_
           obtain ⟨q273,k4,rfl⟩:=H.rowform (i:=3) rfl
           obtain ⟨q275,k5,rfl⟩:=H.rowform (i:=4) rfl
           refine aZ (i:=5) E H (wn rfl) rfl rfl rfl rfl rfl rfl dA rfl rfl fun w H=>nt<|dW<|?_
           clear hI
           exact aC<|have H:=H.drs [0,0,0];have H:=H.frs [1,1,2,5,5,5] rfl;⟨S,(.slice q273 b.2.2.1.length k4),(.slice q275 b.2.2.2.length k5),b.2.2.1,b.2.2.2,_,E.sel [0,3,4,7,10] rfl,H,e,y,hm⟩
          ·refine al E H rfl rfl rfl rfl jN fun k6 w a H E=>nt<|?_
           replace H:Sep w (Blk k6 25 [.slice none 0 0,.slice none 0 0]::Blk S 25 [.slice none 0 0,.slice none 0 0]::Blk t 75 [u,x,z,A,m,n,o,p,q]::Blk f 37 (aR x20 s g j l)::Blk k 48 bN::Fo) (J):=H
           refine ⟨⟨_,_,H,(aB mm2 (aB mm3 (aL))),(aM)⟩,?_⟩
           refine cJ rfl<|cG E rfl rfl rfl rfl rfl u7 (jL (x1:=(⟨P,Q⟩:bB)) H (e _ D) (e _ F) y N)<|?_
           rintro _ w ⟨n3,n4,n5,n6,rfl,H⟩ a E
           refine nt<|?_
           refine ⟨⟨_,_,H,(aB mm6 (aB (t1 mm6) (aL))),(aM)⟩,?_⟩
           refine aW E rfl (wn rfl) rfl rfl (fun w hW=>(bD E rfl rfl)) fun a E=>aW E rfl (wn rfl) rfl rfl (fun w hW=>(cX E rfl rfl rfl)) fun a E=>aW E rfl (wn rfl) rfl rfl (fun w hW=>(cX E rfl rfl rfl)) fun a E=>cJ rfl<|?_
           obtain ⟨q284,n7,rfl⟩:=H.rowform (i:=0) rfl
           obtain ⟨q286,n8,rfl⟩:=H.rowform (i:=1) rfl
           refine aZ (i:=4) E H (wn rfl) rfl rfl rfl rfl rfl rfl dA rfl rfl fun w H=>nt<|?_
           refine ⟨⟨_,_,H,(aB mm6 (aB (t1 mm6) (aL))),(aM)⟩,?_⟩
           refine cP rfl<|?_
           obtain ⟨q288,k7,rfl⟩:=H.rowform (i:=2) rfl
           obtain ⟨q290,k8,rfl⟩:=H.rowform (i:=3) rfl
           refine aZ (i:=5) E H (wn rfl) rfl rfl rfl rfl rfl rfl dA rfl rfl fun w H=>nt<|dW<|?_
           clear hI
           exact aC<|have H:=H.drs [0,0,2];have H:=H.frs [1,1,2,5,5,5] rfl;⟨S,(.slice q288 b.2.2.1.length k7),(.slice q290 b.2.2.2.length k8),b.2.2.1,b.2.2.2,_,E.sel [0,3,4,7,10] rfl,H,e,y,hm⟩
        ·clear E H hm
         rintro a w ⟨V,X,Y,L,M,R,E,H,b2,b3,hm⟩
         unfold pP at hm
         refine sq<|pr 1 E rfl fun a E=>sv E rfl rfl rfl (cA (i:=1) (us:=[g,j]) E H rfl rfl rfl rfl U25 rfl dA) fun a E=>pr 2 E rfl fun a E=>lb E H 1 rfl rfl rfl rfl rfl rfl rfl U9 rfl fun a E=>bd hm fun c k9 hm=>cG E rfl rfl rfl rfl rfl u7 (jL H (b2 _ g1) (b2 _ g2) b3 k9)<|?_
         rintro _ w ⟨o2,o3,m2,m3,rfl,H⟩ a E
         refine pr 3 E rfl fun a E=>al E H rfl rfl rfl rfl jN fun f7 w a H E=>al E H rfl rfl rfl rfl jN fun f8 w a H E=>?_
         obtain ⟨q92,b5,rfl⟩:=H.rowform (i:=2) rfl
         obtain ⟨q94,b6,rfl⟩:=H.rowform (i:=3) rfl
         refine aZ (i:=1) E H (wn rfl) rfl rfl rfl rfl rfl rfl dA rfl rfl fun w H=>?_
         replace H:Sep w (Blk f8 25 [.slice none 0 0,.slice none 0 0]::Blk f7 25 [(.slice q92 c.1.length b5),(.slice q94 c.2.1.length b6)]::Row 95 aF (.slice q92 c.1.length b5) c.1::Row 77 aJ (.slice q94 c.2.1.length b6) c.2.1::Row 95 aF m2 c.2.2.1::Row 77 aJ m3 c.2.2.2::Blk t 75 [u,x,z,A,m,n,o,p,q]::Blk f 37 (aR x20 s g j l)::Blk k 48 bN::Blk V 25 [X,Y]::Row 95 aF X L::Row 77 aJ Y M::Fo) _:=H
         obtain ⟨q96,f9,rfl⟩:=H.rowform (i:=4) rfl
         obtain ⟨q98,g0,rfl⟩:=H.rowform (i:=5) rfl
         refine aZ (i:=0) E H (wn rfl) rfl rfl rfl rfl rfl rfl dA rfl rfl fun w H=>nx<|pr 1 E rfl fun a E=>lb E H 9 rfl rfl rfl rfl rfl rfl rfl U22 rfl fun a E=>pr 1 E rfl fun a E=>lb E H 1 rfl rfl rfl rfl rfl rfl rfl U22 rfl fun a E=>bk hm fun e4 hm=>dV (i:=10) E H (wn rfl) rfl rfl rfl rfl rfl rfl (R1 (i:=2) rfl) U22 Ec rfl e4 rfl fun n9 w a H E=>pr 1 E rfl fun a E=>?_
         obtain ⟨q103,T,rfl⟩:=H.rowform (i:=10) rfl
         refine aZ (i:=9) E H (wn rfl) rfl rfl rfl rfl rfl rfl Cj rfl rfl fun w H=>nx<|pr 1 E rfl fun a E=>lb E H 9 rfl rfl rfl rfl rfl rfl rfl U23 rfl fun a E=>pr 1 E rfl fun a E=>lb E H 1 rfl rfl rfl rfl rfl rfl rfl U23 rfl fun a E=>bk hm fun e5 hm=>dV (i:=11) E H (wn rfl) rfl rfl rfl rfl rfl rfl (R1 (i:=3) rfl) U23 Ed rfl e5 rfl fun o0 w a H E=>pr 1 E rfl fun a E=>?_
         obtain ⟨q108,U,rfl⟩:=H.rowform (i:=11) rfl
         refine aZ (i:=9) E H (wn rfl) rfl rfl rfl rfl rfl rfl K1 rfl rfl fun w H=>nx<|pr 1 E rfl fun a E=>lb E H 9 rfl rfl rfl rfl rfl rfl rfl U22 rfl fun a E=>bk hm fun e6 hm=>cG E rfl rfl rfl rfl rfl Zy (sort_c (ix:=10) H rfl e6)<|?_
         rintro _ w ⟨rfl,H⟩ a E
         refine nx<|pr 1 E rfl fun a E=>lb E H 9 rfl rfl rfl rfl rfl rfl rfl U23 rfl fun a E=>bk hm fun e7 hm=>cG E rfl rfl rfl rfl rfl Zz (Tn.sort_c (ix:=11) H rfl e7)<|?_
         rintro _ w ⟨rfl,H⟩ a E
         replace H:Sep w (Blk f8 25 [(.slice q96 c.2.2.1.length f9),(.slice q98 c.2.2.2.length g0)]::Blk f7 25 [(.slice q92 c.1.length b5),(.slice q94 c.2.1.length b6)]::Row 95 aF (.slice q92 c.1.length b5) c.1::Row 77 aJ (.slice q94 c.2.1.length b6) c.2.1::Row 95 aF (.slice q96 c.2.2.1.length f9) c.2.2.1::Row 77 aJ (.slice q98 c.2.2.2.length g0) c.2.2.2::Blk t 75 [u,x,z,A,m,n,o,p,q]::Blk f 37 (aR x20 s g j l)::Blk k 48 bN::Blk V 25 [(.slice q103 (L ++ c.1).length T),(.slice q108 (M ++ c.2.1).length U)]::Row 95 aF (.slice q103 (L ++ c.1).length T) (srtN (L ++ c.1))::Row 77 aJ (.slice q108 (M ++ c.2.1).length U) (Tn.srtN (M ++ c.2.1))::Fo) (R):=H
         refine nx<|pr 2 E rfl fun a E=>sv E rfl rfl rfl (cA (i:=9) (us:=[(.slice q103 (L ++ c.1).length T),(.slice q108 (M ++ c.2.1).length U)]) E H rfl rfl rfl rfl U25 rfl dA) fun a E=>pr 3 E rfl fun a E=>aZ (i:=6) E H (wn rfl) rfl rfl rfl rfl rfl rfl dA rfl rfl fun w H=>pr 2 E rfl fun a E=>?_
         obtain ⟨q114,l0,rfl⟩:=H.slform b3
         refine aZ (i:=6) E H (wn rfl) rfl rfl rfl rfl rfl rfl Lv rfl rfl fun w H=>nx<|sv E rfl rfl rfl (cI E rfl (E.evs rfl) (v:=.agg bN.toArray) (by kernel_rfl)) fun a E=>aZ (i:=8) E H (wn rfl) rfl rfl rfl rfl rfl rfl bU rfl rfl fun w H=>nt<|wp_ret<|dH E rfl (cV (i:=8) (us:=bN) H rfl rfl rfl U48 rfl bU)<|have H:=H.nilSl bE;have H:=H.nilSl aF;?_
         refine have H:=H.nilSl aJ;have H:=H.nilSl aV;have H:=H.nilSl bL;have H:=H.nilSl (kI .i64);have H:=H.thaw (i:=10) rfl;have H:=H.thaw (i:=10) rfl;have H:=H.drs [0,0,0,0,0,0,1,1,1];?_
         cases hm
         exact ⟨(.slice none 0 0),(.slice none 0 0),(.slice none 0 0),(.slice none 0 0),(.slice none 0 0),(.slice none 0 0),(.slice q103 (L ++ c.1).length T),(.slice q108 (M ++ c.2.1).length U),(.slice q114 I.length l0),rfl,H.reads (aA (t1 mm6) (aA mm6 (aA mm5 (aA mm4 (aA mm3 (aA mm2 (aA mm1 (aA m0 (aA (t8 b3) (fun r hr=>(t8 (b2 r hr))))))))))))⟩

def lJ(c:List aK)(d:List aD)(x20:bM)(e:List bK)(b:Int):Option (aG×(List aK)×(List aD)):=
  if (b != 0)=true then ((dM b).bind fun f=>some (f,c,d)) else (some ((⟨0,0,false,0,[],(⟨[],[]⟩:bB),e,[],[]⟩:aG),x20.Watches,x20.Sessions))
theorem rX{B:Nat}{j k c d l m n o p q s t:Value}{u:List aK}{x:List aD}{x20:bM}{b:List bK}{y:Int}(H:Sep w (Blk B 75 [m,n,o,p,j,k,q,s,t]::Fo) rs)(C:rSl aX j u ∈ rs)(D:rSl aO k x ∈ rs)(e:rSl aX c x20.Watches ∈ rs)(f:rSl aO d x20.Sessions ∈ rs)(g:rSl aV l b ∈ rs){r:aG×(List aK)×(List aD)}(hm:lJ u x x20 b y=some r) :
    Calls Tryz.prog 89 [pt B 0,.agg #[c,d],l,.int .i64 y].toArray w (Ret fun v w'=>∃ G I J K L M N z,.agg (bC r.1 G I J K L M).toArray=v∧Sep w' (Blk B 75 [m,n,o,p,N,z,q,s,t]::Fo) (rSl bE G r.1.Results::rSl aF I r.1.Store.Nodes::rSl aJ J r.1.Store.Turns::rSl aV K r.1.Events::rSl bL L r.1.Mounts::rSl (kI .i64) M r.1.Wounded::rSl aX N r.2.1::rSl aO z r.2.2::rs)):=by
 unfold lJ at hm
 refine ent Tryz.func89 rfl Tryz.ntmps89 rfl rfl fun a E=>sq<|bS E H (wn rfl) rfl rfl rfl rfl rfl fun V w a H E=>al E H rfl rfl rfl rfl gN fun W w a H E=>nt<|wp_seq<|sq<|pr 2 E rfl fun a E=>nt<|wif E hm rfl (fun hm=>?_) fun hm=>?_
 ·refine sq<|pr 1 E rfl fun a E=>bd hm fun O F hm=>cG E rfl rfl rfl rfl rfl tM (dT H F)<|?_
  rintro _ w ⟨P,Q,R,S,T,U,rfl,H⟩ a E
  refine aZ (i:=0) E H (wn rfl) rfl rfl rfl rfl rfl rfl bU rfl (bF H m0 mm1 mm2 mm3 mm4 mm5) fun w H=>nt<|wp_ret<|aP<|dH E rfl (cV (i:=0) (us:=(bC O P Q R S T U)) H rfl rfl rfl U48 rfl bU)<|have H:=H.drs [0,0];?_
  cases hm
  exact X8 ⟨rfl,H.reads (aA m0 (aA mm1 (aA mm2 (aA mm3 (aA mm4 (aA mm5 (aA (t6 C) (aA (t6 D) (fun r hr=>(t6 hr))))))))))⟩
 ·refine wp_skip<|aC<|sq<|pr 1 E rfl fun a E=>sv E rfl rfl rfl (cA (i:=1) (us:=[c,d]) E H rfl rfl rfl rfl U73 rfl eE) fun a E=>pr 2 E rfl fun a E=>aZ (i:=2) E H (wn rfl) rfl rfl rfl rfl rfl rfl eE rfl (gB H e f) fun w H=>nx<|pr 1 E rfl fun a E=>?_
  obtain ⟨q48,A,rfl⟩:=H.slform g
  refine sv E rfl rfl rfl (cI E rfl (E.evs rfl) (v:=.agg #[.int .i64 0,.int .i64 0,.bool false,.int .i64 0,.slice none 0 0,.slice none 0 0,.slice none 0 0,(.slice q48 b.length A),.slice none 0 0,.slice none 0 0]) (by kernel_rfl)) fun a E=>aZ (i:=0) E H (wn rfl) rfl rfl rfl rfl rfl rfl bU rfl rfl fun w H=>nt<|wp_ret<|dH E rfl (cV (i:=0) (us:=[.int .i64 0,.int .i64 0,.bool false,.int .i64 0,.slice none 0 0,.slice none 0 0,.slice none 0 0,(.slice q48 b.length A),.slice none 0 0,.slice none 0 0]) H rfl rfl rfl U48 rfl bU)<|have H:=H.nilSl bE;have H:=H.nilSl aF;have H:=H.nilSl aJ;have H:=H.nilSl bL;?_
  refine have H:=H.nilSl (kI .i64);have H:=H.drs [0,0];?_
  cases hm
  exact X8 ⟨rfl,H.reads (aA mm4 (aA mm3 (aA mm2 (aA (t5 g) (aA mm1 (aA m0 (aA (t5 e) (aA (t5 f) (fun r hr=>(t5 hr))))))))))⟩

def cU(c:List aD)(x3:Int):Nat→Int→Int→Option (Int×Bool)
  | 0,_,_=>none
  | e+1,b,d=>
    if (decide (b < d))=true then ((idx c (IntKind.i64.wrap (pH .u64 (IntKind.u64.wrap (IntKind.i64.wrap (b+d))) 1))).bind fun j=>(wC j x3).bind fun f=>if (decide (f < 0))=true then (cU c x3 e (IntKind.i64.wrap ((IntKind.i64.wrap (pH .u64 (IntKind.u64.wrap (IntKind.i64.wrap (b+d))) 1))+1)) d) else (cU c x3 e b (IntKind.i64.wrap (pH .u64 (IntKind.u64.wrap (IntKind.i64.wrap (b+d))) 1)))) else (if (decide (b < (c.length:Int)))=true then ((idx c b).bind fun g=>(wC g x3).bind fun i=>some (b,i == 0)) else (some (b,false)))
def dS(b:List aD)(x3:Int):Option (Int×Bool):=
  cU b x3 (((b.length:Int) - 0:Int).toNat+1) 0 (b.length:Int)
theorem gR{j:Value}{f:List aD}{x3:Int}(H:Sep w (Fo) rs)(g:rSl aO j f ∈ rs){r:Int×Bool}(hm:dS f x3=some r) :
    Calls Tryz.prog 163 [j,.int .i64 x3,.func (.func 164) #[] #[]].toArray w (Ret fun v w'=>.tuple #[.int .i64 r.1,.bool r.2]=v∧Sep w' (Fo) (rs)):=by
 unfold dS at hm
 refine ent Tryz.func163 rfl Tryz.ntmps163 rfl rfl fun a E=>sq<|pr 2 E rfl fun a E=>nx<|pr 1 E rfl fun a E=>sv E rfl rfl rfl (cR E H rfl rfl g U71) fun a E=>pr 1 E rfl fun a E=>nx<|pr 3 E rfl fun a E=>?_
 refine nt<|wp_seq<|wp_block<|bX (fun e a w=>∃ k l i,Env 49 a [(0,j),(1,.int .i64 x3),(2,.func (.func 164) #[] #[]),(8,.int .i64 (f.length:Int)),(9,.int .i64 k),(10,.int .i64 l)]∧Sep w (Fo) i∧(∀ r,r ∈ rs→r ∈ i)∧cU f x3 e k l=some r) (((f.length:Int) - 0:Int).toNat+1) ?_ ?_
 ·exact X3 ⟨E.to rfl,H,Y0,hm⟩
 ·clear E H hm
  rintro e a w ⟨k,l,i,E,H,c,hm⟩
  cases e with
  | zero=>exact (bT hm rfl).elim
  | succ e=>
   unfold cU at hm
   refine wp_seq<|sq<|pr 3 E rfl fun a E=>nt<|wif E hm rfl (fun hm=>?_) fun hm=>?_
   ·refine wp_skip<|aC<|wp_block<|sq<|pr 4 E rfl fun a E=>sv E rfl rfl rfl (J4 E rfl rfl rfl (by decide)) fun a E=>pr 2 E rfl fun a E=>nx<|pr 3 E rfl fun a E=>?_
    refine bd hm fun A m hm=>dE E H (wn rfl) rfl rfl rfl rfl rfl (c _ g) U71 rL m fun q11 a H E=>N5 E H (wn rfl) rfl rfl rfl rfl m0 Ch rfl rL fun q a H E=>?_
    obtain ⟨s,rfl,h⟩:=s6 H;clear H;have H:=h
    refine pr 1 E rfl fun a E=>bd hm fun t n hm=>aU E (wn rfl) rfl rfl (bP E rfl rfl rfl (Dz _)) (y3 H n)<|?_
    rintro _ w ⟨rfl,H⟩ a E
    refine pr 1 E rfl fun a E=>nt<|wif E hm rfl (fun hm=>?_) fun hm=>?_
    ·exact wp_region_lit<|pr 3 E rfl fun a E=>wpList_nil<|bY<|aC<|⟨e,Nat.lt_succ_self e,X3 ⟨E.to rfl,H,(Y3 c),hm⟩⟩
    ·exact wp_region_lit<|pr 2 E rfl fun a E=>wpList_nil<|bY<|aC<|⟨e,Nat.lt_succ_self e,X3 ⟨E.to rfl,H,(Y3 c),hm⟩⟩
   ·refine wp_exit<|bH<|bH<|dG<|aC<|sq<|pr 5 E rfl fun a E=>cs hm (fun b hm=>?_) fun b hm=>?_
    ·refine pk 3 E (kc 39 rfl b) rfl fun a E=>bd hm fun u o hm=>dE E H (ws' (d:=39) E rfl rfl rfl rfl b) rfl rfl rfl rfl rfl (c _ g) U71 rL o fun q19 a H E=>N5 E H (ws' (d:=39) E rfl rfl rfl rfl b) rfl rfl rfl rfl m0 Ch rfl rL fun x a H E=>?_
     obtain ⟨y,rfl,h⟩:=s6 H;clear H;have H:=h
     refine pk 1 E (kc 39 rfl b) rfl fun a E=>bd hm fun z p hm=>aU E (ws' (d:=39) E rfl rfl rfl rfl b) rfl rfl (bP E rfl rfl rfl (Dz _)) (y3 H p)<|?_
     rintro _ w ⟨rfl,H⟩ a E
     refine pk 4 E (kc 39 rfl b) rfl fun a E=>nt<|wp_ret<|fX E rfl rfl rfl<|?_
     cases hm
     exact ⟨rfl,H.reads (Y3 c)⟩
    ·refine pk 11 E (kc 39 rfl b) rfl fun a E=>nt<|wp_ret<|fX E rfl rfl rfl<|?_
     cases hm
     exact ⟨rfl,H.reads c⟩

def wH(x1:bK)(x3:Int):Option Bool:=
  some (decide (x1.Num ≤ x3))
theorem I9{x1:bK}{b:Nat}{x3:Int}(H:Sep w (Blk b 2 [.int .i64 x3]::Fo) rs){r:Bool}(hm:wH x1 x3=some r) :
    Calls Tryz.prog 171 [.agg (D8 x1).toArray,pt b 0].toArray w (Ret fun v w'=>.bool r=v∧Sep w' (Blk b 2 [.int .i64 x3]::Fo) (rs)):=by
 unfold wH at hm
 refine ent Tryz.func171 rfl Tryz.ntmps171 rfl rfl fun a E=>sq<|bS E H (wn rfl) rfl rfl rfl rfl rfl fun c w a H E=>pr 1 E rfl fun a E=>nx<|pr 1 E rfl fun a E=>lb E H 0 rfl rfl rfl rfl rfl rfl rfl U2 rfl fun a E=>lb E H 1 rfl rfl rfl rfl rfl rfl rfl U2 rfl fun a E=>pr 2 E rfl fun a E=>?_
 refine nt<|wp_ret<|aY E rfl rfl<|have H:=H.drop 0;?_
 cases hm
 exact ⟨rfl,H.reads Y0⟩

def eX(c:List bK)(d:Int):Nat→Int→Option Int
  | 0,_=>none
  | f+1,b=>
    if (decide (b < (c.length:Int)))=true then ((idx c b).bind fun g=>(wH g d).bind fun e=>if e=true then (some (b)) else (eX c d f (IntKind.i64.wrap (b+1)))) else (some ((-1)))
def iN(b:List bK)(c:Int):Option Int:=
  eX b c (((b.length:Int) - 0:Int).toNat+1) 0
theorem uB{e:Value}{b:List bK}{f:Nat}{g:Int}(H:Sep w (Row 223 aV e b::Blk f 2 [.int .i64 g]::Fo) rs){r:Int}(hm:iN b g=some r) :
    Calls Tryz.prog 235 [e,.func (.func 171) #[] #[pt f 0]].toArray w (Ret fun v w'=>.int .i64 r=v∧Sep w' (Blk f 2 [.int .i64 g]::Row 223 aV e b::Fo) (rs)):=by
 unfold iN at hm
 refine ent Tryz.func235 rfl Tryz.ntmps235 rfl rfl fun a E=>sq<|pr 1 E rfl fun a E=>nt<|wp_seq<|sq<|pr 1 E rfl fun a E=>sv E rfl rfl rfl (iZ (i:=0) E H rfl rfl rfl U44) fun a E=>pr 1 E rfl fun a E=>?_
 refine nt<|wp_block<|bX (fun c a w=>∃ o j,Env 19 a [(0,e),(1,.func (.func 171) #[] #[pt f 0]),(7,.int .i64 (b.length:Int)),(8,.int .i64 o)]∧Sep w (Row 223 aV e b::Blk f 2 [.int .i64 g]::Fo) j∧(∀ r,r ∈ rs→r ∈ j)∧eX b g c o=some r) (((b.length:Int) - 0:Int).toNat+1) ?_ ?_
 ·exact ⟨_,_,E.to rfl,H,Y0,hm⟩
 ·clear E H hm
  rintro c a w ⟨o,j,E,H,k,hm⟩
  cases c with
  | zero=>exact (bT hm rfl).elim
  | succ c=>
   unfold eX at hm
   refine sq<|pr 1 E rfl fun a E=>nt<|wp_seq<|wif E hm rfl (fun hm=>?_) fun hm=>?_
   ·refine wp_skip<|aC<|wp_seq<|wp_block<|sq<|pr 2 E rfl fun a E=>nx<|pr 3 E rfl fun a E=>bd hm fun n l hm=>?_
    obtain ⟨q,s,m⟩:=H.rowformNE (i:=0) rfl l
    refine sv E rfl rfl rfl (cY (d:=aV) E m rfl rfl rfl rfl U44 rM l) fun a E=>sv E rfl rfl rfl (fZ (i:=0) E H mZ m rfl rfl rfl l (us:=[.int .i64 n.Num,.int .i64 n.Kind,.string n.Path,.int .i64 n.Watch]) rfl Ci rfl rM) fun a E=>have H:=H.frs [0,1] rfl;bd hm fun t p hm=>aU E (wn rfl) rfl rfl (bP E rfl rfl rfl (Mt _)) (I9 H p)<|?_
    rintro _ w ⟨rfl,H⟩ a E
    refine nt<|wif E hm rfl (fun hm=>?_) fun hm=>?_
    ·refine sq<|pr 2 E rfl fun a E=>nt<|wp_ret<|bV<|aP<|aP<|bV<|aP<|?_
     refine aY E rfl rfl<|?_
     cases hm
     exact ⟨rfl,H.reads k⟩
    ·exact wp_skip<|bY<|aC<|wp_region_lit<|pr 2 E rfl fun a E=>nt<|have H:=H.frs [0,1] rfl;⟨c,Nat.lt_succ_self c,_,_,E.to rfl,H,k,hm⟩
   ·refine wp_exit<|bH<|bH<|dG<|aC<|sq<|pr 1 E rfl fun a E=>nt<|wp_ret<|?_
    refine aY E rfl rfl<|have H:=H.frs [0,1] rfl;?_
    cases hm
    exact ⟨rfl,H.reads k⟩

def eL(rec_1:(List bK)→Int→Int→Option (List bK))(d:Int)(b:(List bK))(c:Int):Option (List bK):=
  rec_1 b c (IntKind.i64.wrap (d+1))
def dO(f:Int):Nat→(List bK)→Int→Int→Option (List bK)
  | 0,_,_,_=>none
  | g+1,c,b,d=>
    if (decide (d < (c.length:Int)))=true then ((idx c d).bind fun e=>(wH e f).bind fun i=>if (!i)=true then ((idx c b).bind fun j=>eL (dO f g) d (c.set b.toNat e) (IntKind.i64.wrap (b+1))) else (eL (dO f g) d c b)) else ((ck (0 ≤ b∧b ≤ c.length)).bind fun k=>(ck (0 ≤ b∧b ≤ (c.take b.toNat ++ List.replicate (c.length - b.toNat) (⟨0,0,⟨#[]⟩,0⟩:bK)).length)).bind fun l=>some ((c.take b.toNat ++ List.replicate (c.length - b.toNat) (⟨0,0,⟨#[]⟩,0⟩:bK)).take b.toNat))
def iB(b:List bK)(d:Int):Option (List bK):=
  (iN b d).bind fun c=>if (c == (-1))=true then (some (b)) else (dO d (((b.length:Int) - (IntKind.i64.wrap (c+1)):Int).toNat+1) b c (IntKind.i64.wrap (c+1)))
theorem tJ{n:Value}{x:List bK}{c:Nat}{e:Int}(H:Sep w (Row 223 aV n x::Blk c 2 [.int .i64 e]::Fo) rs){r:(List bK)}(hm:iB x e=some r) :
    Calls Tryz.prog 169 [n,.func (.func 171) #[] #[pt c 0]].toArray w (Ret fun v w'=>∃ D,D=v∧Sep w' (Row 223 aV D r::Blk c 2 [.int .i64 e]::Fo) (rs)):=by
 unfold iB at hm
 refine ent Tryz.func169 rfl Tryz.ntmps169 rfl rfl fun a E=>sq<|pr 1 E rfl fun a E=>nx<|pr 2 E rfl fun a E=>bd hm fun G F hm=>xk E rfl rfl rfl rfl rfl Vx (uB H F) fun w H a E=>pr 1 E rfl fun a E=>nt<|?_
 refine wp_seq<|sq<|pr 2 E rfl fun a E=>nt<|wif E hm rfl (fun hm=>?_) fun hm=>?_
 ·refine sq<|pr 2 E rfl fun a E=>nt<|wp_ret<|aP<|aY E rfl rfl<|have H:=H.frs [0,1] rfl;?_
  cases hm
  exact ⟨_,rfl,H.reads Y0⟩
 ·refine wp_skip<|aC<|wp_seq<|sq<|pr 3 E rfl fun a E=>nt<|wp_block<|bX (fun f a w=>∃ y z o g,Env 42 a [(0,n),(1,.func (.func 171) #[] #[pt c 0]),(5,.int .i64 z),(6,.int .i64 o)]∧Sep w (Row 223 aV n y::Blk c 2 [.int .i64 e]::Fo) g∧(∀ r,r ∈ rs→r ∈ g)∧dO e f y z o=some r) (((x.length:Int) - (IntKind.i64.wrap (G+1)):Int).toNat+1) ?_ ?_
  ·exact have H:=H.frs [0,1] rfl;X4 ⟨E.to rfl,H,Y0,hm⟩
  ·clear E H hm
   rintro f a w ⟨y,z,o,g,E,H,j,hm⟩
   cases f with
   | zero=>exact (bT hm rfl).elim
   | succ f=>
    unfold dO at hm
    refine wp_seq<|sq<|pr 2 E rfl fun a E=>sv E rfl rfl rfl (iZ (i:=0) E H rfl rfl rfl U44) fun a E=>pr 1 E rfl fun a E=>nt<|wif E hm rfl (fun hm=>?_) fun hm=>?_
    ·refine wp_skip<|aC<|aT (fun a w=>∃ p q k,Env 42 a [(0,n),(1,.func (.func 171) #[] #[pt c 0]),(5,.int .i64 q),(6,.int .i64 o)]∧Sep w (Row 223 aV n p::Blk c 2 [.int .i64 e]::Fo) k∧(∀ r,r ∈ rs→r ∈ k)∧eL (dO e f) o p q=some r) ?_ ?_
     ·refine wp_block<|sq<|pr 2 E rfl fun a E=>bd hm fun b l hm=>?_
      obtain ⟨I,J,s⟩:=H.rowformNE (i:=0) rfl l
      refine sv E rfl rfl rfl (cY (d:=aV) E s rfl rfl rfl rfl U44 rM l) fun a E=>sv E rfl rfl rfl (fZ (i:=0) E H mZ s rfl rfl rfl l (us:=[.int .i64 b.Num,.int .i64 b.Kind,.string b.Path,.int .i64 b.Watch]) rfl Ci rfl rM) fun a E=>al E H rfl rfl rfl rfl Ij fun K w a H E=>aZ (i:=0) E H (wn rfl) rfl rfl rfl rfl rfl rfl rM rfl rfl fun w H=>nx<|pr 1 E rfl fun a E=>sv E rfl rfl rfl (cA (i:=0) (us:=(D8 b)) E H rfl rfl rfl rfl Ci rfl rM) fun a E=>have H:=H.frs [1,1,2] rfl;bd hm fun L A hm=>?_
      refine aU E (wn rfl) rfl rfl (bP E rfl rfl rfl (Mt _)) (I9 H A)<|?_
      rintro _ w ⟨rfl,H⟩ a E
      refine pr 1 E rfl fun a E=>nt<|wif E hm rfl (fun hm=>?_) fun hm=>?_
      ·refine sq<|pr 2 E rfl fun a E=>sv E rfl rfl rfl (cA (i:=1) (us:=(D8 b)) E H rfl rfl rfl rfl Ci rfl rM) fun a E=>bd hm fun M m hm=>?_
       obtain ⟨N,O,t⟩:=H.rowformNE (i:=2) rfl m
       refine sv E rfl rfl rfl (cY (d:=aV) E t rfl rfl rfl rfl U44 rM m) fun a E=>yO (d:=aV) (i:=2) (us:=[.int .i64 b.Num,.int .i64 b.Kind,.string b.Path,.int .i64 b.Watch]) (z':=b) E H mZ (wn rfl) rfl t rfl rfl rfl rfl rfl rfl rfl m rM fun w H=>nt<|wp_region_lit<|pr 3 E rfl fun a E=>wpList_nil<|bY<|aC<|have H:=H.drop 1;?_
       exact have H:=H.frs [0,1] rfl;X3 ⟨E.to rfl,H,j,hm⟩
      ·exact wp_skip<|bY<|aC<|have H:=H.drop 1;have H:=H.frs [0,1] rfl;X3 ⟨E.to rfl,H,j,hm⟩
     ·clear E H hm
      rintro a w ⟨p,q,k,E,H,B,hm⟩
      unfold eL at hm
      exact wp_region_lit<|pr 3 E rfl fun a E=>nt<|⟨f,Nat.lt_succ_self f,X4 ⟨E.to rfl,H,B,hm⟩⟩
    ·refine wp_exit<|bH<|bH<|dG<|aC<|sq<|pr 2 E rfl fun a E=>bk hm fun u hm=>sv E rfl rfl rfl (J6 (d:=aV) (i:=0) E H rfl rfl rfl rfl U44 rM u) fun a E=>?_
     refine q4 (i:=0) (z0:=(⟨0,0,⟨#[]⟩,0⟩:bK)) E H mZ (wn rfl) rfl rfl rfl U44 Rx rfl rfl rfl u fun w H=>nx<|pr 2 E rfl fun a E=>bk hm fun C hm=>C8 (i:=0) E H mZ (wn rfl) rfl rfl rfl rfl rfl rfl U44 rM C fun P a H E=>pr 1 E rfl fun a E=>nt<|wp_ret<|aY E rfl rfl<|?_
     cases hm
     exact ⟨_,rfl,H.reads j⟩

def B5(x1:bM)(f:Int)(g:Int):Option (bM×(List bK)×Int):=
  (qN x1).bind fun d=>if (!d)=true then (some ((⟨[],[]⟩:bM),[],1)) else ((dS x1.Sessions f).bind fun b=>if (!b.2)=true then (some (x1,[],62)) else ((ck (x1.Sessions.length ≤ LIM)).bind fun i=>(idx x1.Sessions b.1).bind fun x20=>(ck (x20.Events.length ≤ LIM)).bind fun j=>(iB x20.Events g).bind fun c=>(idx x1.Sessions b.1).bind fun e=>(ck (c.length ≤ LIM)).bind fun k=>some ((⟨x1.Watches,x1.Sessions.set b.1.toNat ({ e with Events:=c }:aD)⟩:bM),c,0)))
theorem Gd{x1:bM}{g j:Value}{B C:Int}(H:Sep w (Fo) rs)(b:rSl aX g x1.Watches ∈ rs)(c:rSl aO j x1.Sessions ∈ rs){r:bM×(List bK)×Int}(hm:B5 x1 B C=some r) :
    Calls Tryz.prog 91 [.agg #[g,j],.int .i64 B,.int .i64 C].toArray w (Ret fun v w'=>∃ D F G,.tuple #[.agg #[D,F],G,.int .i64 r.2.2]=v∧Sep w' (Row 223 aV G r.2.1::Fo) (rSl aX D r.1.Watches::rSl aO F r.1.Sessions::rs)):=by
 unfold B5 at hm
 refine ent Tryz.func91 rfl Tryz.ntmps91 rfl rfl fun a E=>sq<|bS E H (wn rfl) rfl rfl rfl rfl rfl fun W w a H E=>bS E H (wn rfl) rfl rfl rfl rfl rfl fun X w a H E=>al E H rfl rfl rfl rfl J8 fun K w a H E=>pr 2 E rfl fun a E=>nt<|wp_seq<|sq<|?_
 refine sv E rfl rfl rfl (cA (i:=2) (us:=[g,j]) E H rfl rfl rfl rfl U73 rfl eE) fun a E=>bd hm fun L s hm=>xk E rfl rfl rfl rfl rfl Dx (xQ H b c s) fun w H a E=>pr 1 E rfl fun a E=>nt<|wif E hm rfl (fun hm=>?_) fun hm=>?_
 ·refine sq<|sv E rfl rfl rfl (cI E rfl (E.evs rfl) (v:=.agg #[.slice none 0 0,.slice none 0 0]) (by kernel_rfl)) fun a E=>aZ (i:=0) E H (wn rfl) rfl rfl rfl rfl rfl rfl eE rfl rfl fun w H=>pr 2 E rfl fun a E=>nt<|wp_ret<|aP<|Hk E rfl (cV (i:=0) (us:=[.slice none 0 0,.slice none 0 0]) H rfl rfl rfl U73 rfl eE) (rvT rfl) (rvT rfl)<|have H:=H.nilSl aX;?_
  refine have H:=H.nilSl aO;have H:=H.nilRow 223 aV;have H:=H.drs [1,1,1];?_
  cases hm
  exact X3 ⟨rfl,H.reads (aA mm1 (aA m0 (fun r hr=>(t2 hr))))⟩
 ·refine wp_skip<|aC<|sq<|pr 1 E rfl fun a E=>lb E H 2 rfl rfl rfl rfl rfl rfl rfl U71 rfl fun a E=>pr 1 E rfl fun a E=>bd hm fun M t hm=>xk E rfl rfl rfl rfl rfl Ik (gR H c t) fun w H a E=>pr 5 E rfl fun a E=>?_
  refine nt<|wp_seq<|sq<|pr 2 E rfl fun a E=>nt<|wif E hm rfl (fun hm=>?_) fun hm=>?_
  ·refine sq<|sv E rfl rfl rfl (cA (i:=2) (us:=[g,j]) E H rfl rfl rfl rfl U73 rfl eE) fun a E=>aZ (i:=0) E H (wn rfl) rfl rfl rfl rfl rfl rfl eE rfl (gB H b c) fun w H=>pr 2 E rfl fun a E=>nt<|wp_ret<|aP<|Hk E rfl (cV (i:=0) (us:=[g,j]) H rfl rfl rfl U73 rfl eE) (rvT rfl) (rvT rfl)<|have H:=H.nilRow 223 aV;?_
   refine have H:=H.drs [1,1,1];?_
   cases hm
   exact X3 ⟨rfl,H.reads (aA b (aA c (fun r hr=>hr)))⟩
  ·refine wp_skip<|aC<|sq<|pr 1 E rfl fun a E=>lb E H 2 rfl rfl rfl rfl rfl rfl rfl U71 rfl fun a E=>bk hm fun u hm=>aU E (wn rfl) rfl rfl (cC E rfl rfl (Ea _)) (eG H c u) fun N w H a E=>pr 1 E rfl fun a E=>?_
   obtain ⟨q18,o,rfl⟩:=H.rowform (i:=0) rfl
   refine aZ (i:=3) E H (wn rfl) rfl rfl rfl rfl rfl rfl Ft rfl rfl fun w H=>nx<|pr 1 E rfl fun a E=>lb E H 3 rfl rfl rfl rfl rfl rfl rfl U71 rfl fun a E=>pr 1 E rfl fun a E=>bd hm fun x20 e hm=>?_
   obtain ⟨O,P,l⟩:=H.rowformNE (i:=0) rfl e
   refine sv E rfl rfl rfl (cY (d:=aO) E l rfl rfl rfl rfl U71 rL e) fun a E=>pr 1 E rfl fun a E=>yI (i:=0) (k:=2) E H l (wn rfl) rfl rfl rfl rfl rfl e rfl U44 rfl fun Q a H E=>?_
   obtain ⟨_,hcs⟩:=H.rd (.head _)
   obtain ⟨p,rfl,-⟩:=dF hcs
   clear hcs
   refine have H:=H.derive1 m0 (rSl aV p x20.Events) (fun ok h=>gA h);?_
   replace E:Env 48 a ((35,p)::_):=E
   refine bk hm fun y hm=>aU E (wn rfl) rfl rfl (cC E rfl rfl (Bg _)) (dZ H m0 y) fun R w H a E=>sv E rfl rfl rfl (iP E rfl rfl rfl) fun a E=>have H:=H.frs [4,3,3,4,4] rfl;bd hm fun m z hm=>cG E rfl rfl rfl rfl rfl Vw (tJ H z)<|?_
   rintro _ w ⟨S,rfl,H⟩ a E
   refine pr 1 E rfl fun a E=>nx<|pr 1 E rfl fun a E=>lb E H 4 rfl rfl rfl rfl rfl rfl rfl U71 rfl fun a E=>pr 2 E rfl fun a E=>bd hm fun q f hm=>?_
   obtain ⟨T,U,n⟩:=H.rowformNE (i:=2) rfl f
   refine sv E rfl rfl rfl (cY (d:=aO) E n rfl rfl rfl rfl U71 rL f) fun a E=>pr 1 E rfl fun a E=>?_
   obtain ⟨q38,I,rfl⟩:=H.rowform (i:=0) rfl
   refine have H:=H.thaw (i:=0) rfl;yP (i:=1) (k:=2) (us:=[(.slice q38 m.length I)]) (y':=({ q with Events:=m }:aD)) E H n (wn rfl) rfl rfl rfl rfl rfl rfl f rfl Il rfl (fun ok cs hr h=>by obtain ⟨Y,rfl,g1⟩:=dF h;exact jB (x:=({ q with Events:=m }:aD)) (hr _ m0)) fun w H=>nt<|wp_seq<|dw [(0,0),(1,0),(2,1),(3,1),(4,2),(5,2)] [3] [] H (by kernel_rfl) (fun _ _ _ h=>False.elim h.2) fun w W0 hI H=>fbn E [g,(.slice q18 x1.Sessions.length o)] rfl (wn rfl) rfl rfl rfl rfl m0 rfl U73 rfl eE fun a E=>fn 1 E rfl fun a E=>bZ rfl<|bk hm fun A hm=>?_
   refine aU E (wn rfl) rfl rfl (cC E rfl rfl (Bg _)) (dZ H m0 A) fun V w H a E=>nt<|?_
   refine ⟨⟨_,_,H,(aB mm4 (aL)),(aM)⟩,?_⟩
   refine bZ rfl<|?_
   obtain ⟨q43,J,rfl⟩:=H.slform (t3 b)
   refine aZ (i:=3) E H (wn rfl) rfl rfl rfl rfl rfl rfl eE rfl rfl fun w H=>nt<|?_
   refine ⟨⟨_,_,H,(aB mm4 (aL)),(aM)⟩,?_⟩
   refine bQ rfl<|pr 1 E rfl fun a E=>nt<|bQ rfl<|pr 1 E rfl fun a E=>nt<|bR<|?_
   clear hI
   refine aC<|wp_ret<|Hk E rfl (cV (i:=3) (us:=[(.slice q43 x1.Watches.length J),(.slice q18 x1.Sessions.length o)]) H rfl rfl rfl U73 rfl eE) (rvT rfl) (rvT rfl)<|have H:=H.thaw (i:=2) rfl;have H:=H.drs [1,1,1];?_
   cases hm
   exact X3 ⟨rfl,H.reads (aA (t4 b) (aA m0 (fun r hr=>(t4 hr))))⟩

def vF(d:List aK)(e:List aD)(x20:bA):Option (aG×(List aK)×(List aD)):=
  (B5 (⟨d,e⟩:bM) x20.Watch.Session x20.Epoch).bind fun b=>(lJ d e b.1 b.2.1 b.2.2).bind fun c=>some (c.1,c.2.1,c.2.2)
theorem Q3{s:Nat}{b c x y z A j k l m n o p:Value}{d:List aK}{e:List aD}{x20:bA}(H:Sep w (Blk s 75 [j,k,l,m,b,c,n,o,p]::Fo) rs)(f:rSl aX b d ∈ rs)(g:rSl aO c e ∈ rs){r:aG×(List aK)×(List aD)}(hm:vF d e x20=some r) :
    Calls Tryz.prog 34 [pt s 0,.agg (aR x20 x y z A).toArray].toArray w (Ret fun v w'=>∃ B C D F G I J q,.agg (bC r.1 B C D F G I).toArray=v∧Sep w' (Blk s 75 [j,k,l,m,J,q,n,o,p]::Fo) (rSl bE B r.1.Results::rSl aF C r.1.Store.Nodes::rSl aJ D r.1.Store.Turns::rSl aV F r.1.Events::rSl bL G r.1.Mounts::rSl (kI .i64) I r.1.Wounded::rSl aX J r.2.1::rSl aO q r.2.2::rs)):=by
 unfold vF at hm
 refine ent Tryz.func34 rfl Tryz.ntmps34 rfl rfl fun a E=>sq<|bS E H (wn rfl) rfl rfl rfl rfl rfl fun R w a H E=>al E H rfl rfl rfl rfl gN fun S w a H E=>nt<|wp_seq<|dwc [(0,0),(1,0),(2,0),(3,0),(5,0),(6,0),(8,0),(4,0),(7,0),(9,1),(10,1),(11,0),(12,0),(13,0),(14,2),(15,2)] [1,2] [] H (by kernel_rfl) (fun _ _ _ h=>False.elim h.2) fun w W0 hI H=>fn 7 E rfl fun a E=>fbn E [b,c] rfl (wn rfl) rfl rfl rfl rfl mm1 rfl U73 rfl eE fun a E=>?_
 refine fb E rfl (wn rfl) rfl rfl rfl rfl m0 rfl U2 rfl fun a E=>bZ rfl<|lb E H 1 rfl rfl rfl rfl rfl rfl rfl U2 rfl fun a E=>nt<|?_
 refine ⟨⟨_,_,H,(aB mm1 (aB mm2 (aL))),(aM)⟩,?_⟩
 refine bZ rfl<|bd hm fun T t hm=>cG E rfl rfl rfl rfl rfl Zh (Gd (x1:=(⟨d,e⟩:bM)) H f g t)<|?_
 rintro _ w ⟨U,V,W,rfl,H⟩ a E
 refine nt<|?_
 refine ⟨⟨_,_,H,(aB mm2 (aB mm3 (aL))),(aM)⟩,?_⟩
 refine fn 3 E rfl fun a E=>bQ rfl<|have H:=H.thaw (i:=0) rfl;have H:=H.frs [1,1,2] rfl;bd hm fun K u hm=>cG E rfl rfl rfl rfl rfl Lr (rX H (t3 f) (t3 g) mm1 mm2 m0 u)<|?_
 rintro _ w ⟨L,M,N,O,P,Q,X,Y,rfl,H⟩ a E
 refine nt<|bQ rfl<|aZ (i:=1) E H (wn rfl) rfl rfl rfl rfl rfl rfl bU rfl (bF H m0 mm1 mm2 mm3 mm4 mm5) fun w H=>nt<|bR<|?_
 clear hI
 refine aC<|wp_ret<|dH E rfl (cV (i:=1) (us:=(bC K.1 L M N O P Q)) H rfl rfl rfl U48 rfl bU)<|have H:=H.drs [1,1];?_
 cases hm
 exact X8 ⟨rfl,H.reads (aA m0 (aA mm1 (aA mm2 (aA mm3 (aA mm4 (aA mm5 (aA mm6 (aA (t1 mm6) (fun r hr=>(t3 (t8 hr)))))))))))⟩

def oF(b:aG×(List aK)×(List aD))(c:(List ((Int)×aG))):Option (aG×(List aK)×(List aD)×(List ((Int)×aG))):=
  some (b.1,b.2.1,b.2.2,c)
def lK(b:aG×(List aK)×(List aD))(c:List ((Int)×aG))(x20:bA)(e:Bool):Option (aG×(List aK)×(List aD)×(List ((Int)×aG))):=
  if e=true then ((mpt (kyI .i64) c x20.Id b.1).bind fun d=>oF b d) else (oF b c)
def oG(c:List ((Int)×aG))(x20:bA)(d:List aK)(e:List aD)(f:Bool):Option (aG×(List aK)×(List aD)×(List ((Int)×aG))):=
  if f=true then ((dM 2).bind fun g=>some (g,d,e,c)) else ((vF d e x20).bind fun b=>if (x20.Id != 0)=true then (if (b.1.Err != 131)=true then (lK b c x20 (b.1.Err != 132)) else (lK b c x20 false)) else (lK b c x20 false))
def rY(b:List ((Int)×aG))(x20:bA)(c:List aK)(d:List aD)(e:Bool)(f:Int)(g:Int)(i:Bool)(j:Int)(k:(List cL))(l:(List aE))(m:(List aI))(n:(List bK))(o:(List lQ))(p:(List Int)):Option (aG×(List aK)×(List aD)×(List ((Int)×aG))):=
  if e=true then (some ((⟨f,g,i,j,k,(⟨l,m⟩:bB),n,o,p⟩:aG),c,d,b)) else (if (x20.Id != 0)=true then (oG b x20 c d ((b.length:Int) == 512)) else (oG b x20 c d false))
def vG(d:List aK)(e:List aD)(c:List ((Int)×aG))(x20:bA):Option (aG×(List aK)×(List aD)×(List ((Int)×aG))):=
  (A2 (kyI .i64) c x20.Id nP).bind fun b=>rY c x20 d e b.2 b.1.Err b.1.At b.1.Yes b.1.Epoch b.1.Results b.1.Store.Nodes b.1.Store.Turns b.1.Events b.1.Mounts b.1.Wounded
theorem Q4{o f:Nat}{O P I J L M p q s t u x:Value}{c0:List aK}{c1:List aD}{y:List ((Int)×aG)}{x20:bA}(H:Sep w (Blk o 75 [p,q,s,t,O,P,.map (some f),u,x]::cB Tryz.prog 2 (kyI .i64) bI true f y::Fo) rs)(b7:rSl aX O c0 ∈ rs)(b8:rSl aO P c1 ∈ rs){r:aG×(List aK)×(List aD)×(List ((Int)×aG))}(hm:vG c0 c1 y x20=some r) :
    Calls Tryz.prog 37 [pt o 0,.agg (aR x20 I J L M).toArray,.func (.func 34) #[] #[]].toArray w (Ret fun v w'=>∃ f9 g0 g1 g2 g3 g4 g5 f3,.agg (bC r.1 f9 g0 g1 g2 g3 g4).toArray=v∧Sep w' (Blk o 75 [p,q,s,t,g5,f3,.map (some f),u,x]::cB Tryz.prog 2 (kyI .i64) bI true f r.2.2.2::Fo) (rSl bE f9 r.1.Results::rSl aF g0 r.1.Store.Nodes::rSl aJ g1 r.1.Store.Turns::rSl aV g2 r.1.Events::rSl bL g3 r.1.Mounts::rSl (kI .i64) g4 r.1.Wounded::rSl aX g5 r.2.1::rSl aO f3 r.2.2.1::rs)):=by
 unfold vG at hm
 refine ent Tryz.func37 rfl Tryz.ntmps37 rfl rfl fun a E=>sq<|bS E H (wn rfl) rfl rfl rfl rfl rfl fun l w a H E=>al E H rfl rfl rfl rfl gN fun z w a H E=>nt<|wp_seq<|aT (fun a w=>∃ c9 X Y Z b0 b1 b2 d0 b3 b4 b5 b6 d1 d2 d3 d4 d5 d6 g,Env 59 a [(0,pt o 0),(2,.func (.func 34) #[] #[]),(4,pt l 0),(6,pt z 0),(7,pt c9 0),(8,.bool d0)]∧Sep w (Blk o 75 [p,q,s,t,O,P,.map (some f),u,x]::Blk l 37 (aR x20 I J L M)::Blk z 48 bN::Blk c9 48 [.int .i64 b3,.int .i64 b4,.bool b5,.int .i64 b6,X,Y,Z,b0,b1,b2]::cB Tryz.prog 2 (kyI .i64) bI true f y::Fo) g∧(∀ r,r ∈ rs→r ∈ g)∧rSl bE X d1 ∈ g∧rSl aF Y d2 ∈ g∧rSl aJ Z d3 ∈ g∧rSl aV b0 d4 ∈ g∧rSl bL b1 d5 ∈ g∧rSl (kI .i64) b2 d6 ∈ g∧rY y x20 c0 c1 d0 b3 b4 b5 b6 d1 d2 d3 d4 d5 d6=some r) ?_ ?_
 ·refine bd hm fun i3 c2 hm=>?_
  have hI:dP [Blk l 37 (aR x20 I J L M),Blk o 75 [p,q,s,t,O,P,.map (some f),u,x]] [] { w with drawn:=w.drawn+1 }:=⟨_,_,H.kept (Kp.drawn _ w _),(aB mm1 (aB mm2 (aL))),(aM)⟩
  refine jY _ (.go 0 0 (.go 1 0 (.go 2 0 (.go 3 0 (.go 4 0 (.go 5 0 (.alt 6 (.go 7 0 (.go 8 0 (.go 9 0 (.go 10 1 (.go 11 1 (.go 12 2 .nil)))))) 10 (.go 6 1 (.go 7 0 (.go 8 0 (.go 9 0 (.go 11 1 (.go 12 2 .nil))))))))))))) [12] kG (by kernel_rfl) (fun _ _ _ h=>False.elim h.2) hI<|have H:=H.kept (Kp.drawn _ w (w.drawn+1));?_
  generalize ({ w with drawn:=w.drawn+1 }:World)=w at H hI ⊢
  replace hI:∃ W,dP [Blk l 37 (aR x20 I J L M),Blk o 75 [p,q,s,t,O,P,.map (some f),u,x]] [] W:=⟨_,hI⟩
  obtain ⟨W0,hI⟩:=hI
  refine aW E rfl (wn rfl) rfl rfl (fun w hW=>(bD E rfl rfl)) fun a E=>aW E rfl (wn rfl) rfl rfl (fun w hW=>(sF E rfl rfl)) fun a E=>aW E rfl (wn rfl) rfl rfl (fun w hW=>iY E rfl rfl (v:=pt o 6) (O6 _ _)) fun a E=>aW E rfl (wn rfl) rfl rfl (fun w hW=>eZ E rfl rfl (kD mm1 rfl U68 rfl w hW)) fun a E=>aW E rfl (wn rfl) rfl rfl (fun w hW=>iY E rfl rfl (v:=pt l 1) (O5 _ _)) fun a E=>aW E rfl (wn rfl) rfl rfl (fun w hW=>eZ E rfl rfl (kD m0 rfl U2 rfl w hW)) fun a E=>?_
  refine kM rfl rfl ?_ ?_
  ·refine lR (i:=3) (K:=(kyI .i64)) E H (wn rfl) rfl rfl rfl rfl rfl rfl (dX U2) U68 yV A4 c2 fun i4 a H E=>?_
   obtain ⟨i5,i6,i7,i8,i9,j0,rfl,h⟩:=jC H;clear H;have H:=h
   refine nt<|?_
   refine ⟨⟨_,_,H,(aB mm1 (aB mm2 (aL))),(aM)⟩,?_⟩
   refine aW E rfl (wn rfl) rfl rfl (fun w hW=>(bD E rfl rfl)) fun a E=>aW E rfl (wn rfl) rfl rfl (fun w hW=>(cX E rfl rfl rfl)) fun a E=>aW E rfl (wn rfl) rfl rfl (fun w hW=>(cX E rfl rfl rfl)) fun a E=>cJ rfl<|al E H rfl rfl rfl rfl gN fun j1 w a H E=>nt<|?_
   refine ⟨⟨_,_,H,(aB mm2 (aB mm3 (aL))),(aM)⟩,?_⟩
   refine cJ rfl<|aZ (i:=0) E H (wn rfl) rfl rfl rfl rfl rfl rfl bU rfl (bF H mm5 mm4 mm3 mm2 mm1 m0) fun w H=>nt<|?_
   refine ⟨⟨_,_,H,(aB mm2 (aB mm3 (aL))),(aM)⟩,?_⟩
   refine cP rfl<|pr 1 E rfl fun a E=>nt<|dW<|?_
   clear hI
   exact aC<|have H:=H.frs [4,1,2,3,4] rfl;X19 ⟨E.to rfl,H,(Y7 Y0),mm5,mm4,mm3,mm2,mm1,m0,hm⟩
  ·refine al E H rfl rfl rfl rfl gN fun j2 w a H E=>nt<|?_
   refine ⟨⟨_,_,H,(aB mm2 (aB mm3 (aL))),(aM)⟩,?_⟩
   refine cJ rfl<|lR (i:=4) (K:=(kyI .i64)) E H (wn rfl) rfl rfl rfl rfl rfl rfl (dX U2) U68 yV A4 c2 fun j3 a H E=>?_
   obtain ⟨j4,j5,j6,j7,j8,j9,rfl,h⟩:=jC H;clear H;have H:=h
   refine nt<|?_
   refine ⟨⟨_,_,H,(aB mm2 (aB mm3 (aL))),(aM)⟩,?_⟩
   refine aW E rfl (wn rfl) rfl rfl (fun w hW=>(bD E rfl rfl)) fun a E=>aW E rfl (wn rfl) rfl rfl (fun w hW=>(cX E rfl rfl rfl)) fun a E=>aW E rfl (wn rfl) rfl rfl (fun w hW=>(cX E rfl rfl rfl)) fun a E=>cJ rfl<|aZ (i:=0) E H (wn rfl) rfl rfl rfl rfl rfl rfl bU rfl (bF H mm5 mm4 mm3 mm2 mm1 m0) fun w H=>nt<|?_
   refine ⟨⟨_,_,H,(aB mm2 (aB mm3 (aL))),(aM)⟩,?_⟩
   refine cP rfl<|pr 1 E rfl fun a E=>nt<|dW<|?_
   clear hI
   exact aC<|have H:=H.frs [4,1,2,3,4] rfl;X19 ⟨E.to rfl,H,(Y7 Y0),mm5,mm4,mm3,mm2,mm1,m0,hm⟩
 ·clear E H hm
  rintro a w ⟨c9,X,Y,Z,b0,b1,b2,d0,b3,b4,b5,b6,d1,d2,d3,d4,d5,d6,g,E,H,N,d7,d8,d9,e0,e1,e2,hm⟩
  unfold rY at hm
  refine sq<|pr 1 E rfl fun a E=>nt<|wif E hm rfl (fun hm=>?_) fun hm=>?_
  ·refine sq<|sv E rfl rfl rfl (cA (i:=3) (us:=[.int .i64 b3,.int .i64 b4,.bool b5,.int .i64 b6,X,Y,Z,b0,b1,b2]) E H rfl rfl rfl rfl U48 rfl bU) fun a E=>aZ (i:=2) E H (wn rfl) rfl rfl rfl rfl rfl rfl bU rfl (bF H d7 d8 d9 e0 e1 e2) fun w H=>nt<|wp_ret<|aP<|dH E rfl (cV (i:=2) (us:=[.int .i64 b3,.int .i64 b4,.bool b5,.int .i64 b6,X,Y,Z,b0,b1,b2]) H rfl rfl rfl U48 rfl bU)<|have H:=H.drs [1,1,1];?_
   cases hm
   exact X8 ⟨rfl,H.reads (aA d7 (aA d8 (aA d9 (aA e0 (aA e1 (aA e2 (aA (N _ b7) (aA (N _ b8) (N)))))))))⟩
  ·refine wp_skip<|aC<|wp_seq<|aT (fun a w=>∃ e3 b9,Env 59 a [(0,pt o 0),(2,.func (.func 34) #[] #[]),(4,pt l 0),(6,pt z 0),(32,.bool e3)]∧Sep w (Blk o 75 [p,q,s,t,O,P,.map (some f),u,x]::Blk l 37 (aR x20 I J L M)::Blk z 48 bN::cB Tryz.prog 2 (kyI .i64) bI true f y::Fo) b9∧(∀ r,r ∈ rs→r ∈ b9)∧oG y x20 c0 c1 e3=some r) ?_ ?_
   ·refine wp_region_lit<|pr 1 E rfl fun a E=>lb E H 1 rfl rfl rfl rfl rfl rfl rfl U2 rfl fun a E=>pr 2 E rfl fun a E=>cs hm (fun k hm=>?_) fun k hm=>?_
    ·exact pk 3 E (kc 25 rfl k) rfl fun a E=>aQ E (ws' (d:=25) E rfl rfl rfl rfl k) rfl rfl (cD (i:=0) E H rfl rfl rfl rfl U68 rfl) fun a E=>aQ E (ws' (d:=25) E rfl rfl rfl rfl k) rfl rfl (r7 (i:=4) E H rfl rfl rfl U68) fun a E=>pk 2 E (kc 25 rfl k) rfl fun a E=>nt<|have H:=H.drop 3;⟨_,_,E.to rfl,H,N,hm⟩
    ·exact pk 7 E (kc 25 rfl k) rfl fun a E=>nt<|have H:=H.drop 3;⟨_,_,E.to rfl,H,N,hm⟩
   ·clear E H hm
    rintro a w ⟨e3,b9,E,H,j,hm⟩
    unfold oG at hm
    refine wif E hm rfl (fun hm=>?_) fun hm=>?_
    ·refine sq<|bd hm fun g6 f4 hm=>cG E rfl rfl rfl rfl rfl tM (dT H f4)<|?_
     rintro _ w ⟨g7,g8,g9,i0,i1,i2,rfl,H⟩ a E
     refine aZ (i:=2) E H (wn rfl) rfl rfl rfl rfl rfl rfl bU rfl (bF H m0 mm1 mm2 mm3 mm4 mm5) fun w H=>nt<|wp_ret<|aP<|dH E rfl (cV (i:=2) (us:=(bC g6 g7 g8 g9 i0 i1 i2)) H rfl rfl rfl U48 rfl bU)<|have H:=H.drs [1,1];?_
     cases hm
     exact X8 ⟨rfl,H.reads (aA m0 (aA mm1 (aA mm2 (aA mm3 (aA mm4 (aA mm5 (aA (t6 (j _ b7)) (aA (t6 (j _ b8)) (fun r hr=>(t6 (j r hr)))))))))))⟩
    ·refine wp_skip<|aC<|sq<|pr 2 E rfl fun a E=>sv E rfl rfl rfl (cA (i:=1) (us:=(aR x20 I J L M)) E H rfl rfl rfl rfl U37 rfl s7) fun a E=>bd hm fun b f5 hm=>aU E (wn rfl) rfl rfl (bP E rfl rfl rfl (Zg _)) (Q3 H (j _ b7) (j _ b8) f5)<|?_
     rintro _ w ⟨A,B,C,D,F,G,c3,c4,rfl,H⟩ a E
     refine al E H rfl rfl rfl rfl gN fun c5 w a H E=>aZ (i:=0) E H (wn rfl) rfl rfl rfl rfl rfl rfl bU rfl (bF H m0 mm1 mm2 mm3 mm4 mm5) fun w H=>nt<|aT (fun a w=>∃ e4 e,Env 59 a [(6,pt z 0),(9,pt c5 0)]∧Sep w (Blk z 48 bN::Blk c5 48 (bC b.1 A B C D F G)::Blk o 75 [p,q,s,t,c3,c4,.map (some f),u,x]::cB Tryz.prog 2 (kyI .i64) bI true f e4::Fo) e∧(∀ r,r ∈ rs→r ∈ e)∧rSl bE A b.1.Results ∈ e∧rSl aF B b.1.Store.Nodes ∈ e∧rSl aJ C b.1.Store.Turns ∈ e∧rSl aV D b.1.Events ∈ e∧rSl bL F b.1.Mounts ∈ e∧rSl (kI .i64) G b.1.Wounded ∈ e∧rSl aX c3 b.2.1 ∈ e∧rSl aO c4 b.2.2 ∈ e∧oF b e4=some r) ?_ ?_
     ·refine aT (fun a w=>∃ e5 c,Env 59 a [(0,pt o 0),(4,pt l 0),(6,pt z 0),(9,pt c5 0),(50,.bool e5)]∧Sep w (Blk o 75 [p,q,s,t,c3,c4,.map (some f),u,x]::Blk l 37 (aR x20 I J L M)::Blk z 48 bN::Blk c5 48 (bC b.1 A B C D F G)::cB Tryz.prog 2 (kyI .i64) bI true f y::Fo) c∧(∀ r,r ∈ rs→r ∈ c)∧rSl aX c3 b.2.1 ∈ c∧rSl aO c4 b.2.2 ∈ c∧rSl bE A b.1.Results ∈ c∧rSl aF B b.1.Store.Nodes ∈ c∧rSl aJ C b.1.Store.Turns ∈ c∧rSl aV D b.1.Events ∈ c∧rSl bL F b.1.Mounts ∈ c∧rSl (kI .i64) G b.1.Wounded ∈ c∧lK b y x20 e5=some r) ?_ ?_
      ·refine wp_region_lit<|pr 1 E rfl fun a E=>lb E H 2 rfl rfl rfl rfl rfl rfl rfl U2 rfl fun a E=>pr 2 E rfl fun a E=>cs hm (fun m hm=>?_) fun m hm=>?_
       ·refine pk 1 E (kc 41 rfl m) rfl fun a E=>aQ E (ws' (d:=41) E rfl rfl rfl rfl m) rfl rfl (cD (i:=0) E H rfl rfl rfl rfl U41 rfl) fun a E=>pk 3 E (kc 41 rfl m) rfl fun a E=>cs hm (fun n hm=>?_) fun n hm=>?_
        ·exact pk 1 E (kc 46 rfl n) rfl fun a E=>aQ E (ws' (d:=46) E rfl rfl rfl rfl n) rfl rfl (cD (i:=0) E H rfl rfl rfl rfl U41 rfl) fun a E=>pk 2 E (kc 46 rfl n) rfl fun a E=>nt<|have H:=H.frs [4,1,4,4,4] rfl;⟨_,_,E.to rfl,H,(Y8 j),mm6,(t1 mm6),m0,mm1,mm2,mm3,mm4,mm5,hm⟩
        ·exact pk 4 E (kc 46 rfl n) rfl fun a E=>nt<|have H:=H.frs [4,1,4,4,4] rfl;⟨_,_,E.to rfl,H,(Y8 j),mm6,(t1 mm6),m0,mm1,mm2,mm3,mm4,mm5,hm⟩
       ·exact pk 9 E (kc 41 rfl m) rfl fun a E=>nt<|have H:=H.frs [4,1,4,4,4] rfl;⟨_,_,E.to rfl,H,(Y8 j),mm6,(t1 mm6),m0,mm1,mm2,mm3,mm4,mm5,hm⟩
      ·clear E H hm
       rintro a w ⟨e5,c,E,H,c6,c7,c8,Q,R,S,T,U,V,hm⟩
       unfold lK at hm
       refine wif E hm rfl (fun hm=>?_) fun hm=>?_
       ·refine dw [(0,0),(1,0),(2,0),(3,0),(4,0),(5,0),(6,0),(7,2)] [0,1,3] [] H (by kernel_rfl) (fun _ _ _ h=>False.elim h.2) fun w W0 hI H=>fn 3 E rfl fun a E=>fb E rfl (wn rfl) rfl rfl rfl rfl m0 rfl U68 rfl fun a E=>fn 1 E rfl fun a E=>fb E rfl (wn rfl) rfl rfl rfl rfl mm1 rfl U2 rfl fun a E=>fbn E (bC b.1 A B C D F G) rfl (wn rfl) rfl rfl rfl rfl mm2 rfl U48 rfl bU fun a E=>bQ rfl<|bd hm fun k0 f2 hm=>zR (i:=4) (K:=(kyI .i64)) (v:=b.1) (cs:=[.int .i64 b.1.Err,.int .i64 b.1.At,.bool b.1.Yes,.int .i64 b.1.Epoch,A,B,C,D,F,G]) E H (wn rfl) rfl rfl rfl rfl rfl rfl (dX U2) U68 f2 (fun ok hr=>(lS (hr _ Q) (hr _ R) (hr _ S) (hr _ T) (hr _ U) (hr _ V))) fun w H=>?_
        refine nt<|bR<|?_
        clear hI
        exact aC<|have H:=H.drop 1;have H:=H.frs [3,1,3,3] rfl;⟨_,_,E.to rfl,H,c6,Q,R,S,T,U,V,c7,c8,hm⟩
       ·exact wp_skip<|aC<|have H:=H.drop 1;have H:=H.frs [3,1,3,3] rfl;⟨_,_,E.to rfl,H,c6,Q,R,S,T,U,V,c7,c8,hm⟩
     ·clear E H hm
      rintro a w ⟨e4,e,E,H,f6,e6,e7,e8,e9,f0,f1,f7,f8,hm⟩
      unfold oF at hm
      refine sq<|sv E rfl rfl rfl (cA (i:=1) (us:=(bC b.1 A B C D F G)) E H rfl rfl rfl rfl U48 rfl bU) fun a E=>aZ (i:=0) E H (wn rfl) rfl rfl rfl rfl rfl rfl bU rfl (bF H e6 e7 e8 e9 f0 f1) fun w H=>nt<|wp_ret<|dH E rfl (cV (i:=0) (us:=(bC b.1 A B C D F G)) H rfl rfl rfl U48 rfl bU)<|have H:=H.drs [0,0];?_
      cases hm
      exact X8 ⟨rfl,H.reads (aA e6 (aA e7 (aA e8 (aA e9 (aA f0 (aA f1 (aA f7 (aA f8 (f6)))))))))⟩

def zZ(x1:aK)(x3:Int)(b:Int):Option Bool:=
  if (x1.Session == x3)=true then (some (x1.Num == b)) else (some (false))
theorem Cr{x1:aK}{c e:Nat}{x3 f:Int}(H:Sep w (Blk c 2 [.int .i64 x3]::Blk e 2 [.int .i64 f]::Fo) rs){r:Bool}(hm:zZ x1 x3 f=some r) :
    Calls Tryz.prog 231 [.agg (dL x1).toArray,pt c 0,pt e 0].toArray w (Ret fun v w'=>.bool r=v∧Sep w' (Blk c 2 [.int .i64 x3]::Blk e 2 [.int .i64 f]::Fo) (rs)):=by
 unfold zZ at hm
 refine ent Tryz.func231 rfl Tryz.ntmps231 rfl rfl fun a E=>sq<|bS E H (wn rfl) rfl rfl rfl rfl rfl fun g w a H E=>pr 1 E rfl fun a E=>nx<|pr 1 E rfl fun a E=>lb E H 0 rfl rfl rfl rfl rfl rfl rfl U2 rfl fun a E=>lb E H 1 rfl rfl rfl rfl rfl rfl rfl U2 rfl fun a E=>pr 2 E rfl fun a E=>cs hm (fun b hm=>?_) fun b hm=>?_
 ·refine pk 1 E (kc 9 rfl b) rfl fun a E=>aQ E (ws' (d:=9) E rfl rfl rfl rfl b) rfl rfl (cD (i:=0) E H rfl rfl rfl rfl U2 rfl) fun a E=>aQ E (ws' (d:=9) E rfl rfl rfl rfl b) rfl rfl (cD (i:=2) E H rfl rfl rfl rfl U2 rfl) fun a E=>pk 3 E (kc 9 rfl b) rfl fun a E=>nt<|wp_ret<|aY E rfl rfl<|have H:=H.drop 0;?_
  cases hm
  exact ⟨rfl,H.reads Y0⟩
 ·refine pk 6 E (kc 9 rfl b) rfl fun a E=>nt<|wp_ret<|aY E rfl rfl<|have H:=H.drop 0;?_
  cases hm
  exact ⟨rfl,H.reads Y0⟩

def eI(c:List aK)(d:Int)(e:Int):Nat→Int→Option Int
  | 0,_=>none
  | i+1,b=>
    if (decide (b < (c.length:Int)))=true then ((idx c b).bind fun f=>(zZ f d e).bind fun g=>if g=true then (some (b)) else (eI c d e i (IntKind.i64.wrap (b+1)))) else (some ((-1)))
def hN(b:List aK)(c:Int)(d:Int):Option Int:=
  eI b c d (((b.length:Int) - 0:Int).toNat+1) 0
theorem sS{l:Value}{d:List aK}{e f:Nat}{g i:Int}(H:Sep w (Blk e 2 [.int .i64 g]::Blk f 2 [.int .i64 i]::Fo) rs)(k:rSl aX l d ∈ rs){r:Int}(hm:hN d g i=some r) :
    Calls Tryz.prog 230 [l,.func (.func 231) #[] #[pt e 0,pt f 0]].toArray w (Ret fun v w'=>.int .i64 r=v∧Sep w' (Blk e 2 [.int .i64 g]::Blk f 2 [.int .i64 i]::Fo) (rs)):=by
 unfold hN at hm
 refine ent Tryz.func230 rfl Tryz.ntmps230 rfl rfl fun a E=>sq<|pr 1 E rfl fun a E=>nt<|wp_seq<|sq<|pr 1 E rfl fun a E=>sv E rfl rfl rfl (cR E H rfl rfl k U70) fun a E=>pr 1 E rfl fun a E=>?_
 refine nt<|wp_block<|bX (fun c a w=>∃ m j,Env 19 a [(0,l),(1,.func (.func 231) #[] #[pt e 0,pt f 0]),(7,.int .i64 (d.length:Int)),(8,.int .i64 m)]∧Sep w (Blk e 2 [.int .i64 g]::Blk f 2 [.int .i64 i]::Fo) j∧(∀ r,r ∈ rs→r ∈ j)∧eI d g i c m=some r) (((d.length:Int) - 0:Int).toNat+1) ?_ ?_
 ·exact ⟨_,_,E.to rfl,H,Y0,hm⟩
 ·clear E H hm
  rintro c a w ⟨m,j,E,H,b,hm⟩
  cases c with
  | zero=>exact (bT hm rfl).elim
  | succ c=>
   unfold eI at hm
   refine sq<|pr 1 E rfl fun a E=>nt<|wp_seq<|wif E hm rfl (fun hm=>?_) fun hm=>?_
   ·refine wp_skip<|aC<|wp_seq<|wp_block<|sq<|pr 2 E rfl fun a E=>nx<|pr 3 E rfl fun a E=>bd hm fun p n hm=>?_
    refine dE E H (wn rfl) rfl rfl rfl rfl rfl (b _ k) U70 pK n fun q13 a H E=>ldf hB E H rfl rfl rfl rfl rfl m0 U35 rfl pK fun a E=>bd hm fun q o hm=>aU E (wn rfl) rfl rfl (bP E rfl rfl rfl (Vy _)) (Cr H o)<|?_
    rintro _ w ⟨rfl,H⟩ a E
    refine nt<|wif E hm rfl (fun hm=>?_) fun hm=>?_
    ·refine sq<|pr 2 E rfl fun a E=>nt<|wp_ret<|bV<|aP<|aP<|bV<|aP<|?_
     refine aY E rfl rfl<|?_
     cases hm
     exact ⟨rfl,H.reads (Y1 b)⟩
    ·exact wp_skip<|bY<|aC<|wp_region_lit<|pr 2 E rfl fun a E=>nt<|⟨c,Nat.lt_succ_self c,_,_,E.to rfl,H,(Y1 b),hm⟩
   ·refine wp_exit<|bH<|bH<|dG<|aC<|sq<|pr 1 E rfl fun a E=>nt<|wp_ret<|?_
    refine aY E rfl rfl<|?_
    cases hm
    exact ⟨rfl,H.reads b⟩

def zG(x1:bM)(c:Int)(d:Int):Option Int:=
  (hN x1.Watches c d).bind fun b=>some (b)
theorem Q5{x1:bM}{c g:Value}{d e:Int}(H:Sep w (Fo) rs)(f:rSl aX c x1.Watches ∈ rs){r:Int}(hm:zG x1 d e=some r) :
    Calls Tryz.prog 162 [.agg #[c,g],.int .i64 d,.int .i64 e].toArray w (Ret fun v w'=>.int .i64 r=v∧Sep w' (Fo) (rs)):=by
 unfold zG at hm
 refine ent Tryz.func162 rfl Tryz.ntmps162 rfl rfl fun a E=>sq<|bS E H (wn rfl) rfl rfl rfl rfl rfl fun k w a H E=>bS E H (wn rfl) rfl rfl rfl rfl rfl fun l w a H E=>bS E H (wn rfl) rfl rfl rfl rfl rfl fun i w a H E=>pr 1 E rfl fun a E=>nx<|pr 1 E rfl fun a E=>lb E H 2 rfl rfl rfl rfl rfl rfl rfl U70 rfl fun a E=>?_
 refine sv E rfl rfl rfl (iP E rfl rfl rfl) fun a E=>have H:=H.frs [2,1,2] rfl;bd hm fun j b hm=>xk E rfl rfl rfl rfl rfl Ii (sS H f b) fun w H a E=>pr 1 E rfl fun a E=>nt<|wp_ret<|aY E rfl rfl<|have H:=H.drs [0,0,0];?_
 cases hm
 exact ⟨rfl,H.reads Y0⟩

def w6(x1:bM)(d:Int)(e:Int):Option (bM×Int):=
  (qN x1).bind fun c=>if (!c)=true then (some ((⟨[],[]⟩:bM),1)) else ((zG x1 d e).bind fun b=>if (decide (b < 0))=true then (some (x1,62)) else ((ck (x1.Watches.length ≤ LIM)).bind fun f=>(ck (0 ≤ b∧b < x1.Watches.length∧IntKind.i64.wrap (b+1)=b+1)).bind fun g=>some ((⟨x1.Watches.eraseIdx b.toNat,x1.Sessions⟩:bM),0)))
theorem M3{x1:bM}{e d:Value}{n o:Int}(H:Sep w (Fo) rs)(b:rSl aX e x1.Watches ∈ rs)(c:rSl aO d x1.Sessions ∈ rs){r:bM×Int}(hm:w6 x1 n o=some r) :
    Calls Tryz.prog 90 [.agg #[e,d],.int .i64 n,.int .i64 o].toArray w (Ret fun v w'=>∃ p q,.tuple #[.agg #[p,q],.int .i64 r.2]=v∧Sep w' (Fo) (rSl aX p r.1.Watches::rSl aO q r.1.Sessions::rs)):=by
 unfold w6 at hm
 refine ent Tryz.func90 rfl Tryz.ntmps90 rfl rfl fun a E=>sq<|bS E H (wn rfl) rfl rfl rfl rfl rfl fun y w a H E=>al E H rfl rfl rfl rfl J8 fun z w a H E=>pr 1 E rfl fun a E=>nt<|wp_seq<|sq<|sv E rfl rfl rfl (cA (i:=1) (us:=[e,d]) E H rfl rfl rfl rfl U73 rfl eE) fun a E=>?_
 refine bd hm fun t j hm=>xk E rfl rfl rfl rfl rfl Dx (xQ H b c j) fun w H a E=>pr 1 E rfl fun a E=>nt<|wif E hm rfl (fun hm=>?_) fun hm=>?_
 ·refine sq<|sv E rfl rfl rfl (cI E rfl (E.evs rfl) (v:=.agg #[.slice none 0 0,.slice none 0 0]) (by kernel_rfl)) fun a E=>aZ (i:=0) E H (wn rfl) rfl rfl rfl rfl rfl rfl eE rfl rfl fun w H=>pr 1 E rfl fun a E=>nt<|wp_ret<|aP<|rJ E rfl (cV (i:=0) (us:=[.slice none 0 0,.slice none 0 0]) H rfl rfl rfl U73 rfl eE) (rvT rfl)<|have H:=H.nilSl aX;?_
  refine have H:=H.nilSl aO;have H:=H.drs [0,0];?_
  cases hm
  exact ⟨_,_,rfl,H.reads (aA mm1 (aA m0 (fun r hr=>(t2 hr))))⟩
 ·refine wp_skip<|aC<|sq<|sv E rfl rfl rfl (cA (i:=1) (us:=[e,d]) E H rfl rfl rfl rfl U73 rfl eE) fun a E=>pr 2 E rfl fun a E=>bd hm fun f k hm=>xk E rfl rfl rfl rfl rfl Mu (Q5 H b k) fun w H a E=>pr 1 E rfl fun a E=>nt<|?_
  refine wp_seq<|sq<|pr 2 E rfl fun a E=>nt<|wif E hm rfl (fun hm=>?_) fun hm=>?_
  ·refine sq<|sv E rfl rfl rfl (cA (i:=1) (us:=[e,d]) E H rfl rfl rfl rfl U73 rfl eE) fun a E=>aZ (i:=0) E H (wn rfl) rfl rfl rfl rfl rfl rfl eE rfl (gB H b c) fun w H=>pr 1 E rfl fun a E=>nt<|wp_ret<|aP<|rJ E rfl (cV (i:=0) (us:=[e,d]) H rfl rfl rfl U73 rfl eE) (rvT rfl)<|have H:=H.drs [0,0];?_
   cases hm
   exact ⟨_,_,rfl,H.reads (aA b (aA c (fun r hr=>hr)))⟩
  ·refine wp_skip<|aC<|sq<|pr 1 E rfl fun a E=>lb E H 1 rfl rfl rfl rfl rfl rfl rfl U70 rfl fun a E=>bk hm fun l hm=>aU E (wn rfl) rfl rfl (cC E rfl rfl (Eb _)) (fM H b l) fun u w H a E=>pr 3 E rfl fun a E=>bk hm fun m hm=>?_
   refine aU E (wn rfl) rfl rfl (cC E rfl rfl (Vz _)) (Wa.delete_c (ix:=0) H rfl m) fun x w H a E=>pr 1 E rfl fun a E=>?_
   obtain ⟨q20,g,rfl⟩:=H.rowform (i:=0) rfl
   refine aZ (i:=2) E H (wn rfl) rfl rfl rfl rfl rfl rfl Io rfl rfl fun w H=>nx<|sv E rfl rfl rfl (cA (i:=2) (us:=[(.slice q20 (x1.Watches.eraseIdx f.toNat).length g),d]) E H rfl rfl rfl rfl U73 rfl eE) fun a E=>?_
   obtain ⟨q22,s,rfl⟩:=H.slform c
   refine aZ (i:=1) E H (wn rfl) rfl rfl rfl rfl rfl rfl eE rfl rfl fun w H=>pr 1 E rfl fun a E=>nt<|wp_ret<|rJ E rfl (cV (i:=1) (us:=[(.slice q20 (x1.Watches.eraseIdx f.toNat).length g),(.slice q22 x1.Sessions.length s)]) H rfl rfl rfl U73 rfl eE) (rvT rfl)<|have H:=H.thaw (i:=0) rfl;have H:=H.drs [0,0];?_
   cases hm
   exact ⟨_,_,rfl,H.reads (aA m0 (aA (t1 c) (fun r hr=>(t1 hr))))⟩

def pQ(c:List aK)(d:List aD)(e:Int)(f:(List aK))(g:(List aD)):Option (aG×(List aK)×(List aD)):=
  (lJ c d (⟨f,g⟩:bM) ([]:List bK) e).bind fun b=>some (b.1,b.2.1,b.2.2)
def rZ(c:List aK)(d:List aD)(x20:bA):Option (aG×(List aK)×(List aD)):=
  (w6 (⟨c,d⟩:bM) x20.Watch.Session x20.Watch.Num).bind fun b=>pQ c d b.2 b.1.Watches b.1.Sessions
theorem J1{f:Nat}{c d B C D F g j k l m n o:Value}{p:List aK}{q:List aD}{x20:bA}(H:Sep w (Blk f 75 [g,j,k,l,c,d,m,n,o]::Fo) rs)(s:rSl aX c p ∈ rs)(t:rSl aO d q ∈ rs){r:aG×(List aK)×(List aD)}(hm:rZ p q x20=some r) :
    Calls Tryz.prog 33 [pt f 0,.agg (aR x20 B C D F).toArray].toArray w (Ret fun v w'=>∃ P Q R S T U V K,.agg (bC r.1 P Q R S T U).toArray=v∧Sep w' (Blk f 75 [g,j,k,l,V,K,m,n,o]::Fo) (rSl bE P r.1.Results::rSl aF Q r.1.Store.Nodes::rSl aJ R r.1.Store.Turns::rSl aV S r.1.Events::rSl bL T r.1.Mounts::rSl (kI .i64) U r.1.Wounded::rSl aX V r.2.1::rSl aO K r.2.2::rs)):=by
 unfold rZ at hm
 refine ent Tryz.func33 rfl Tryz.ntmps33 rfl rfl fun a E=>sq<|bS E H (wn rfl) rfl rfl rfl rfl rfl fun e w a H E=>al E H rfl rfl rfl rfl gN fun L w a H E=>nt<|aT (fun a w=>∃ G x y I z A b,Env 25 a [(0,pt f 0),(4,pt L 0),(5,pt G 0),(6,.int .i64 I)]∧Sep w (Blk f 75 [g,j,k,l,c,d,m,n,o]::Blk L 48 bN::Blk G 73 [x,y]::Fo) b∧(∀ r,r ∈ rs→r ∈ b)∧rSl aX x z ∈ b∧rSl aO y A ∈ b∧pQ p q I z A=some r) ?_ ?_
 ·refine bd hm fun b4 J hm=>?_
  have hI:dP [Blk e 37 (aR x20 B C D F),Blk f 75 [g,j,k,l,c,d,m,n,o]] [] { w with drawn:=w.drawn+1 }:=⟨_,_,H.kept (Kp.drawn _ w _),(aB mm1 (aB mm2 (aL))),(aM)⟩
  refine jY _ (.go 0 0 (.go 1 0 (.go 2 0 (.go 3 0 (.go 4 0 (.go 5 0 (.go 6 0 (.go 7 0 (.go 8 0 (.go 9 0 (.alt 10 (.go 11 0 (.go 12 0 (.go 13 0 (.go 14 1 (.go 15 1 (.go 16 2 .nil)))))) 14 (.go 10 1 (.go 11 0 (.go 12 0 (.go 13 0 (.go 15 1 (.go 16 2 .nil))))))))))))))))) [16] kG (by kernel_rfl) (fun _ _ _ h=>False.elim h.2) hI<|have H:=H.kept (Kp.drawn _ w (w.drawn+1));?_
  generalize ({ w with drawn:=w.drawn+1 }:World)=w at H hI ⊢
  replace hI:∃ W,dP [Blk e 37 (aR x20 B C D F),Blk f 75 [g,j,k,l,c,d,m,n,o]] [] W:=⟨_,hI⟩
  obtain ⟨W0,hI⟩:=hI
  refine aW E rfl (wn rfl) rfl rfl (fun w hW=>(bD E rfl rfl)) fun a E=>aW E rfl (wn rfl) rfl rfl (fun w hW=>(sF E rfl rfl)) fun a E=>aW E rfl (wn rfl) rfl rfl (fun w hW=>iY E rfl rfl (v:=pt f 4) (Fr _ _)) fun a E=>aW E rfl (wn rfl) rfl rfl (fun w hW=>eZ E rfl rfl (yN (us:=[c,d]) mm1 rfl U73 rfl eE w hW)) fun a E=>aW E rfl (wn rfl) rfl rfl (fun w hW=>iY E rfl rfl (v:=pt e 12) (R9 _ _)) fun a E=>aW E rfl (wn rfl) rfl rfl (fun w hW=>iY E rfl rfl (v:=pt e 12) (Bf _ _)) fun a E=>aW E rfl (wn rfl) rfl rfl (fun w hW=>eZ E rfl rfl (kD m0 rfl U2 rfl w hW)) fun a E=>aW E rfl (wn rfl) rfl rfl (fun w hW=>iY E rfl rfl (v:=pt e 12) (R9 _ _)) fun a E=>aW E rfl (wn rfl) rfl rfl (fun w hW=>iY E rfl rfl (v:=pt e 13) (Fq _ _)) fun a E=>?_
  refine aW E rfl (wn rfl) rfl rfl (fun w hW=>eZ E rfl rfl (kD m0 rfl U2 rfl w hW)) fun a E=>?_
  refine kM rfl rfl ?_ ?_
  ·refine cG E rfl rfl rfl rfl rfl Rz (M3 (x1:=(⟨p,q⟩:bM)) H s t J)<|?_
   rintro _ w ⟨b5,b6,rfl,H⟩ a E
   refine nt<|?_
   refine ⟨⟨_,_,H,(aB mm1 (aB mm2 (aL))),(aM)⟩,?_⟩
   refine aW E rfl (wn rfl) rfl rfl (fun w hW=>(bD E rfl rfl)) fun a E=>aW E rfl (wn rfl) rfl rfl (fun w hW=>(cX E rfl rfl rfl)) fun a E=>aW E rfl (wn rfl) rfl rfl (fun w hW=>(cX E rfl rfl rfl)) fun a E=>cJ rfl<|al E H rfl rfl rfl rfl J8 fun b7 w a H E=>nt<|?_
   refine ⟨⟨_,_,H,(aB mm2 (aB mm3 (aL))),(aM)⟩,?_⟩
   refine cJ rfl<|aZ (i:=0) E H (wn rfl) rfl rfl rfl rfl rfl rfl eE rfl (gB H m0 mm1) fun w H=>nt<|?_
   refine ⟨⟨_,_,H,(aB mm2 (aB mm3 (aL))),(aM)⟩,?_⟩
   refine cP rfl<|pr 1 E rfl fun a E=>nt<|dW<|?_
   clear hI
   exact aC<|have H:=H.drop 2;have H:=H.frs [0,1,2] rfl;X7 ⟨E.to rfl,H,(Y2 Y0),m0,mm1,hm⟩
  ·refine al E H rfl rfl rfl rfl J8 fun b8 w a H E=>nt<|?_
   refine ⟨⟨_,_,H,(aB mm2 (aB mm3 (aL))),(aM)⟩,?_⟩
   refine cJ rfl<|cG E rfl rfl rfl rfl rfl Rz (M3 (x1:=(⟨p,q⟩:bM)) H s t J)<|?_
   rintro _ w ⟨b9,c0,rfl,H⟩ a E
   refine nt<|?_
   refine ⟨⟨_,_,H,(aB mm2 (aB mm3 (aL))),(aM)⟩,?_⟩
   refine aW E rfl (wn rfl) rfl rfl (fun w hW=>(bD E rfl rfl)) fun a E=>aW E rfl (wn rfl) rfl rfl (fun w hW=>(cX E rfl rfl rfl)) fun a E=>aW E rfl (wn rfl) rfl rfl (fun w hW=>(cX E rfl rfl rfl)) fun a E=>cJ rfl<|aZ (i:=0) E H (wn rfl) rfl rfl rfl rfl rfl rfl eE rfl (gB H m0 mm1) fun w H=>nt<|?_
   refine ⟨⟨_,_,H,(aB mm2 (aB mm3 (aL))),(aM)⟩,?_⟩
   refine cP rfl<|pr 1 E rfl fun a E=>nt<|dW<|?_
   clear hI
   exact aC<|have H:=H.drop 2;have H:=H.frs [0,1,2] rfl;X7 ⟨E.to rfl,H,(Y2 Y0),m0,mm1,hm⟩
 ·clear E H hm
  rintro a w ⟨G,x,y,I,z,A,b,E,H,u,M,N,hm⟩
  unfold pQ at hm
  refine sq<|pr 1 E rfl fun a E=>sv E rfl rfl rfl (cA (i:=2) (us:=[x,y]) E H rfl rfl rfl rfl U73 rfl eE) fun a E=>pr 1 E rfl fun a E=>have H:=H.nilSl aV;bd hm fun X O hm=>cG E rfl rfl rfl rfl rfl Lr (rX (x20:=(⟨z,A⟩:bM)) H (t1 (u _ s)) (t1 (u _ t)) (t1 M) (t1 N) m0 O)<|?_
  rintro _ w ⟨Y,Z,b0,b1,b2,b3,c1,c2,rfl,H⟩ a E
  refine aZ (i:=1) E H (wn rfl) rfl rfl rfl rfl rfl rfl bU rfl (bF H m0 mm1 mm2 mm3 mm4 mm5) fun w H=>nt<|wp_ret<|dH E rfl (cV (i:=1) (us:=(bC X.1 Y Z b0 b1 b2 b3)) H rfl rfl rfl U48 rfl bU)<|have H:=H.drs [1,1];?_
  cases hm
  exact X8 ⟨rfl,H.reads (aA m0 (aA mm1 (aA mm2 (aA mm3 (aA mm4 (aA mm5 (aA mm6 (aA (t1 mm6) (fun r hr=>(t1 (t8 (u r hr))))))))))))⟩

def mK(b:aG×(List aK)×(List aD))(c:(List ((Int)×aG))):Option (aG×(List aK)×(List aD)×(List ((Int)×aG))):=
  some (b.1,b.2.1,b.2.2,c)
def jV(b:aG×(List aK)×(List aD))(c:List ((Int)×aG))(x20:bA)(e:Bool):Option (aG×(List aK)×(List aD)×(List ((Int)×aG))):=
  if e=true then ((mpt (kyI .i64) c x20.Id b.1).bind fun d=>mK b d) else (mK b c)
def mL(c:List ((Int)×aG))(x20:bA)(d:List aK)(e:List aD)(f:Bool):Option (aG×(List aK)×(List aD)×(List ((Int)×aG))):=
  if f=true then ((dM 2).bind fun g=>some (g,d,e,c)) else ((rZ d e x20).bind fun b=>if (x20.Id != 0)=true then (if (b.1.Err != 131)=true then (jV b c x20 (b.1.Err != 132)) else (jV b c x20 false)) else (jV b c x20 false))
def qH(b:List ((Int)×aG))(x20:bA)(c:List aK)(d:List aD)(e:Bool)(f:Int)(g:Int)(i:Bool)(j:Int)(k:(List cL))(l:(List aE))(m:(List aI))(n:(List bK))(o:(List lQ))(p:(List Int)):Option (aG×(List aK)×(List aD)×(List ((Int)×aG))):=
  if e=true then (some ((⟨f,g,i,j,k,(⟨l,m⟩:bB),n,o,p⟩:aG),c,d,b)) else (if (x20.Id != 0)=true then (mL b x20 c d ((b.length:Int) == 512)) else (mL b x20 c d false))
def sT(d:List aK)(e:List aD)(c:List ((Int)×aG))(x20:bA):Option (aG×(List aK)×(List aD)×(List ((Int)×aG))):=
  (A2 (kyI .i64) c x20.Id nP).bind fun b=>qH c x20 d e b.2 b.1.Err b.1.At b.1.Yes b.1.Epoch b.1.Results b.1.Store.Nodes b.1.Store.Turns b.1.Events b.1.Mounts b.1.Wounded
theorem L1{o f:Nat}{O P I J L M p q s t u x:Value}{c0:List aK}{c1:List aD}{y:List ((Int)×aG)}{x20:bA}(H:Sep w (Blk o 75 [p,q,s,t,O,P,.map (some f),u,x]::cB Tryz.prog 2 (kyI .i64) bI true f y::Fo) rs)(b7:rSl aX O c0 ∈ rs)(b8:rSl aO P c1 ∈ rs){r:aG×(List aK)×(List aD)×(List ((Int)×aG))}(hm:sT c0 c1 y x20=some r) :
    Calls Tryz.prog 37 [pt o 0,.agg (aR x20 I J L M).toArray,.func (.func 33) #[] #[]].toArray w (Ret fun v w'=>∃ f9 g0 g1 g2 g3 g4 g5 f3,.agg (bC r.1 f9 g0 g1 g2 g3 g4).toArray=v∧Sep w' (Blk o 75 [p,q,s,t,g5,f3,.map (some f),u,x]::cB Tryz.prog 2 (kyI .i64) bI true f r.2.2.2::Fo) (rSl bE f9 r.1.Results::rSl aF g0 r.1.Store.Nodes::rSl aJ g1 r.1.Store.Turns::rSl aV g2 r.1.Events::rSl bL g3 r.1.Mounts::rSl (kI .i64) g4 r.1.Wounded::rSl aX g5 r.2.1::rSl aO f3 r.2.2.1::rs)):=by
 unfold sT at hm
 refine ent Tryz.func37 rfl Tryz.ntmps37 rfl rfl fun a E=>sq<|bS E H (wn rfl) rfl rfl rfl rfl rfl fun l w a H E=>al E H rfl rfl rfl rfl gN fun z w a H E=>nt<|wp_seq<|aT (fun a w=>∃ c9 X Y Z b0 b1 b2 d0 b3 b4 b5 b6 d1 d2 d3 d4 d5 d6 g,Env 59 a [(0,pt o 0),(2,.func (.func 33) #[] #[]),(4,pt l 0),(6,pt z 0),(7,pt c9 0),(8,.bool d0)]∧Sep w (Blk o 75 [p,q,s,t,O,P,.map (some f),u,x]::Blk l 37 (aR x20 I J L M)::Blk z 48 bN::Blk c9 48 [.int .i64 b3,.int .i64 b4,.bool b5,.int .i64 b6,X,Y,Z,b0,b1,b2]::cB Tryz.prog 2 (kyI .i64) bI true f y::Fo) g∧(∀ r,r ∈ rs→r ∈ g)∧rSl bE X d1 ∈ g∧rSl aF Y d2 ∈ g∧rSl aJ Z d3 ∈ g∧rSl aV b0 d4 ∈ g∧rSl bL b1 d5 ∈ g∧rSl (kI .i64) b2 d6 ∈ g∧qH y x20 c0 c1 d0 b3 b4 b5 b6 d1 d2 d3 d4 d5 d6=some r) ?_ ?_
 ·refine bd hm fun i3 c2 hm=>?_
  have hI:dP [Blk l 37 (aR x20 I J L M),Blk o 75 [p,q,s,t,O,P,.map (some f),u,x]] [] { w with drawn:=w.drawn+1 }:=⟨_,_,H.kept (Kp.drawn _ w _),(aB mm1 (aB mm2 (aL))),(aM)⟩
  refine jY _ (.go 0 0 (.go 1 0 (.go 2 0 (.go 3 0 (.go 4 0 (.go 5 0 (.alt 6 (.go 7 0 (.go 8 0 (.go 9 0 (.go 10 1 (.go 11 1 (.go 12 2 .nil)))))) 10 (.go 6 1 (.go 7 0 (.go 8 0 (.go 9 0 (.go 11 1 (.go 12 2 .nil))))))))))))) [12] kG (by kernel_rfl) (fun _ _ _ h=>False.elim h.2) hI<|have H:=H.kept (Kp.drawn _ w (w.drawn+1));?_
  generalize ({ w with drawn:=w.drawn+1 }:World)=w at H hI ⊢
  replace hI:∃ W,dP [Blk l 37 (aR x20 I J L M),Blk o 75 [p,q,s,t,O,P,.map (some f),u,x]] [] W:=⟨_,hI⟩
  obtain ⟨W0,hI⟩:=hI
  refine aW E rfl (wn rfl) rfl rfl (fun w hW=>(bD E rfl rfl)) fun a E=>aW E rfl (wn rfl) rfl rfl (fun w hW=>(sF E rfl rfl)) fun a E=>aW E rfl (wn rfl) rfl rfl (fun w hW=>iY E rfl rfl (v:=pt o 6) (O6 _ _)) fun a E=>aW E rfl (wn rfl) rfl rfl (fun w hW=>eZ E rfl rfl (kD mm1 rfl U68 rfl w hW)) fun a E=>aW E rfl (wn rfl) rfl rfl (fun w hW=>iY E rfl rfl (v:=pt l 1) (O5 _ _)) fun a E=>aW E rfl (wn rfl) rfl rfl (fun w hW=>eZ E rfl rfl (kD m0 rfl U2 rfl w hW)) fun a E=>?_
  refine kM rfl rfl ?_ ?_
  ·refine lR (i:=3) (K:=(kyI .i64)) E H (wn rfl) rfl rfl rfl rfl rfl rfl (dX U2) U68 yV A4 c2 fun i4 a H E=>?_
   obtain ⟨i5,i6,i7,i8,i9,j0,rfl,h⟩:=jC H;clear H;have H:=h
   refine nt<|?_
   refine ⟨⟨_,_,H,(aB mm1 (aB mm2 (aL))),(aM)⟩,?_⟩
   refine aW E rfl (wn rfl) rfl rfl (fun w hW=>(bD E rfl rfl)) fun a E=>aW E rfl (wn rfl) rfl rfl (fun w hW=>(cX E rfl rfl rfl)) fun a E=>aW E rfl (wn rfl) rfl rfl (fun w hW=>(cX E rfl rfl rfl)) fun a E=>cJ rfl<|al E H rfl rfl rfl rfl gN fun j1 w a H E=>nt<|?_
   refine ⟨⟨_,_,H,(aB mm2 (aB mm3 (aL))),(aM)⟩,?_⟩
   refine cJ rfl<|aZ (i:=0) E H (wn rfl) rfl rfl rfl rfl rfl rfl bU rfl (bF H mm5 mm4 mm3 mm2 mm1 m0) fun w H=>nt<|?_
   refine ⟨⟨_,_,H,(aB mm2 (aB mm3 (aL))),(aM)⟩,?_⟩
   refine cP rfl<|pr 1 E rfl fun a E=>nt<|dW<|?_
   clear hI
   exact aC<|have H:=H.frs [4,1,2,3,4] rfl;X19 ⟨E.to rfl,H,(Y7 Y0),mm5,mm4,mm3,mm2,mm1,m0,hm⟩
  ·refine al E H rfl rfl rfl rfl gN fun j2 w a H E=>nt<|?_
   refine ⟨⟨_,_,H,(aB mm2 (aB mm3 (aL))),(aM)⟩,?_⟩
   refine cJ rfl<|lR (i:=4) (K:=(kyI .i64)) E H (wn rfl) rfl rfl rfl rfl rfl rfl (dX U2) U68 yV A4 c2 fun j3 a H E=>?_
   obtain ⟨j4,j5,j6,j7,j8,j9,rfl,h⟩:=jC H;clear H;have H:=h
   refine nt<|?_
   refine ⟨⟨_,_,H,(aB mm2 (aB mm3 (aL))),(aM)⟩,?_⟩
   refine aW E rfl (wn rfl) rfl rfl (fun w hW=>(bD E rfl rfl)) fun a E=>aW E rfl (wn rfl) rfl rfl (fun w hW=>(cX E rfl rfl rfl)) fun a E=>aW E rfl (wn rfl) rfl rfl (fun w hW=>(cX E rfl rfl rfl)) fun a E=>cJ rfl<|aZ (i:=0) E H (wn rfl) rfl rfl rfl rfl rfl rfl bU rfl (bF H mm5 mm4 mm3 mm2 mm1 m0) fun w H=>nt<|?_
   refine ⟨⟨_,_,H,(aB mm2 (aB mm3 (aL))),(aM)⟩,?_⟩
   refine cP rfl<|pr 1 E rfl fun a E=>nt<|dW<|?_
   clear hI
   exact aC<|have H:=H.frs [4,1,2,3,4] rfl;X19 ⟨E.to rfl,H,(Y7 Y0),mm5,mm4,mm3,mm2,mm1,m0,hm⟩
 ·clear E H hm
  rintro a w ⟨c9,X,Y,Z,b0,b1,b2,d0,b3,b4,b5,b6,d1,d2,d3,d4,d5,d6,g,E,H,N,d7,d8,d9,e0,e1,e2,hm⟩
  unfold qH at hm
  refine sq<|pr 1 E rfl fun a E=>nt<|wif E hm rfl (fun hm=>?_) fun hm=>?_
  ·refine sq<|sv E rfl rfl rfl (cA (i:=3) (us:=[.int .i64 b3,.int .i64 b4,.bool b5,.int .i64 b6,X,Y,Z,b0,b1,b2]) E H rfl rfl rfl rfl U48 rfl bU) fun a E=>aZ (i:=2) E H (wn rfl) rfl rfl rfl rfl rfl rfl bU rfl (bF H d7 d8 d9 e0 e1 e2) fun w H=>nt<|wp_ret<|aP<|dH E rfl (cV (i:=2) (us:=[.int .i64 b3,.int .i64 b4,.bool b5,.int .i64 b6,X,Y,Z,b0,b1,b2]) H rfl rfl rfl U48 rfl bU)<|have H:=H.drs [1,1,1];?_
   cases hm
   exact X8 ⟨rfl,H.reads (aA d7 (aA d8 (aA d9 (aA e0 (aA e1 (aA e2 (aA (N _ b7) (aA (N _ b8) (N)))))))))⟩
  ·refine wp_skip<|aC<|wp_seq<|aT (fun a w=>∃ e3 b9,Env 59 a [(0,pt o 0),(2,.func (.func 33) #[] #[]),(4,pt l 0),(6,pt z 0),(32,.bool e3)]∧Sep w (Blk o 75 [p,q,s,t,O,P,.map (some f),u,x]::Blk l 37 (aR x20 I J L M)::Blk z 48 bN::cB Tryz.prog 2 (kyI .i64) bI true f y::Fo) b9∧(∀ r,r ∈ rs→r ∈ b9)∧mL y x20 c0 c1 e3=some r) ?_ ?_
   ·refine wp_region_lit<|pr 1 E rfl fun a E=>lb E H 1 rfl rfl rfl rfl rfl rfl rfl U2 rfl fun a E=>pr 2 E rfl fun a E=>cs hm (fun k hm=>?_) fun k hm=>?_
    ·exact pk 3 E (kc 25 rfl k) rfl fun a E=>aQ E (ws' (d:=25) E rfl rfl rfl rfl k) rfl rfl (cD (i:=0) E H rfl rfl rfl rfl U68 rfl) fun a E=>aQ E (ws' (d:=25) E rfl rfl rfl rfl k) rfl rfl (r7 (i:=4) E H rfl rfl rfl U68) fun a E=>pk 2 E (kc 25 rfl k) rfl fun a E=>nt<|have H:=H.drop 3;⟨_,_,E.to rfl,H,N,hm⟩
    ·exact pk 7 E (kc 25 rfl k) rfl fun a E=>nt<|have H:=H.drop 3;⟨_,_,E.to rfl,H,N,hm⟩
   ·clear E H hm
    rintro a w ⟨e3,b9,E,H,j,hm⟩
    unfold mL at hm
    refine wif E hm rfl (fun hm=>?_) fun hm=>?_
    ·refine sq<|bd hm fun g6 f4 hm=>cG E rfl rfl rfl rfl rfl tM (dT H f4)<|?_
     rintro _ w ⟨g7,g8,g9,i0,i1,i2,rfl,H⟩ a E
     refine aZ (i:=2) E H (wn rfl) rfl rfl rfl rfl rfl rfl bU rfl (bF H m0 mm1 mm2 mm3 mm4 mm5) fun w H=>nt<|wp_ret<|aP<|dH E rfl (cV (i:=2) (us:=(bC g6 g7 g8 g9 i0 i1 i2)) H rfl rfl rfl U48 rfl bU)<|have H:=H.drs [1,1];?_
     cases hm
     exact X8 ⟨rfl,H.reads (aA m0 (aA mm1 (aA mm2 (aA mm3 (aA mm4 (aA mm5 (aA (t6 (j _ b7)) (aA (t6 (j _ b8)) (fun r hr=>(t6 (j r hr)))))))))))⟩
    ·refine wp_skip<|aC<|sq<|pr 2 E rfl fun a E=>sv E rfl rfl rfl (cA (i:=1) (us:=(aR x20 I J L M)) E H rfl rfl rfl rfl U37 rfl s7) fun a E=>bd hm fun b f5 hm=>aU E (wn rfl) rfl rfl (bP E rfl rfl rfl (Zl _)) (J1 H (j _ b7) (j _ b8) f5)<|?_
     rintro _ w ⟨A,B,C,D,F,G,c3,c4,rfl,H⟩ a E
     refine al E H rfl rfl rfl rfl gN fun c5 w a H E=>aZ (i:=0) E H (wn rfl) rfl rfl rfl rfl rfl rfl bU rfl (bF H m0 mm1 mm2 mm3 mm4 mm5) fun w H=>nt<|aT (fun a w=>∃ e4 e,Env 59 a [(6,pt z 0),(9,pt c5 0)]∧Sep w (Blk z 48 bN::Blk c5 48 (bC b.1 A B C D F G)::Blk o 75 [p,q,s,t,c3,c4,.map (some f),u,x]::cB Tryz.prog 2 (kyI .i64) bI true f e4::Fo) e∧(∀ r,r ∈ rs→r ∈ e)∧rSl bE A b.1.Results ∈ e∧rSl aF B b.1.Store.Nodes ∈ e∧rSl aJ C b.1.Store.Turns ∈ e∧rSl aV D b.1.Events ∈ e∧rSl bL F b.1.Mounts ∈ e∧rSl (kI .i64) G b.1.Wounded ∈ e∧rSl aX c3 b.2.1 ∈ e∧rSl aO c4 b.2.2 ∈ e∧mK b e4=some r) ?_ ?_
     ·refine aT (fun a w=>∃ e5 c,Env 59 a [(0,pt o 0),(4,pt l 0),(6,pt z 0),(9,pt c5 0),(50,.bool e5)]∧Sep w (Blk o 75 [p,q,s,t,c3,c4,.map (some f),u,x]::Blk l 37 (aR x20 I J L M)::Blk z 48 bN::Blk c5 48 (bC b.1 A B C D F G)::cB Tryz.prog 2 (kyI .i64) bI true f y::Fo) c∧(∀ r,r ∈ rs→r ∈ c)∧rSl aX c3 b.2.1 ∈ c∧rSl aO c4 b.2.2 ∈ c∧rSl bE A b.1.Results ∈ c∧rSl aF B b.1.Store.Nodes ∈ c∧rSl aJ C b.1.Store.Turns ∈ c∧rSl aV D b.1.Events ∈ c∧rSl bL F b.1.Mounts ∈ c∧rSl (kI .i64) G b.1.Wounded ∈ c∧jV b y x20 e5=some r) ?_ ?_
      ·refine wp_region_lit<|pr 1 E rfl fun a E=>lb E H 2 rfl rfl rfl rfl rfl rfl rfl U2 rfl fun a E=>pr 2 E rfl fun a E=>cs hm (fun m hm=>?_) fun m hm=>?_
       ·refine pk 1 E (kc 41 rfl m) rfl fun a E=>aQ E (ws' (d:=41) E rfl rfl rfl rfl m) rfl rfl (cD (i:=0) E H rfl rfl rfl rfl U41 rfl) fun a E=>pk 3 E (kc 41 rfl m) rfl fun a E=>cs hm (fun n hm=>?_) fun n hm=>?_
        ·exact pk 1 E (kc 46 rfl n) rfl fun a E=>aQ E (ws' (d:=46) E rfl rfl rfl rfl n) rfl rfl (cD (i:=0) E H rfl rfl rfl rfl U41 rfl) fun a E=>pk 2 E (kc 46 rfl n) rfl fun a E=>nt<|have H:=H.frs [4,1,4,4,4] rfl;⟨_,_,E.to rfl,H,(Y8 j),mm6,(t1 mm6),m0,mm1,mm2,mm3,mm4,mm5,hm⟩
        ·exact pk 4 E (kc 46 rfl n) rfl fun a E=>nt<|have H:=H.frs [4,1,4,4,4] rfl;⟨_,_,E.to rfl,H,(Y8 j),mm6,(t1 mm6),m0,mm1,mm2,mm3,mm4,mm5,hm⟩
       ·exact pk 9 E (kc 41 rfl m) rfl fun a E=>nt<|have H:=H.frs [4,1,4,4,4] rfl;⟨_,_,E.to rfl,H,(Y8 j),mm6,(t1 mm6),m0,mm1,mm2,mm3,mm4,mm5,hm⟩
      ·clear E H hm
       rintro a w ⟨e5,c,E,H,c6,c7,c8,Q,R,S,T,U,V,hm⟩
       unfold jV at hm
       refine wif E hm rfl (fun hm=>?_) fun hm=>?_
       ·refine dw [(0,0),(1,0),(2,0),(3,0),(4,0),(5,0),(6,0),(7,2)] [0,1,3] [] H (by kernel_rfl) (fun _ _ _ h=>False.elim h.2) fun w W0 hI H=>fn 3 E rfl fun a E=>fb E rfl (wn rfl) rfl rfl rfl rfl m0 rfl U68 rfl fun a E=>fn 1 E rfl fun a E=>fb E rfl (wn rfl) rfl rfl rfl rfl mm1 rfl U2 rfl fun a E=>fbn E (bC b.1 A B C D F G) rfl (wn rfl) rfl rfl rfl rfl mm2 rfl U48 rfl bU fun a E=>bQ rfl<|bd hm fun k0 f2 hm=>zR (i:=4) (K:=(kyI .i64)) (v:=b.1) (cs:=[.int .i64 b.1.Err,.int .i64 b.1.At,.bool b.1.Yes,.int .i64 b.1.Epoch,A,B,C,D,F,G]) E H (wn rfl) rfl rfl rfl rfl rfl rfl (dX U2) U68 f2 (fun ok hr=>(lS (hr _ Q) (hr _ R) (hr _ S) (hr _ T) (hr _ U) (hr _ V))) fun w H=>?_
        refine nt<|bR<|?_
        clear hI
        exact aC<|have H:=H.drop 1;have H:=H.frs [3,1,3,3] rfl;⟨_,_,E.to rfl,H,c6,Q,R,S,T,U,V,c7,c8,hm⟩
       ·exact wp_skip<|aC<|have H:=H.drop 1;have H:=H.frs [3,1,3,3] rfl;⟨_,_,E.to rfl,H,c6,Q,R,S,T,U,V,c7,c8,hm⟩
     ·clear E H hm
      rintro a w ⟨e4,e,E,H,f6,e6,e7,e8,e9,f0,f1,f7,f8,hm⟩
      unfold mK at hm
      refine sq<|sv E rfl rfl rfl (cA (i:=1) (us:=(bC b.1 A B C D F G)) E H rfl rfl rfl rfl U48 rfl bU) fun a E=>aZ (i:=0) E H (wn rfl) rfl rfl rfl rfl rfl rfl bU rfl (bF H e6 e7 e8 e9 f0 f1) fun w H=>nt<|wp_ret<|dH E rfl (cV (i:=0) (us:=(bC b.1 A B C D F G)) H rfl rfl rfl U48 rfl bU)<|have H:=H.drs [0,0];?_
      cases hm
      exact X8 ⟨rfl,H.reads (aA e6 (aA e7 (aA e8 (aA e9 (aA f0 (aA f1 (aA f7 (aA f8 (f6)))))))))⟩

def a6(b:(List aD))(c:(List aK)):Option (bM×Int):=
  some ((⟨c,b⟩:bM),0)
def wI(x1:bM)(b:aK)(c:(List aD)):Option (bM×Int):=
  (ck (x1.Watches.length ≤ LIM)).bind fun d=>(ck (x1.Watches.length+([b]:List aK).length ≤ LIM)).bind fun e=>a6 c (x1.Watches ++ ([b]:List aK))
def wJ(x1:bM)(c:aK)(d:Bool):Option (bM×Int):=
  if d=true then (some ((⟨[],[]⟩:bM),1)) else ((zG x1 c.Session c.Num).bind fun e=>if (decide (e ≥ 0))=true then (some (x1,61)) else (if ((x1.Watches.length:Int) == 64)=true then (some (x1,2)) else ((dS x1.Sessions c.Session).bind fun b=>if (!b.2)=true then ((ck (x1.Sessions.length ≤ LIM)).bind fun f=>(ck (0 ≤ b.1∧b.1 ≤ x1.Sessions.length∧x1.Sessions.length ≤ 1000000)).bind fun g=>wI x1 c (x1.Sessions.take b.1.toNat ++ (⟨c.Session,0,[]⟩:aD)::x1.Sessions.drop b.1.toNat)) else (wI x1 c x1.Sessions))))
def F8(x1:bM)(c:aK):Option (bM×Int):=
  (qN x1).bind fun b=>if (!b)=true then (wJ x1 c (!b)) else ((xP c).bind fun d=>wJ x1 c (!d))
theorem V8{x1:bM}{f m:Value}{b:aK}(H:Sep w (Fo) rs)(g:rSl aX f x1.Watches ∈ rs)(j:rSl aO m x1.Sessions ∈ rs){r:bM×Int}(hm:F8 x1 b=some r) :
    Calls Tryz.prog 88 [.agg #[f,m],.agg (dL b).toArray].toArray w (Ret fun v w'=>∃ O P,.tuple #[.agg #[O,P],.int .i64 r.2]=v∧Sep w' (Fo) (rSl aX O r.1.Watches::rSl aO P r.1.Sessions::rs)):=by
 unfold F8 at hm
 refine ent Tryz.func88 rfl Tryz.ntmps88 rfl rfl fun a E=>sq<|bS E H (wn rfl) rfl rfl rfl rfl rfl fun l w a H E=>bS E H (wn rfl) rfl rfl rfl rfl rfl fun o w a H E=>al E H rfl rfl rfl rfl J8 fun z w a H E=>pr 1 E rfl fun a E=>nt<|wp_seq<|wp_block<|aT (fun a w=>∃ A t,Env 59 a [(2,pt l 0),(3,pt o 0),(4,pt z 0),(8,.bool A)]∧Sep w (Blk l 73 [f,m]::Blk o 35 (dL b)::Blk z 73 [.slice none 0 0,.slice none 0 0]::Fo) t∧(∀ r,r ∈ rs→r ∈ t)∧wJ x1 b A=some r) ?_ ?_
 ·refine sq<|sv E rfl rfl rfl (cA (i:=2) (us:=[f,m]) E H rfl rfl rfl rfl U73 rfl eE) fun a E=>bd hm fun S J hm=>xk E rfl rfl rfl rfl rfl Dx (xQ H g j J) fun w H a E=>pr 2 E rfl fun a E=>nt<|wif E hm rfl (fun hm=>?_) fun hm=>?_
  ·exact wp_skip<|aC<|have H:=H.frs [0,1,2] rfl;⟨_,_,E.to rfl,H,Y0,hm⟩
  ·exact wp_region_lit<|sv E rfl rfl rfl (cA (i:=1) (us:=(dL b)) E H rfl rfl rfl rfl U35 rfl pK) fun a E=>bd hm fun T K hm=>xk E rfl rfl rfl rfl rfl Mr (M2 H K) fun w H a E=>pr 2 E rfl fun a E=>nt<|have H:=H.frs [0,1,2] rfl;⟨_,_,E.to rfl,H,Y0,hm⟩
 ·clear E H hm
  rintro a w ⟨A,t,E,H,c,hm⟩
  unfold wJ at hm
  refine wif E hm rfl (fun hm=>?_) fun hm=>?_
  ·refine sq<|sv E rfl rfl rfl (cI E rfl (E.evs rfl) (v:=.agg #[.slice none 0 0,.slice none 0 0]) (by kernel_rfl)) fun a E=>aZ (i:=2) E H (wn rfl) rfl rfl rfl rfl rfl rfl eE rfl rfl fun w H=>pr 1 E rfl fun a E=>nt<|wp_ret<|bV<|aP<|rJ E rfl (cV (i:=2) (us:=[.slice none 0 0,.slice none 0 0]) H rfl rfl rfl U73 rfl eE) (rvT rfl)<|?_
   refine have H:=H.nilSl aX;have H:=H.nilSl aO;have H:=H.drs [0,0,0];?_
   cases hm
   exact ⟨_,_,rfl,H.reads (aA mm1 (aA m0 (fun r hr=>(t2 (c r hr)))))⟩
  ·refine sq<|sv E rfl rfl rfl (cA (i:=0) (us:=[f,m]) E H rfl rfl rfl rfl U73 rfl eE) fun a E=>pr 1 E rfl fun a E=>lb E H 1 rfl rfl rfl rfl rfl rfl rfl U2 rfl fun a E=>pr 1 E rfl fun a E=>lb E H 1 rfl rfl rfl rfl rfl rfl rfl U2 rfl fun a E=>bd hm fun X L hm=>xk E rfl rfl rfl rfl rfl Mu (Q5 H (c _ g) L) fun w H a E=>pr 2 E rfl fun a E=>?_
   refine nt<|wif E hm rfl (fun hm=>?_) fun hm=>?_
   ·refine sq<|sv E rfl rfl rfl (cA (i:=0) (us:=[f,m]) E H rfl rfl rfl rfl U73 rfl eE) fun a E=>aZ (i:=2) E H (wn rfl) rfl rfl rfl rfl rfl rfl eE rfl (gB H (c _ g) (c _ j)) fun w H=>pr 1 E rfl fun a E=>nt<|wp_ret<|bV<|aP<|rJ E rfl (cV (i:=2) (us:=[f,m]) H rfl rfl rfl U73 rfl eE) (rvT rfl)<|?_
    refine have H:=H.drs [0,0,0];?_
    cases hm
    exact ⟨_,_,rfl,H.reads (aA (c _ g) (aA (c _ j) (c)))⟩
   ·refine sq<|pr 1 E rfl fun a E=>lb E H 0 rfl rfl rfl rfl rfl rfl rfl U70 rfl fun a E=>sv E rfl rfl rfl (cR E H rfl rfl (c _ g) U70) fun a E=>pr 2 E rfl fun a E=>nt<|wif E hm rfl (fun hm=>?_) fun hm=>?_
    ·refine sq<|sv E rfl rfl rfl (cA (i:=0) (us:=[f,m]) E H rfl rfl rfl rfl U73 rfl eE) fun a E=>aZ (i:=2) E H (wn rfl) rfl rfl rfl rfl rfl rfl eE rfl (gB H (c _ g) (c _ j)) fun w H=>pr 1 E rfl fun a E=>nt<|wp_ret<|bV<|aP<|rJ E rfl (cV (i:=2) (us:=[f,m]) H rfl rfl rfl U73 rfl eE) (rvT rfl)<|?_
     refine have H:=H.drs [0,0,0];?_
     cases hm
     exact ⟨_,_,rfl,H.reads (aA (c _ g) (aA (c _ j) (c)))⟩
    ·refine wp_skip<|bY<|aC<|aT (fun a w=>∃ k n p,Env 59 a [(2,pt l 0),(3,pt o 0),(4,pt z 0)]∧Sep w (Blk l 73 [f,k]::Blk o 35 (dL b)::Blk z 73 [.slice none 0 0,.slice none 0 0]::Fo) p∧(∀ r,r ∈ rs→r ∈ p)∧rSl aO k n ∈ p∧wI x1 b n=some r) ?_ ?_
     ·refine sq<|pr 1 E rfl fun a E=>lb E H 0 rfl rfl rfl rfl rfl rfl rfl U71 rfl fun a E=>pr 1 E rfl fun a E=>lb E H 1 rfl rfl rfl rfl rfl rfl rfl U2 rfl fun a E=>bd hm fun Y M hm=>xk E rfl rfl rfl rfl rfl Ik (gR H (c _ j) M) fun w H a E=>pr 5 E rfl fun a E=>nx<|?_
      refine pr 2 E rfl fun a E=>nt<|wif E hm rfl (fun hm=>?_) fun hm=>?_
      ·refine bk hm fun B hm=>bk hm fun C hm=>?_
       have hI:dP [Blk l 73 [f,m],Blk o 35 (dL b)] [] { w with drawn:=w.drawn+1 }:=⟨_,_,H.kept (Kp.drawn _ w _),(aB m0 (aB mm1 (aL))),(aM)⟩
       refine jY _ (.go 0 0 (.go 1 0 (.go 3 0 (.go 4 0 (.go 5 0 (.go 6 0 (.alt 2 (.go 7 1 (.go 8 1 (.go 9 2 (.go 10 2 .nil)))) 7 (.go 2 1 (.go 8 1 (.go 9 2 (.go 10 2 .nil))))))))))) [9,10] kG (by kernel_rfl) (fun _ _ _ h=>False.elim h.2) hI<|have H:=H.kept (Kp.drawn _ w (w.drawn+1));?_
       generalize ({ w with drawn:=w.drawn+1 }:World)=w at H hI ⊢
       replace hI:∃ W,dP [Blk l 73 [f,m],Blk o 35 (dL b)] [] W:=⟨_,hI⟩
       obtain ⟨W0,hI⟩:=hI
       refine aW E rfl (wn rfl) rfl rfl (fun w hW=>iY E rfl rfl (v:=pt l 1) (Kc _ _)) fun a E=>aW E rfl (wn rfl) rfl rfl (fun w hW=>eZ E rfl rfl (kD m0 rfl U71 rfl w hW)) fun a E=>aW E rfl (wn rfl) rfl rfl (fun w hW=>(bD E rfl rfl)) fun a E=>aW E rfl (wn rfl) rfl rfl (fun w hW=>iY E rfl rfl (v:=pt o 0) (Bf _ _)) fun a E=>aW E rfl (wn rfl) rfl rfl (fun w hW=>eZ E rfl rfl (kD mm1 rfl U2 rfl w hW)) fun a E=>aW E rfl (wn rfl) rfl rfl (fun w hW=>(cI E rfl (E.evs rfl) (v:=.agg #[.int .i64 b.Session,.int .i64 0,.slice none 0 0]) (by kernel_rfl))) fun a E=>?_
       refine kM rfl rfl ?_ ?_
       ·refine aU E (wn rfl) rfl rfl (cC E rfl rfl (Ea _)) (eG H (c _ j) B) fun Z w H a E=>nt<|?_
        refine ⟨⟨_,_,H,(aB mm1 (aB mm2 (aL))),(aM)⟩,?_⟩
        refine cJ rfl<|fY (e:=215) (d:=aO) (cs:=[.int .i64 b.Session,.int .i64 0,.slice none 0 0]) (xs:=[(⟨b.Session,0,[]⟩:aD)]) E H (wn rfl) rfl rfl rfl (E.evs rfl) (by kernel_rfl) rfl rfl (fun ok hr=>(Rows.single (d:=aO) (cs:=[.int .i64 b.Session,.int .i64 0,.slice none 0 0]) (x:=(⟨b.Session,0,[]⟩:aD)) (jB (Sl.nil _ _ _)))) fun b0 w a H E=>nt<|?_
        refine ⟨⟨_,_,H,(aB mm2 (aB mm3 (aL))),(aM)⟩,?_⟩
        refine cJ rfl<|aU E (wn rfl) rfl rfl (cC E rfl rfl (Ip _)) (Se.insert_a (ix:=1) (iu:=0) H rfl rfl (by decide) C) fun b1 w H a E=>nt<|?_
        refine ⟨⟨_,_,H,(aB mm2 (aB mm3 (aL))),(aM)⟩,?_⟩
        refine cP rfl<|pr 1 E rfl fun a E=>nt<|cP rfl<|?_
        obtain ⟨q92,b2,rfl⟩:=H.rowform (i:=1) rfl
        refine aZ (i:=2) E H (wn rfl) rfl rfl rfl rfl rfl rfl Ft rfl rfl fun w H=>nt<|dW<|?_
        clear hI
        exact aC<|have H:=H.thaw (i:=1) rfl;have H:=H.drop 0;X3 ⟨E.to rfl,H,(Y1 c),m0,hm⟩
       ·refine fY (e:=215) (d:=aO) (cs:=[.int .i64 b.Session,.int .i64 0,.slice none 0 0]) (xs:=[(⟨b.Session,0,[]⟩:aD)]) E H (wn rfl) rfl rfl rfl (E.evs rfl) (by kernel_rfl) rfl rfl (fun ok hr=>(Rows.single (d:=aO) (cs:=[.int .i64 b.Session,.int .i64 0,.slice none 0 0]) (x:=(⟨b.Session,0,[]⟩:aD)) (jB (Sl.nil _ _ _)))) fun b3 w a H E=>nt<|?_
        refine ⟨⟨_,_,H,(aB mm1 (aB mm2 (aL))),(aM)⟩,?_⟩
        refine cJ rfl<|aU E (wn rfl) rfl rfl (cC E rfl rfl (Ea _)) (eG H (c _ j) B) fun b4 w H a E=>nt<|?_
        refine ⟨⟨_,_,H,(aB mm2 (aB mm3 (aL))),(aM)⟩,?_⟩
        refine cJ rfl<|aU E (wn rfl) rfl rfl (cC E rfl rfl (Ip _)) (Se.insert_a (ix:=0) (iu:=1) H rfl rfl (by decide) C) fun U w H a E=>nt<|?_
        refine ⟨⟨_,_,H,(aB mm2 (aB mm3 (aL))),(aM)⟩,?_⟩
        refine cP rfl<|pr 1 E rfl fun a E=>nt<|cP rfl<|?_
        obtain ⟨q101,V,rfl⟩:=H.rowform (i:=0) rfl
        refine aZ (i:=2) E H (wn rfl) rfl rfl rfl rfl rfl rfl Ft rfl rfl fun w H=>nt<|dW<|?_
        clear hI
        exact aC<|have H:=H.thaw (i:=0) rfl;have H:=H.drop 0;X3 ⟨E.to rfl,H,(Y1 c),m0,hm⟩
      ·exact wp_skip<|aC<|X3 ⟨E.to rfl,H,c,(c _ j),hm⟩
     ·clear E H hm
      rintro a w ⟨k,n,p,E,H,q,D,hm⟩
      unfold wI at hm
      refine aT (fun a w=>∃ u y s,Env 59 a [(2,pt l 0),(4,pt z 0)]∧Sep w (Blk l 73 [u,k]::Blk z 73 [.slice none 0 0,.slice none 0 0]::Row 35 aX u y::Fo) s∧(∀ r,r ∈ rs→r ∈ s)∧rSl aO k n ∈ s∧a6 n y=some r) ?_ ?_
      ·refine bk hm fun F hm=>bk hm fun G hm=>?_
       have hI:dP [Blk l 73 [f,k],Blk o 35 (dL b)] [] { w with drawn:=w.drawn+1 }:=⟨_,_,H.kept (Kp.drawn _ w _),(aB m0 (aB mm1 (aL))),(aM)⟩
       refine jY _ (.go 0 0 (.go 1 0 (.go 3 0 (.alt 2 (.go 4 1 (.go 5 1 (.go 6 2 (.go 7 2 .nil)))) 4 (.go 2 1 (.go 5 1 (.go 6 2 (.go 7 2 .nil)))))))) [6,7] kG (by kernel_rfl) (fun _ _ _ h=>False.elim h.2) hI<|have H:=H.kept (Kp.drawn _ w (w.drawn+1));?_
       generalize ({ w with drawn:=w.drawn+1 }:World)=w at H hI ⊢
       replace hI:∃ W,dP [Blk l 73 [f,k],Blk o 35 (dL b)] [] W:=⟨_,hI⟩
       obtain ⟨W0,hI⟩:=hI
       refine aW E rfl (wn rfl) rfl rfl (fun w hW=>iY E rfl rfl (v:=pt l 0) (Kb _ _)) fun a E=>aW E rfl (wn rfl) rfl rfl (fun w hW=>eZ E rfl rfl (kD m0 rfl U70 rfl w hW)) fun a E=>aW E rfl (wn rfl) rfl rfl (fun w hW=>eZ E rfl rfl (yN (us:=(dL b)) mm1 rfl U35 rfl pK w hW)) fun a E=>?_
       refine kM rfl rfl ?_ ?_
       ·refine aU E (wn rfl) rfl rfl (cC E rfl rfl (Eb _)) (fM H (q _ g) F) fun b5 w H a E=>nt<|?_
        refine ⟨⟨_,_,H,(aB mm1 (aB mm2 (aL))),(aM)⟩,?_⟩
        refine cJ rfl<|pI (e:=35) (d:=aX) (cs:=[.int .i64 b.Session,.int .i64 b.Num,.string b.Path,.bool b.Deep]) (xs:=[b]) E H (wn rfl) rfl rfl rfl (E.evs rfl) (by kernel_rfl) rfl (fun ok hr=>(Rows.single (d:=aX) (cs:=[.int .i64 b.Session,.int .i64 b.Num,.string b.Path,.bool b.Deep]) (x:=b) zS)) fun b6 w a H E=>nt<|?_
        refine ⟨⟨_,_,H,(aB mm1 (aB mm2 (aL))),(aM)⟩,?_⟩
        refine cJ rfl<|dV (i:=0) E H (wn rfl) rfl rfl rfl rfl rfl rfl (jA m0) U70 Im rfl G rfl fun b7 w a H E=>nt<|?_
        refine ⟨⟨_,_,H,(aB mm1 (aB mm2 (aL))),(aM)⟩,?_⟩
        refine cP rfl<|pr 1 E rfl fun a E=>nt<|cP rfl<|?_
        obtain ⟨q54,b8,rfl⟩:=H.rowform (i:=0) rfl
        refine aZ (i:=1) E H (wn rfl) rfl rfl rfl rfl rfl rfl Io rfl rfl fun w H=>nt<|dW<|?_
        clear hI
        exact aC<|have H:=H.drop 2;have H:=H.frs [0,2,2] rfl;X3 ⟨E.to rfl,H,(Y1 q),(t1 D),hm⟩
       ·refine pI (e:=35) (d:=aX) (cs:=[.int .i64 b.Session,.int .i64 b.Num,.string b.Path,.bool b.Deep]) (xs:=[b]) E H (wn rfl) rfl rfl rfl (E.evs rfl) (by kernel_rfl) rfl (fun ok hr=>(Rows.single (d:=aX) (cs:=[.int .i64 b.Session,.int .i64 b.Num,.string b.Path,.bool b.Deep]) (x:=b) zS)) fun b9 w a H E=>nt<|?_
        refine ⟨⟨_,_,H,(aB m0 (aB mm1 (aL))),(aM)⟩,?_⟩
        refine cJ rfl<|aU E (wn rfl) rfl rfl (cC E rfl rfl (Eb _)) (fM H (t1 (q _ g)) F) fun c0 w H a E=>nt<|?_
        refine ⟨⟨_,_,H,(aB mm1 (aB mm2 (aL))),(aM)⟩,?_⟩
        refine cJ rfl<|dV (i:=0) E H (wn rfl) rfl rfl rfl rfl rfl rfl (jA m0) U70 Im rfl G rfl fun c1 w a H E=>nt<|?_
        refine ⟨⟨_,_,H,(aB mm1 (aB mm2 (aL))),(aM)⟩,?_⟩
        refine cP rfl<|pr 1 E rfl fun a E=>nt<|cP rfl<|?_
        obtain ⟨q63,c2,rfl⟩:=H.rowform (i:=0) rfl
        refine aZ (i:=1) E H (wn rfl) rfl rfl rfl rfl rfl rfl Io rfl rfl fun w H=>nt<|dW<|?_
        clear hI
        exact aC<|have H:=H.drop 2;have H:=H.frs [0,2,2] rfl;X3 ⟨E.to rfl,H,(Y1 q),(t1 D),hm⟩
      ·clear E H hm
       rintro a w ⟨u,y,s,E,H,N,I,hm⟩
       unfold a6 at hm
       refine sq<|sv E rfl rfl rfl (cA (i:=0) (us:=[u,k]) E H rfl rfl rfl rfl U73 rfl eE) fun a E=>?_
       obtain ⟨q25,Q,rfl⟩:=H.rowform (i:=2) rfl
       obtain ⟨q27,R,rfl⟩:=H.slform I
       refine aZ (i:=1) E H (wn rfl) rfl rfl rfl rfl rfl rfl eE rfl rfl fun w H=>pr 1 E rfl fun a E=>nt<|wp_ret<|rJ E rfl (cV (i:=1) (us:=[(.slice q25 y.length Q),(.slice q27 n.length R)]) H rfl rfl rfl U73 rfl eE) (rvT rfl)<|have H:=H.thaw (i:=2) rfl;have H:=H.drs [0,0];?_
       cases hm
       exact ⟨_,_,rfl,H.reads (aA m0 (aA (t1 I) (fun r hr=>(t1 (N r hr)))))⟩

def rH(c:List aK)(d:List aD)(e:Int)(f:(List aK))(g:(List aD)):Option (aG×(List aK)×(List aD)):=
  (lJ c d (⟨f,g⟩:bM) ([]:List bK) e).bind fun b=>some (b.1,b.2.1,b.2.2)
def uC(c:List aK)(d:List aD)(x20:bA):Option (aG×(List aK)×(List aD)):=
  (F8 (⟨c,d⟩:bM) x20.Watch).bind fun b=>rH c d b.2 b.1.Watches b.1.Sessions
theorem N1{e:Nat}{c d A B C D f g j k l m n:Value}{o:List aK}{p:List aD}{x20:bA}(H:Sep w (Blk e 75 [f,g,j,k,c,d,l,m,n]::Fo) rs)(q:rSl aX c o ∈ rs)(s:rSl aO d p ∈ rs){r:aG×(List aK)×(List aD)}(hm:uC o p x20=some r) :
    Calls Tryz.prog 32 [pt e 0,.agg (aR x20 A B C D).toArray].toArray w (Ret fun v w'=>∃ P Q R S T U V K,.agg (bC r.1 P Q R S T U).toArray=v∧Sep w' (Blk e 75 [f,g,j,k,V,K,l,m,n]::Fo) (rSl bE P r.1.Results::rSl aF Q r.1.Store.Nodes::rSl aJ R r.1.Store.Turns::rSl aV S r.1.Events::rSl bL T r.1.Mounts::rSl (kI .i64) U r.1.Wounded::rSl aX V r.2.1::rSl aO K r.2.2::rs)):=by
 unfold uC at hm
 refine ent Tryz.func32 rfl Tryz.ntmps32 rfl rfl fun a E=>sq<|bS E H (wn rfl) rfl rfl rfl rfl rfl fun F w a H E=>al E H rfl rfl rfl rfl gN fun L w a H E=>nt<|aT (fun a w=>∃ G u x I y z b,Env 21 a [(0,pt e 0),(4,pt L 0),(5,pt G 0),(6,.int .i64 I)]∧Sep w (Blk e 75 [f,g,j,k,c,d,l,m,n]::Blk L 48 bN::Blk G 73 [u,x]::Fo) b∧(∀ r,r ∈ rs→r ∈ b)∧rSl aX u y ∈ b∧rSl aO x z ∈ b∧rH o p I y z=some r) ?_ ?_
 ·refine bd hm fun b4 J hm=>?_
  have hI:dP [Blk F 37 (aR x20 A B C D),Blk e 75 [f,g,j,k,c,d,l,m,n]] [] { w with drawn:=w.drawn+1 }:=⟨_,_,H.kept (Kp.drawn _ w _),(aB mm1 (aB mm2 (aL))),(aM)⟩
  refine jY _ (.go 0 0 (.go 1 0 (.go 2 0 (.go 3 0 (.go 4 0 (.go 5 0 (.alt 6 (.go 7 0 (.go 8 0 (.go 9 0 (.go 10 1 (.go 11 1 (.go 12 2 .nil)))))) 10 (.go 6 1 (.go 7 0 (.go 8 0 (.go 9 0 (.go 11 1 (.go 12 2 .nil))))))))))))) [12] kG (by kernel_rfl) (fun _ _ _ h=>False.elim h.2) hI<|have H:=H.kept (Kp.drawn _ w (w.drawn+1));?_
  generalize ({ w with drawn:=w.drawn+1 }:World)=w at H hI ⊢
  replace hI:∃ W,dP [Blk F 37 (aR x20 A B C D),Blk e 75 [f,g,j,k,c,d,l,m,n]] [] W:=⟨_,hI⟩
  obtain ⟨W0,hI⟩:=hI
  refine aW E rfl (wn rfl) rfl rfl (fun w hW=>(bD E rfl rfl)) fun a E=>aW E rfl (wn rfl) rfl rfl (fun w hW=>(sF E rfl rfl)) fun a E=>aW E rfl (wn rfl) rfl rfl (fun w hW=>iY E rfl rfl (v:=pt e 4) (Fr _ _)) fun a E=>aW E rfl (wn rfl) rfl rfl (fun w hW=>eZ E rfl rfl (yN (us:=[c,d]) mm1 rfl U73 rfl eE w hW)) fun a E=>aW E rfl (wn rfl) rfl rfl (fun w hW=>iY E rfl rfl (v:=pt F 12) (R9 _ _)) fun a E=>aW E rfl (wn rfl) rfl rfl (fun w hW=>eZ E rfl rfl (yN (us:=(dL x20.Watch)) m0 rfl U35 rfl pK w hW)) fun a E=>?_
  refine kM rfl rfl ?_ ?_
  ·refine cG E rfl rfl rfl rfl rfl Sa (V8 (x1:=(⟨o,p⟩:bM)) H q s J)<|?_
   rintro _ w ⟨b5,b6,rfl,H⟩ a E
   refine nt<|?_
   refine ⟨⟨_,_,H,(aB mm1 (aB mm2 (aL))),(aM)⟩,?_⟩
   refine aW E rfl (wn rfl) rfl rfl (fun w hW=>(bD E rfl rfl)) fun a E=>aW E rfl (wn rfl) rfl rfl (fun w hW=>(cX E rfl rfl rfl)) fun a E=>aW E rfl (wn rfl) rfl rfl (fun w hW=>(cX E rfl rfl rfl)) fun a E=>cJ rfl<|al E H rfl rfl rfl rfl J8 fun b7 w a H E=>nt<|?_
   refine ⟨⟨_,_,H,(aB mm2 (aB mm3 (aL))),(aM)⟩,?_⟩
   refine cJ rfl<|aZ (i:=0) E H (wn rfl) rfl rfl rfl rfl rfl rfl eE rfl (gB H m0 mm1) fun w H=>nt<|?_
   refine ⟨⟨_,_,H,(aB mm2 (aB mm3 (aL))),(aM)⟩,?_⟩
   refine cP rfl<|pr 1 E rfl fun a E=>nt<|dW<|?_
   clear hI
   exact aC<|have H:=H.drop 2;have H:=H.frs [0,1,2] rfl;X7 ⟨E.to rfl,H,(Y2 Y0),m0,mm1,hm⟩
  ·refine al E H rfl rfl rfl rfl J8 fun b8 w a H E=>nt<|?_
   refine ⟨⟨_,_,H,(aB mm2 (aB mm3 (aL))),(aM)⟩,?_⟩
   refine cJ rfl<|cG E rfl rfl rfl rfl rfl Sa (V8 (x1:=(⟨o,p⟩:bM)) H q s J)<|?_
   rintro _ w ⟨b9,c0,rfl,H⟩ a E
   refine nt<|?_
   refine ⟨⟨_,_,H,(aB mm2 (aB mm3 (aL))),(aM)⟩,?_⟩
   refine aW E rfl (wn rfl) rfl rfl (fun w hW=>(bD E rfl rfl)) fun a E=>aW E rfl (wn rfl) rfl rfl (fun w hW=>(cX E rfl rfl rfl)) fun a E=>aW E rfl (wn rfl) rfl rfl (fun w hW=>(cX E rfl rfl rfl)) fun a E=>cJ rfl<|aZ (i:=0) E H (wn rfl) rfl rfl rfl rfl rfl rfl eE rfl (gB H m0 mm1) fun w H=>nt<|?_
   refine ⟨⟨_,_,H,(aB mm2 (aB mm3 (aL))),(aM)⟩,?_⟩
   refine cP rfl<|pr 1 E rfl fun a E=>nt<|dW<|?_
   clear hI
   exact aC<|have H:=H.drop 2;have H:=H.frs [0,1,2] rfl;X7 ⟨E.to rfl,H,(Y2 Y0),m0,mm1,hm⟩
 ·clear E H hm
  rintro a w ⟨G,u,x,I,y,z,b,E,H,t,M,N,hm⟩
  unfold rH at hm
  refine sq<|pr 1 E rfl fun a E=>sv E rfl rfl rfl (cA (i:=2) (us:=[u,x]) E H rfl rfl rfl rfl U73 rfl eE) fun a E=>pr 1 E rfl fun a E=>have H:=H.nilSl aV;bd hm fun X O hm=>cG E rfl rfl rfl rfl rfl Lr (rX (x20:=(⟨y,z⟩:bM)) H (t1 (t _ q)) (t1 (t _ s)) (t1 M) (t1 N) m0 O)<|?_
  rintro _ w ⟨Y,Z,b0,b1,b2,b3,c1,c2,rfl,H⟩ a E
  refine aZ (i:=1) E H (wn rfl) rfl rfl rfl rfl rfl rfl bU rfl (bF H m0 mm1 mm2 mm3 mm4 mm5) fun w H=>nt<|wp_ret<|dH E rfl (cV (i:=1) (us:=(bC X.1 Y Z b0 b1 b2 b3)) H rfl rfl rfl U48 rfl bU)<|have H:=H.drs [1,1];?_
  cases hm
  exact X8 ⟨rfl,H.reads (aA m0 (aA mm1 (aA mm2 (aA mm3 (aA mm4 (aA mm5 (aA mm6 (aA (t1 mm6) (fun r hr=>(t1 (t8 (t r hr))))))))))))⟩

def mM(b:aG×(List aK)×(List aD))(c:(List ((Int)×aG))):Option (aG×(List aK)×(List aD)×(List ((Int)×aG))):=
  some (b.1,b.2.1,b.2.2,c)
def jW(b:aG×(List aK)×(List aD))(c:List ((Int)×aG))(x20:bA)(e:Bool):Option (aG×(List aK)×(List aD)×(List ((Int)×aG))):=
  if e=true then ((mpt (kyI .i64) c x20.Id b.1).bind fun d=>mM b d) else (mM b c)
def mN(c:List ((Int)×aG))(x20:bA)(d:List aK)(e:List aD)(f:Bool):Option (aG×(List aK)×(List aD)×(List ((Int)×aG))):=
  if f=true then ((dM 2).bind fun g=>some (g,d,e,c)) else ((uC d e x20).bind fun b=>if (x20.Id != 0)=true then (if (b.1.Err != 131)=true then (jW b c x20 (b.1.Err != 132)) else (jW b c x20 false)) else (jW b c x20 false))
def qI(b:List ((Int)×aG))(x20:bA)(c:List aK)(d:List aD)(e:Bool)(f:Int)(g:Int)(i:Bool)(j:Int)(k:(List cL))(l:(List aE))(m:(List aI))(n:(List bK))(o:(List lQ))(p:(List Int)):Option (aG×(List aK)×(List aD)×(List ((Int)×aG))):=
  if e=true then (some ((⟨f,g,i,j,k,(⟨l,m⟩:bB),n,o,p⟩:aG),c,d,b)) else (if (x20.Id != 0)=true then (mN b x20 c d ((b.length:Int) == 512)) else (mN b x20 c d false))
def sU(d:List aK)(e:List aD)(c:List ((Int)×aG))(x20:bA):Option (aG×(List aK)×(List aD)×(List ((Int)×aG))):=
  (A2 (kyI .i64) c x20.Id nP).bind fun b=>qI c x20 d e b.2 b.1.Err b.1.At b.1.Yes b.1.Epoch b.1.Results b.1.Store.Nodes b.1.Store.Turns b.1.Events b.1.Mounts b.1.Wounded
theorem L2{o f:Nat}{O P I J L M p q s t u x:Value}{c0:List aK}{c1:List aD}{y:List ((Int)×aG)}{x20:bA}(H:Sep w (Blk o 75 [p,q,s,t,O,P,.map (some f),u,x]::cB Tryz.prog 2 (kyI .i64) bI true f y::Fo) rs)(b7:rSl aX O c0 ∈ rs)(b8:rSl aO P c1 ∈ rs){r:aG×(List aK)×(List aD)×(List ((Int)×aG))}(hm:sU c0 c1 y x20=some r) :
    Calls Tryz.prog 37 [pt o 0,.agg (aR x20 I J L M).toArray,.func (.func 32) #[] #[]].toArray w (Ret fun v w'=>∃ f9 g0 g1 g2 g3 g4 g5 f3,.agg (bC r.1 f9 g0 g1 g2 g3 g4).toArray=v∧Sep w' (Blk o 75 [p,q,s,t,g5,f3,.map (some f),u,x]::cB Tryz.prog 2 (kyI .i64) bI true f r.2.2.2::Fo) (rSl bE f9 r.1.Results::rSl aF g0 r.1.Store.Nodes::rSl aJ g1 r.1.Store.Turns::rSl aV g2 r.1.Events::rSl bL g3 r.1.Mounts::rSl (kI .i64) g4 r.1.Wounded::rSl aX g5 r.2.1::rSl aO f3 r.2.2.1::rs)):=by
 unfold sU at hm
 refine ent Tryz.func37 rfl Tryz.ntmps37 rfl rfl fun a E=>sq<|bS E H (wn rfl) rfl rfl rfl rfl rfl fun l w a H E=>al E H rfl rfl rfl rfl gN fun z w a H E=>nt<|wp_seq<|aT (fun a w=>∃ c9 X Y Z b0 b1 b2 d0 b3 b4 b5 b6 d1 d2 d3 d4 d5 d6 g,Env 59 a [(0,pt o 0),(2,.func (.func 32) #[] #[]),(4,pt l 0),(6,pt z 0),(7,pt c9 0),(8,.bool d0)]∧Sep w (Blk o 75 [p,q,s,t,O,P,.map (some f),u,x]::Blk l 37 (aR x20 I J L M)::Blk z 48 bN::Blk c9 48 [.int .i64 b3,.int .i64 b4,.bool b5,.int .i64 b6,X,Y,Z,b0,b1,b2]::cB Tryz.prog 2 (kyI .i64) bI true f y::Fo) g∧(∀ r,r ∈ rs→r ∈ g)∧rSl bE X d1 ∈ g∧rSl aF Y d2 ∈ g∧rSl aJ Z d3 ∈ g∧rSl aV b0 d4 ∈ g∧rSl bL b1 d5 ∈ g∧rSl (kI .i64) b2 d6 ∈ g∧qI y x20 c0 c1 d0 b3 b4 b5 b6 d1 d2 d3 d4 d5 d6=some r) ?_ ?_
 ·refine bd hm fun i3 c2 hm=>?_
  have hI:dP [Blk l 37 (aR x20 I J L M),Blk o 75 [p,q,s,t,O,P,.map (some f),u,x]] [] { w with drawn:=w.drawn+1 }:=⟨_,_,H.kept (Kp.drawn _ w _),(aB mm1 (aB mm2 (aL))),(aM)⟩
  refine jY _ (.go 0 0 (.go 1 0 (.go 2 0 (.go 3 0 (.go 4 0 (.go 5 0 (.alt 6 (.go 7 0 (.go 8 0 (.go 9 0 (.go 10 1 (.go 11 1 (.go 12 2 .nil)))))) 10 (.go 6 1 (.go 7 0 (.go 8 0 (.go 9 0 (.go 11 1 (.go 12 2 .nil))))))))))))) [12] kG (by kernel_rfl) (fun _ _ _ h=>False.elim h.2) hI<|have H:=H.kept (Kp.drawn _ w (w.drawn+1));?_
  generalize ({ w with drawn:=w.drawn+1 }:World)=w at H hI ⊢
  replace hI:∃ W,dP [Blk l 37 (aR x20 I J L M),Blk o 75 [p,q,s,t,O,P,.map (some f),u,x]] [] W:=⟨_,hI⟩
  obtain ⟨W0,hI⟩:=hI
  refine aW E rfl (wn rfl) rfl rfl (fun w hW=>(bD E rfl rfl)) fun a E=>aW E rfl (wn rfl) rfl rfl (fun w hW=>(sF E rfl rfl)) fun a E=>aW E rfl (wn rfl) rfl rfl (fun w hW=>iY E rfl rfl (v:=pt o 6) (O6 _ _)) fun a E=>aW E rfl (wn rfl) rfl rfl (fun w hW=>eZ E rfl rfl (kD mm1 rfl U68 rfl w hW)) fun a E=>aW E rfl (wn rfl) rfl rfl (fun w hW=>iY E rfl rfl (v:=pt l 1) (O5 _ _)) fun a E=>aW E rfl (wn rfl) rfl rfl (fun w hW=>eZ E rfl rfl (kD m0 rfl U2 rfl w hW)) fun a E=>?_
  refine kM rfl rfl ?_ ?_
  ·refine lR (i:=3) (K:=(kyI .i64)) E H (wn rfl) rfl rfl rfl rfl rfl rfl (dX U2) U68 yV A4 c2 fun i4 a H E=>?_
   obtain ⟨i5,i6,i7,i8,i9,j0,rfl,h⟩:=jC H;clear H;have H:=h
   refine nt<|?_
   refine ⟨⟨_,_,H,(aB mm1 (aB mm2 (aL))),(aM)⟩,?_⟩
   refine aW E rfl (wn rfl) rfl rfl (fun w hW=>(bD E rfl rfl)) fun a E=>aW E rfl (wn rfl) rfl rfl (fun w hW=>(cX E rfl rfl rfl)) fun a E=>aW E rfl (wn rfl) rfl rfl (fun w hW=>(cX E rfl rfl rfl)) fun a E=>cJ rfl<|al E H rfl rfl rfl rfl gN fun j1 w a H E=>nt<|?_
   refine ⟨⟨_,_,H,(aB mm2 (aB mm3 (aL))),(aM)⟩,?_⟩
   refine cJ rfl<|aZ (i:=0) E H (wn rfl) rfl rfl rfl rfl rfl rfl bU rfl (bF H mm5 mm4 mm3 mm2 mm1 m0) fun w H=>nt<|?_
   refine ⟨⟨_,_,H,(aB mm2 (aB mm3 (aL))),(aM)⟩,?_⟩
   refine cP rfl<|pr 1 E rfl fun a E=>nt<|dW<|?_
   clear hI
   exact aC<|have H:=H.frs [4,1,2,3,4] rfl;X19 ⟨E.to rfl,H,(Y7 Y0),mm5,mm4,mm3,mm2,mm1,m0,hm⟩
  ·refine al E H rfl rfl rfl rfl gN fun j2 w a H E=>nt<|?_
   refine ⟨⟨_,_,H,(aB mm2 (aB mm3 (aL))),(aM)⟩,?_⟩
   refine cJ rfl<|lR (i:=4) (K:=(kyI .i64)) E H (wn rfl) rfl rfl rfl rfl rfl rfl (dX U2) U68 yV A4 c2 fun j3 a H E=>?_
   obtain ⟨j4,j5,j6,j7,j8,j9,rfl,h⟩:=jC H;clear H;have H:=h
   refine nt<|?_
   refine ⟨⟨_,_,H,(aB mm2 (aB mm3 (aL))),(aM)⟩,?_⟩
   refine aW E rfl (wn rfl) rfl rfl (fun w hW=>(bD E rfl rfl)) fun a E=>aW E rfl (wn rfl) rfl rfl (fun w hW=>(cX E rfl rfl rfl)) fun a E=>aW E rfl (wn rfl) rfl rfl (fun w hW=>(cX E rfl rfl rfl)) fun a E=>cJ rfl<|aZ (i:=0) E H (wn rfl) rfl rfl rfl rfl rfl rfl bU rfl (bF H mm5 mm4 mm3 mm2 mm1 m0) fun w H=>nt<|?_
   refine ⟨⟨_,_,H,(aB mm2 (aB mm3 (aL))),(aM)⟩,?_⟩
   refine cP rfl<|pr 1 E rfl fun a E=>nt<|dW<|?_
   clear hI
   exact aC<|have H:=H.frs [4,1,2,3,4] rfl;X19 ⟨E.to rfl,H,(Y7 Y0),mm5,mm4,mm3,mm2,mm1,m0,hm⟩
 ·clear E H hm
  rintro a w ⟨c9,X,Y,Z,b0,b1,b2,d0,b3,b4,b5,b6,d1,d2,d3,d4,d5,d6,g,E,H,N,d7,d8,d9,e0,e1,e2,hm⟩
  unfold qI at hm
  refine sq<|pr 1 E rfl fun a E=>nt<|wif E hm rfl (fun hm=>?_) fun hm=>?_
  ·refine sq<|sv E rfl rfl rfl (cA (i:=3) (us:=[.int .i64 b3,.int .i64 b4,.bool b5,.int .i64 b6,X,Y,Z,b0,b1,b2]) E H rfl rfl rfl rfl U48 rfl bU) fun a E=>aZ (i:=2) E H (wn rfl) rfl rfl rfl rfl rfl rfl bU rfl (bF H d7 d8 d9 e0 e1 e2) fun w H=>nt<|wp_ret<|aP<|dH E rfl (cV (i:=2) (us:=[.int .i64 b3,.int .i64 b4,.bool b5,.int .i64 b6,X,Y,Z,b0,b1,b2]) H rfl rfl rfl U48 rfl bU)<|have H:=H.drs [1,1,1];?_
   cases hm
   exact X8 ⟨rfl,H.reads (aA d7 (aA d8 (aA d9 (aA e0 (aA e1 (aA e2 (aA (N _ b7) (aA (N _ b8) (N)))))))))⟩
  ·refine wp_skip<|aC<|wp_seq<|aT (fun a w=>∃ e3 b9,Env 59 a [(0,pt o 0),(2,.func (.func 32) #[] #[]),(4,pt l 0),(6,pt z 0),(32,.bool e3)]∧Sep w (Blk o 75 [p,q,s,t,O,P,.map (some f),u,x]::Blk l 37 (aR x20 I J L M)::Blk z 48 bN::cB Tryz.prog 2 (kyI .i64) bI true f y::Fo) b9∧(∀ r,r ∈ rs→r ∈ b9)∧mN y x20 c0 c1 e3=some r) ?_ ?_
   ·refine wp_region_lit<|pr 1 E rfl fun a E=>lb E H 1 rfl rfl rfl rfl rfl rfl rfl U2 rfl fun a E=>pr 2 E rfl fun a E=>cs hm (fun k hm=>?_) fun k hm=>?_
    ·exact pk 3 E (kc 25 rfl k) rfl fun a E=>aQ E (ws' (d:=25) E rfl rfl rfl rfl k) rfl rfl (cD (i:=0) E H rfl rfl rfl rfl U68 rfl) fun a E=>aQ E (ws' (d:=25) E rfl rfl rfl rfl k) rfl rfl (r7 (i:=4) E H rfl rfl rfl U68) fun a E=>pk 2 E (kc 25 rfl k) rfl fun a E=>nt<|have H:=H.drop 3;⟨_,_,E.to rfl,H,N,hm⟩
    ·exact pk 7 E (kc 25 rfl k) rfl fun a E=>nt<|have H:=H.drop 3;⟨_,_,E.to rfl,H,N,hm⟩
   ·clear E H hm
    rintro a w ⟨e3,b9,E,H,j,hm⟩
    unfold mN at hm
    refine wif E hm rfl (fun hm=>?_) fun hm=>?_
    ·refine sq<|bd hm fun g6 f4 hm=>cG E rfl rfl rfl rfl rfl tM (dT H f4)<|?_
     rintro _ w ⟨g7,g8,g9,i0,i1,i2,rfl,H⟩ a E
     refine aZ (i:=2) E H (wn rfl) rfl rfl rfl rfl rfl rfl bU rfl (bF H m0 mm1 mm2 mm3 mm4 mm5) fun w H=>nt<|wp_ret<|aP<|dH E rfl (cV (i:=2) (us:=(bC g6 g7 g8 g9 i0 i1 i2)) H rfl rfl rfl U48 rfl bU)<|have H:=H.drs [1,1];?_
     cases hm
     exact X8 ⟨rfl,H.reads (aA m0 (aA mm1 (aA mm2 (aA mm3 (aA mm4 (aA mm5 (aA (t6 (j _ b7)) (aA (t6 (j _ b8)) (fun r hr=>(t6 (j r hr)))))))))))⟩
    ·refine wp_skip<|aC<|sq<|pr 2 E rfl fun a E=>sv E rfl rfl rfl (cA (i:=1) (us:=(aR x20 I J L M)) E H rfl rfl rfl rfl U37 rfl s7) fun a E=>bd hm fun b f5 hm=>aU E (wn rfl) rfl rfl (bP E rfl rfl rfl (Zm _)) (N1 H (j _ b7) (j _ b8) f5)<|?_
     rintro _ w ⟨A,B,C,D,F,G,c3,c4,rfl,H⟩ a E
     refine al E H rfl rfl rfl rfl gN fun c5 w a H E=>aZ (i:=0) E H (wn rfl) rfl rfl rfl rfl rfl rfl bU rfl (bF H m0 mm1 mm2 mm3 mm4 mm5) fun w H=>nt<|aT (fun a w=>∃ e4 e,Env 59 a [(6,pt z 0),(9,pt c5 0)]∧Sep w (Blk z 48 bN::Blk c5 48 (bC b.1 A B C D F G)::Blk o 75 [p,q,s,t,c3,c4,.map (some f),u,x]::cB Tryz.prog 2 (kyI .i64) bI true f e4::Fo) e∧(∀ r,r ∈ rs→r ∈ e)∧rSl bE A b.1.Results ∈ e∧rSl aF B b.1.Store.Nodes ∈ e∧rSl aJ C b.1.Store.Turns ∈ e∧rSl aV D b.1.Events ∈ e∧rSl bL F b.1.Mounts ∈ e∧rSl (kI .i64) G b.1.Wounded ∈ e∧rSl aX c3 b.2.1 ∈ e∧rSl aO c4 b.2.2 ∈ e∧mM b e4=some r) ?_ ?_
     ·refine aT (fun a w=>∃ e5 c,Env 59 a [(0,pt o 0),(4,pt l 0),(6,pt z 0),(9,pt c5 0),(50,.bool e5)]∧Sep w (Blk o 75 [p,q,s,t,c3,c4,.map (some f),u,x]::Blk l 37 (aR x20 I J L M)::Blk z 48 bN::Blk c5 48 (bC b.1 A B C D F G)::cB Tryz.prog 2 (kyI .i64) bI true f y::Fo) c∧(∀ r,r ∈ rs→r ∈ c)∧rSl aX c3 b.2.1 ∈ c∧rSl aO c4 b.2.2 ∈ c∧rSl bE A b.1.Results ∈ c∧rSl aF B b.1.Store.Nodes ∈ c∧rSl aJ C b.1.Store.Turns ∈ c∧rSl aV D b.1.Events ∈ c∧rSl bL F b.1.Mounts ∈ c∧rSl (kI .i64) G b.1.Wounded ∈ c∧jW b y x20 e5=some r) ?_ ?_
      ·refine wp_region_lit<|pr 1 E rfl fun a E=>lb E H 2 rfl rfl rfl rfl rfl rfl rfl U2 rfl fun a E=>pr 2 E rfl fun a E=>cs hm (fun m hm=>?_) fun m hm=>?_
       ·refine pk 1 E (kc 41 rfl m) rfl fun a E=>aQ E (ws' (d:=41) E rfl rfl rfl rfl m) rfl rfl (cD (i:=0) E H rfl rfl rfl rfl U41 rfl) fun a E=>pk 3 E (kc 41 rfl m) rfl fun a E=>cs hm (fun n hm=>?_) fun n hm=>?_
        ·exact pk 1 E (kc 46 rfl n) rfl fun a E=>aQ E (ws' (d:=46) E rfl rfl rfl rfl n) rfl rfl (cD (i:=0) E H rfl rfl rfl rfl U41 rfl) fun a E=>pk 2 E (kc 46 rfl n) rfl fun a E=>nt<|have H:=H.frs [4,1,4,4,4] rfl;⟨_,_,E.to rfl,H,(Y8 j),mm6,(t1 mm6),m0,mm1,mm2,mm3,mm4,mm5,hm⟩
        ·exact pk 4 E (kc 46 rfl n) rfl fun a E=>nt<|have H:=H.frs [4,1,4,4,4] rfl;⟨_,_,E.to rfl,H,(Y8 j),mm6,(t1 mm6),m0,mm1,mm2,mm3,mm4,mm5,hm⟩
       ·exact pk 9 E (kc 41 rfl m) rfl fun a E=>nt<|have H:=H.frs [4,1,4,4,4] rfl;⟨_,_,E.to rfl,H,(Y8 j),mm6,(t1 mm6),m0,mm1,mm2,mm3,mm4,mm5,hm⟩
      ·clear E H hm
       rintro a w ⟨e5,c,E,H,c6,c7,c8,Q,R,S,T,U,V,hm⟩
       unfold jW at hm
       refine wif E hm rfl (fun hm=>?_) fun hm=>?_
       ·refine dw [(0,0),(1,0),(2,0),(3,0),(4,0),(5,0),(6,0),(7,2)] [0,1,3] [] H (by kernel_rfl) (fun _ _ _ h=>False.elim h.2) fun w W0 hI H=>fn 3 E rfl fun a E=>fb E rfl (wn rfl) rfl rfl rfl rfl m0 rfl U68 rfl fun a E=>fn 1 E rfl fun a E=>fb E rfl (wn rfl) rfl rfl rfl rfl mm1 rfl U2 rfl fun a E=>fbn E (bC b.1 A B C D F G) rfl (wn rfl) rfl rfl rfl rfl mm2 rfl U48 rfl bU fun a E=>bQ rfl<|bd hm fun k0 f2 hm=>zR (i:=4) (K:=(kyI .i64)) (v:=b.1) (cs:=[.int .i64 b.1.Err,.int .i64 b.1.At,.bool b.1.Yes,.int .i64 b.1.Epoch,A,B,C,D,F,G]) E H (wn rfl) rfl rfl rfl rfl rfl rfl (dX U2) U68 f2 (fun ok hr=>(lS (hr _ Q) (hr _ R) (hr _ S) (hr _ T) (hr _ U) (hr _ V))) fun w H=>?_
        refine nt<|bR<|?_
        clear hI
        exact aC<|have H:=H.drop 1;have H:=H.frs [3,1,3,3] rfl;⟨_,_,E.to rfl,H,c6,Q,R,S,T,U,V,c7,c8,hm⟩
       ·exact wp_skip<|aC<|have H:=H.drop 1;have H:=H.frs [3,1,3,3] rfl;⟨_,_,E.to rfl,H,c6,Q,R,S,T,U,V,c7,c8,hm⟩
     ·clear E H hm
      rintro a w ⟨e4,e,E,H,f6,e6,e7,e8,e9,f0,f1,f7,f8,hm⟩
      unfold mM at hm
      refine sq<|sv E rfl rfl rfl (cA (i:=1) (us:=(bC b.1 A B C D F G)) E H rfl rfl rfl rfl U48 rfl bU) fun a E=>aZ (i:=0) E H (wn rfl) rfl rfl rfl rfl rfl rfl bU rfl (bF H e6 e7 e8 e9 f0 f1) fun w H=>nt<|wp_ret<|dH E rfl (cV (i:=0) (us:=(bC b.1 A B C D F G)) H rfl rfl rfl U48 rfl bU)<|have H:=H.drs [0,0];?_
      cases hm
      exact X8 ⟨rfl,H.reads (aA e6 (aA e7 (aA e8 (aA e9 (aA f0 (aA f1 (aA f7 (aA f8 (f6)))))))))⟩

def uM(c:List cF):Nat→(List ByteArray)→Int→Option (List ByteArray)
  | 0,_,_=>none
  | f+1,b,d=>
    if (decide (d < (c.length:Int)))=true then ((idx c d).bind fun e=>(ck (b.length+([e.Part.Dir]:List ByteArray).length ≤ LIM)).bind fun g=>uM c f (b ++ ([e.Part.Dir]:List ByteArray)) (IntKind.i64.wrap (d+1))) else ((ck (b.length ≤ 1000000)).bind fun i=>(ck ((y5 b).length ≤ 1000000)).bind fun j=>some (wF (y5 b)))
def zH(b:List cF):Option (List ByteArray):=
  uM b (((b.length:Int) - 0:Int).toNat+1) [] 0
theorem Q6{l:Value}{c:List cF}(H:Sep w (Fo) rs)(k:rSl cE l c ∈ rs){r:(List ByteArray)}(hm:zH c=some r) :
    Calls Tryz.prog 65 [l].toArray w (Ret fun v w'=>∃ u,u=v∧Sep w' (Row 9 kS u r::Fo) (rs)):=by
 unfold zH at hm
 refine ent Tryz.func65 rfl Tryz.ntmps65 rfl rfl fun a E=>sq<|pr 1 E rfl fun a E=>nx<|pr 1 E rfl fun a E=>nt<|wp_seq<|sq<|pr 1 E rfl fun a E=>?_
 refine sv E rfl rfl rfl (cR E H rfl rfl k U26) fun a E=>pr 1 E rfl fun a E=>nt<|wp_block<|bX (fun b a w=>∃ m n o f,Env 23 a [(3,m),(6,l),(7,.int .i64 (c.length:Int)),(8,.int .i64 o)]∧Sep w (Row 9 kS m n::Fo) f∧(∀ r,r ∈ rs→r ∈ f)∧uM c b n o=some r) (((c.length:Int) - 0:Int).toNat+1) ?_ ?_
 ·exact have H:=H.nilRow 9 kS;X4 ⟨E.to rfl,H,Y0,hm⟩
 ·clear E H hm
  rintro b a w ⟨m,n,o,f,E,H,g,hm⟩
  cases b with
  | zero=>exact (bT hm rfl).elim
  | succ b=>
   unfold uM at hm
   refine sq<|pr 1 E rfl fun a E=>nt<|wp_seq<|wif E hm rfl (fun hm=>?_) fun hm=>?_
   ·refine wp_skip<|aC<|wp_seq<|wp_block<|sq<|bd hm fun j p hm=>dE E H (wn rfl) rfl rfl rfl rfl rfl (g _ k) U26 s8 p fun q11 a H E=>ldf sJ E H rfl rfl rfl rfl rfl m0 U87 rfl s8 fun a E=>al E H rfl rfl rfl rfl Ig fun y w a H E=>?_
    refine aZ (i:=0) E H (wn rfl) rfl rfl rfl rfl rfl rfl s8 rfl rfl fun w H=>nt<|wp_region_lit<|pr 3 E rfl fun a E=>lb E H 0 rfl rfl rfl rfl rfl rfl rfl U9 rfl fun a E=>pI (e:=9) (d:=kS) (cs:=[.string j.Part.Dir]) (xs:=[j.Part.Dir]) E H (wn rfl) rfl rfl rfl (E.evs rfl) (by kernel_rfl) rfl (fun ok hr=>(Rows.single (d:=kS) (cs:=[.string j.Part.Dir]) (x:=j.Part.Dir) rfl)) fun z w a H E=>bk hm fun q hm=>dV (i:=1) E H (wn rfl) rfl rfl rfl rfl rfl rfl (jA m0) U33 Ia rfl q rfl fun A w a H E=>pr 1 E rfl fun a E=>?_
    exact wpList_nil<|bY<|aC<|wp_region_lit<|pr 2 E rfl fun a E=>nt<|have H:=H.drop 0;⟨b,Nat.lt_succ_self b,X4 ⟨E.to rfl,H,(Y2 g),hm⟩⟩
   ·refine wp_exit<|bH<|bH<|dG<|aC<|sq<|pr 1 E rfl fun a E=>bk hm fun s hm=>cG E rfl rfl rfl rfl rfl Wb (Ph (ix:=0) H rfl s)<|?_
    rintro _ w ⟨rfl,H⟩ a E
    refine nx<|pr 1 E rfl fun a E=>bk hm fun t hm=>aU E (wn rfl) rfl rfl (cC E rfl rfl (Wc _)) (Pi (ix:=0) H rfl t) fun B w H a E=>pr 1 E rfl fun a E=>nt<|wp_ret<|aY E rfl rfl<|?_
    cases hm
    exact ⟨_,rfl,H.reads g⟩

def w7(b:List aH)(d:ByteArray):Option Int:=
  (oU b d).bind fun c=>if (decide (c ≥ 0))=true then ((idx b c).bind fun e=>some (e.State)) else (some (3))
theorem Dq{c:Value}{d:List aH}{e:ByteArray}(H:Sep w (Fo) rs)(b:rSl aS c d ∈ rs){r:Int}(hm:w7 d e=some r) :
    Calls Tryz.prog 124 [c,.string e].toArray w (Ret fun v w'=>.int .i64 r=v∧Sep w' (Fo) (rs)):=by
 unfold w7 at hm
 refine ent Tryz.func124 rfl Tryz.ntmps124 rfl rfl fun a E=>sq<|pr 1 E rfl fun a E=>nt<|wp_seq<|sq<|pr 2 E rfl fun a E=>bd hm fun j f hm=>xk E rfl rfl rfl rfl rfl Aa (sK H b f) fun w H a E=>?_
 refine pr 1 E rfl fun a E=>nx<|pr 2 E rfl fun a E=>nt<|wif E hm rfl (fun hm=>?_) fun hm=>?_
 ·refine sq<|pr 2 E rfl fun a E=>bd hm fun i g hm=>dE E H (wn rfl) rfl rfl rfl rfl rfl b U32 gL g fun q9 a H E=>have H:=H.derive1 m0 (rAt (kI .i64) (q9.add 2) i.State) (fun ok h=>yT h);pr 1 E rfl fun a E=>sv E rfl rfl rfl (nT E H rfl rfl m0 U3 rfl) fun a E=>pr 1 E rfl fun a E=>nt<|?_
  refine wp_ret<|aP<|aY E rfl rfl<|?_
  cases hm
  exact ⟨rfl,H.reads (Y2 Y0)⟩
 ·refine wp_skip<|aC<|sq<|pr 1 E rfl fun a E=>nt<|wp_ret<|aY E rfl rfl<|?_
  cases hm
  exact ⟨rfl,H.reads Y0⟩

def qJ(d:ByteArray)(e:List aH)(b:Int):Option Bool:=
  (w7 e d).bind fun c=>some (c == b)
theorem C6{s:ByteArray}{n d b:Nat}{o e f g i j k l m:Value}{t:List aH}{c:Int}(H:Sep w (Blk n 28 [pt d 0]::Blk d 75 [e,f,o,g,i,j,k,l,m]::Blk b 3 [.int .i64 c]::Fo) rs)(p:rSl aS o t ∈ rs){r:Bool}(hm:qJ s t c=some r) :
    Calls Tryz.prog 123 [.string s,pt n 0,pt b 0].toArray w (Ret fun v w'=>.bool r=v∧Sep w' (Blk n 28 [pt d 0]::Blk d 75 [e,f,o,g,i,j,k,l,m]::Blk b 3 [.int .i64 c]::Fo) (rs)):=by
 unfold qJ at hm
 refine ent Tryz.func123 rfl Tryz.ntmps123 rfl rfl fun a E=>sq<|pr 1 E rfl fun a E=>nt<|wp_seq<|dw [(0,0),(1,0),(2,0),(3,0),(4,0),(6,0),(5,1),(7,0),(8,2)] [0,1,2] [] H (by kernel_rfl) (fun _ _ _ h=>False.elim h.2) fun w W0 hI H=>fb E rfl (wn rfl) rfl rfl rfl rfl m0 rfl U28 rfl fun a E=>fn 2 E rfl fun a E=>fb E rfl (wn rfl) rfl rfl rfl rfl mm1 rfl U32 rfl fun a E=>?_
 refine fn 1 E rfl fun a E=>fb E rfl (wn rfl) rfl rfl rfl rfl mm2 rfl U3 rfl fun a E=>bZ rfl<|bd hm fun u q hm=>xk E rfl rfl rfl rfl rfl Wf (Dq H p q) fun w H a E=>nt<|?_
 refine ⟨⟨_,_,H,(aB m0 (aB mm1 (aB mm2 (aL)))),(aM)⟩,?_⟩
 refine fn 1 E rfl fun a E=>bQ rfl<|pr 1 E rfl fun a E=>nt<|bR<|?_
 clear hI
 refine aC<|wp_ret<|aY E rfl rfl<|?_
 cases hm
 exact ⟨rfl,H.reads Y0⟩

def fR(e:List ByteArray)(c:List aH)(d:Int):Nat→Int→Option Int
  | 0,_=>none
  | i+1,b=>
    if (decide (b < (e.length:Int)))=true then ((idx e b).bind fun f=>(qJ f c d).bind fun g=>if g=true then (some (b)) else (fR e c d i (IntKind.i64.wrap (b+1)))) else (some ((-1)))
def kA(b:List ByteArray)(c:List aH)(d:Int):Option Int:=
  fR b c d (((b.length:Int) - 0:Int).toNat+1) 0
theorem wW{z y i j k l m n o p:Value}{q:List ByteArray}{s f c:Nat}{t:List aH}{d:Int}(H:Sep w (Blk s 28 [pt f 0]::Blk f 75 [i,j,y,k,l,m,n,o,p]::Blk c 3 [.int .i64 d]::Fo) rs)(u:rSl kS z q ∈ rs)(A:rSl aS y t ∈ rs){r:Int}(hm:kA q t d=some r) :
    Calls Tryz.prog 119 [z,.func (.func 123) #[] #[pt s 0,pt c 0]].toArray w (Ret fun v w'=>.int .i64 r=v∧Sep w' (Blk s 28 [pt f 0]::Blk f 75 [i,j,y,k,l,m,n,o,p]::Blk c 3 [.int .i64 d]::Fo) (rs)):=by
 unfold kA at hm
 refine ent Tryz.func119 rfl Tryz.ntmps119 rfl rfl fun a E=>sq<|pr 1 E rfl fun a E=>nt<|wp_seq<|sq<|pr 1 E rfl fun a E=>sv E rfl rfl rfl (cR E H rfl rfl u U33) fun a E=>pr 1 E rfl fun a E=>?_
 refine nt<|wp_block<|bX (fun g a w=>∃ x e,Env 19 a [(0,z),(1,.func (.func 123) #[] #[pt s 0,pt c 0]),(7,.int .i64 (q.length:Int)),(8,.int .i64 x)]∧Sep w (Blk s 28 [pt f 0]::Blk c 3 [.int .i64 d]::Blk f 75 [i,j,y,k,l,m,n,o,p]::Fo) e∧(∀ r,r ∈ rs→r ∈ e)∧fR q t d g x=some r) (((q.length:Int) - 0:Int).toNat+1) ?_ ?_
 ·exact have H:=H.frs [1,2,2] rfl;⟨_,_,E.to rfl,H,Y0,hm⟩
 ·clear E H hm
  rintro g a w ⟨x,e,E,H,b,hm⟩
  cases g with
  | zero=>exact (bT hm rfl).elim
  | succ g=>
   unfold fR at hm
   refine sq<|pr 1 E rfl fun a E=>nt<|wp_seq<|wif E hm rfl (fun hm=>?_) fun hm=>?_
   ·refine wp_skip<|aC<|wp_seq<|wp_block<|sq<|pr 2 E rfl fun a E=>nx<|pr 3 E rfl fun a E=>bd hm fun D B hm=>?_
    refine dE E H (wn rfl) rfl rfl rfl rfl rfl (b _ u) U33 sz9 B fun q40 a H E=>sv E rfl rfl rfl (nT E H rfl rfl m0 U9 rfl) fun a E=>have H:=H.frs [1,2,2] rfl;bd hm fun F C hm=>aU E (wn rfl) rfl rfl (bP E rfl rfl rfl (We _)) (C6 H (t1 (b _ A)) C)<|?_
    rintro _ w ⟨rfl,H⟩ a E
    refine nt<|wif E hm rfl (fun hm=>?_) fun hm=>?_
    ·refine sq<|pr 2 E rfl fun a E=>nt<|wp_ret<|bV<|aP<|aP<|bV<|aP<|?_
     refine aY E rfl rfl<|?_
     cases hm
     exact ⟨rfl,H.reads (Y1 b)⟩
    ·exact wp_skip<|bY<|aC<|wp_region_lit<|pr 2 E rfl fun a E=>nt<|have H:=H.frs [1,2,2] rfl;⟨g,Nat.lt_succ_self g,_,_,E.to rfl,H,(Y1 b),hm⟩
   ·refine wp_exit<|bH<|bH<|dG<|aC<|sq<|pr 1 E rfl fun a E=>nt<|wp_ret<|?_
    refine aY E rfl rfl<|have H:=H.frs [1,2,2] rfl;?_
    cases hm
    exact ⟨rfl,H.reads b⟩

def iV(e:List ByteArray)(b:List aH)(c:Int):Option Bool:=
  (kA e b c).bind fun d=>some (decide (d ≥ 0))
theorem uR{u o e f g i j k l m:Value}{x:List ByteArray}{p d b:Nat}{n:List aH}{c:Int}(H:Sep w (Blk p 28 [pt d 0]::Blk d 75 [e,f,o,g,i,j,k,l,m]::Blk b 3 [.int .i64 c]::Fo) rs)(q:rSl kS u x ∈ rs)(s:rSl aS o n ∈ rs){r:Bool}(hm:iV x n c=some r) :
    Calls Tryz.prog 66 [u,.func (.func 123) #[] #[pt p 0,pt b 0]].toArray w (Ret fun v w'=>.bool r=v∧Sep w' (Blk p 28 [pt d 0]::Blk d 75 [e,f,o,g,i,j,k,l,m]::Blk b 3 [.int .i64 c]::Fo) (rs)):=by
 unfold iV at hm
 refine ent Tryz.func66 rfl Tryz.ntmps66 rfl rfl fun a E=>sq<|pr 1 E rfl fun a E=>nx<|pr 2 E rfl fun a E=>bd hm fun y t hm=>xk E rfl rfl rfl rfl rfl Iq (wW H q s t) fun w H a E=>pr 2 E rfl fun a E=>nt<|?_
 refine wp_ret<|aY E rfl rfl<|?_
 cases hm
 exact ⟨rfl,H.reads Y0⟩

def oH(x1:Int)(d:List ByteArray)(b:List aH):Option Bool:=
  (iV d b x1).bind fun c=>some (c)
theorem yJ{x1:Int}{n o c:Nat}{p b d e f g i j k l:Value}{u:List ByteArray}{m:List aH}(H:Sep w (Blk n 33 [p]::Blk o 28 [pt c 0]::Blk c 75 [d,e,b,f,g,i,j,k,l]::Fo) rs)(q:rSl kS p u ∈ rs)(s:rSl aS b m ∈ rs){r:Bool}(hm:oH x1 u m=some r) :
    Calls Tryz.prog 122 [.int .i64 x1,pt n 0,pt o 0].toArray w (Ret fun v w'=>.bool r=v∧Sep w' (Blk n 33 [p]::Blk o 28 [pt c 0]::Blk c 75 [d,e,b,f,g,i,j,k,l]::Fo) (rs)):=by
 unfold oH at hm
 refine ent Tryz.func122 rfl Tryz.ntmps122 rfl rfl fun a E=>sq<|bS E H (wn rfl) rfl rfl rfl rfl rfl fun x w a H E=>pr 1 E rfl fun a E=>nx<|lb E H 1 rfl rfl rfl rfl rfl rfl rfl U33 rfl fun a E=>sv E rfl rfl rfl (iP E rfl rfl rfl) fun a E=>have H:=H.frs [1,1,3,3] rfl;bd hm fun y t hm=>?_
 refine xk E rfl rfl rfl rfl rfl Ls (uR H q s t) fun w H a E=>pr 1 E rfl fun a E=>nt<|wp_ret<|aY E rfl rfl<|have H:=H.drop 2;have H:=H.frs [1,1,2] rfl;?_
 cases hm
 exact ⟨rfl,H.reads Y0⟩

def pZ(c:List aH)(b:List ByteArray):Option Int:=
  (oH 3 b c).bind fun d=>if d=true then (some (132)) else ((oH 2 b c).bind fun e=>if e=true then (some (131)) else (some (0)))
theorem zN{o:Nat}{p d e f g i j k l m:Value}{t:List aH}{n:List ByteArray}(H:Sep w (Blk o 75 [e,f,p,g,i,j,k,l,m]::Fo) rs)(c:rSl aS p t ∈ rs)(b:rSl kS d n ∈ rs){r:Int}(hm:pZ t n=some r) :
    Calls Tryz.prog 69 [pt o 0,d].toArray w (Ret fun v w'=>.int .i64 r=v∧Sep w' (Blk o 75 [e,f,p,g,i,j,k,l,m]::Fo) (rs)):=by
 unfold pZ at hm
 refine ent Tryz.func69 rfl Tryz.ntmps69 rfl rfl fun a E=>sq<|bS E H (wn rfl) rfl rfl rfl rfl rfl fun u w a H E=>?_
 obtain ⟨q34,x,rfl⟩:=H.slform b
 refine bS E H (wn rfl) rfl rfl rfl rfl rfl fun y w a H E=>pr 1 E rfl fun a E=>nx<|sv E rfl rfl rfl (iP E rfl rfl rfl) fun a E=>pr 1 E rfl fun a E=>nt<|wp_seq<|wp_block<|sq<|?_
 refine pr 1 E rfl fun a E=>bd hm fun z q hm=>aU E (wn rfl) rfl rfl (bP E rfl rfl rfl (Mv _)) (yJ H b c q)<|?_
 rintro _ w ⟨rfl,H⟩ a E
 refine pr 1 E rfl fun a E=>nt<|wif E hm rfl (fun hm=>?_) fun hm=>?_
 ·refine sq<|pr 1 E rfl fun a E=>nt<|wp_ret<|bV<|aP<|aY E rfl rfl<|have H:=H.drs [0,0];?_
  cases hm
  exact ⟨rfl,H.reads Y0⟩
 ·refine sq<|pr 1 E rfl fun a E=>bd hm fun A s hm=>aU E (wn rfl) rfl rfl (bP E rfl rfl rfl (Mv _)) (yJ H b c s)<|?_
  rintro _ w ⟨rfl,H⟩ a E
  refine pr 1 E rfl fun a E=>nt<|wif E hm rfl (fun hm=>?_) fun hm=>?_
  ·refine sq<|pr 1 E rfl fun a E=>nt<|wp_ret<|bV<|aP<|aY E rfl rfl<|have H:=H.drs [0,0];?_
   cases hm
   exact ⟨rfl,H.reads Y0⟩
  ·refine wp_skip<|bY<|aC<|sq<|pr 1 E rfl fun a E=>nt<|wp_ret<|aY E rfl rfl<|have H:=H.drs [0,0];?_
   cases hm
   exact ⟨rfl,H.reads Y0⟩

def a7(x1:aN)(b:ByteArray):Option Bool:=
  some (sEq x1.Dir b)
theorem Cs{x1:aN}{b:Nat}{c:ByteArray}(H:Sep w (Blk b 9 [.string c]::Fo) rs){r:Bool}(hm:a7 x1 c=some r) :
    Calls Tryz.prog 121 [.agg (nG x1).toArray,pt b 0].toArray w (Ret fun v w'=>.bool r=v∧Sep w' (Blk b 9 [.string c]::Fo) (rs)):=by
 unfold a7 at hm
 refine ent Tryz.func121 rfl Tryz.ntmps121 rfl rfl fun a E=>sq<|bS E H (wn rfl) rfl rfl rfl rfl rfl fun d w a H E=>pr 1 E rfl fun a E=>nx<|pr 1 E rfl fun a E=>lb E H 0 rfl rfl rfl rfl rfl rfl rfl U9 rfl fun a E=>lb E H 1 rfl rfl rfl rfl rfl rfl rfl U9 rfl fun a E=>pr 2 E rfl fun a E=>?_
 refine nt<|wp_ret<|aY E rfl rfl<|have H:=H.drop 0;?_
 cases hm
 exact ⟨rfl,H.reads Y0⟩

end Go.Cb
