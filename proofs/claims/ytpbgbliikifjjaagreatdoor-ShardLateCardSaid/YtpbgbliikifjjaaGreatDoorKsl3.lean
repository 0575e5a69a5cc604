/- Functions of the program, walked: each comes to its plain function. -/
import Derived.Test.YtpbgbliikifjjaaGreatDoorKsl2
import Derived.Test.YtpbgbliikifjjaaGreatDoorExsl
import Derived.Test.YtpbgbliikifjjaaGreatDoorS1sl
import Derived.Test.YtpbgbliikifjjaaGreatDoorSssl
import Derived.Test.YtpbgbliikifjjaaGreatDoorStsl
set_option linter.unusedVariables false
set_option linter.unusedSimpArgs false
set_option maxRecDepth 20000
set_option maxHeartbeats 1000000
namespace Go.Cb
open Go.Proofs Go.RowKit
variable {w:World} {Fo:List Ob} {rs:List Rp}

def lV(b:(List aN))(c:List ((Int)×bQ))(d:(List aF))(e:(List aJ))(f:(List aK))(g:(List aD)):Option (aH×(List aF)×(List aJ)×(List aN)×(List aK)×(List aD)×(List ((Int)×bQ))):=
  some ((⟨0,0,false,0,[],(⟨[],[]⟩:aR),[],[],[]⟩:aH),d,e,b,f,g,c)
def jG(c:(List aN))(d:List ((Int)×bQ))(i:List aF)(j:List aJ)(e:List aK)(f:List aD)(k:(List cE))(g:Bool):Option (aH×(List aF)×(List aJ)×(List aN)×(List aK)×(List aD)×(List ((Int)×bQ))):=
  if g=true then ((oS i j e f k).bind fun b=>lV c d b.2.1 b.2.2.1 b.2.2.2.1 b.2.2.2.2) else (lV c d i j e f)
def gV(g:List aF)(i:List aJ)(b:List aK)(c:List aD)(j:(List cE))(k:List aN)(d:List ((Int)×bQ))(l:Bool)(x20:aU)(m:Bool)(n:Bool):Option (aH×(List aF)×(List aJ)×(List aN)×(List aK)×(List aD)×(List ((Int)×bQ))):=
  if n=true then ((dZ 2).bind fun o=>some (o,g,i,k,b,c,d)) else (if l=true then (some ((⟨0,0,false,0,[],(⟨[],[]⟩:aR),[],[],[]⟩:aH),g,i,k,b,c,d)) else ((mpt (kyI .i64) d x20.Txn (⟨true,[],(⟨0,0,false,0,[],(⟨[],[]⟩:aR),[],[],[]⟩:aH)⟩:bQ)).bind fun e=>(vG k x20.Txn).bind fun f=>if x20.Yes=true then (jG f e g i b c j m) else (jG f e g i b c j false)))
def gW(i:List aF)(j:List aJ)(c:List aK)(d:List aD)(e:(List cE))(k:List aN)(b:List ((Int)×bQ))(f:Bool)(x20:aU)(g:Bool)(l:Bool)(m:Bool):Option (aH×(List aF)×(List aJ)×(List aN)×(List aK)×(List aD)×(List ((Int)×bQ))):=
  if m=true then ((dZ 62).bind fun n=>some (n,i,j,k,c,d,b)) else (if (!l)=true then (gV i j c d e k b f x20 g ((b.length:Int) == 128)) else (gV i j c d e k b f x20 g false))
def jH(j:List aF)(k:List aJ)(c:List aK)(d:List aD)(l:List aN)(e:List ((Int)×bQ))(x20:aU)(b:Bool)(f:Bool)(g:(List cE))(m:Int)(n:Int)(i:Bool)(o:Int)(p:(List cP))(q:(List aF))(s:(List aJ))(t:(List bL))(u:(List oC))(v:(List Int)):Option (aH×(List aF)×(List aJ)×(List aN)×(List aK)×(List aD)×(List ((Int)×bQ))):=
  if (!b)=true then (gW j k c d g l e f x20 i b x20.Yes) else (gW j k c d g l e f x20 i b false)
def jO(f:List aF)(g:List aJ)(i:List aN)(d:List aK)(e:List aD)(c:List ((Int)×bQ))(x20:aU):Option (aH×(List aF)×(List aJ)×(List aN)×(List aK)×(List aD)×(List ((Int)×bQ))):=
  (y4 (kyI .i64) c x20.Txn N1).bind fun b=>jH f g d e i c x20 b.2 b.1.over_ b.1.pieces_ b.1.a_.Err b.1.a_.At b.1.a_.Yes b.1.a_.Epoch b.1.a_.Results b.1.a_.Store.Nodes b.1.a_.Store.Turns b.1.a_.Events b.1.a_.Mounts b.1.a_.Wounded
theorem T4{m e:Nat}{b2 b3 c1 z A M N O P n o p:Value}{d2:List aF}{d3:List aJ}{d4:List aN}{Q:List aK}{R:List aD}{B:List ((Int)×bQ)}{x20:aU}(H:Sep w (Blk m 75 [b2,b3,n,c1,z,A,o,.map (some e),p]::cG Tryz.prog 2 (kyI .i64) dB true e B::Fo) rs)(G:rSl aE b2 d2 ∈ rs)(I:rSl aI b3 d3 ∈ rs)(V:rSl bH c1 d4 ∈ rs)(J:rSl bB z Q ∈ rs)(L:rSl aO A R ∈ rs)(g0:u7 Tryz.prog ∈ rs){r:aH×(List aF)×(List aJ)×(List aN)×(List aK)×(List aD)×(List ((Int)×bQ))}(hm:jO d2 d3 d4 Q R B x20=some r) :
    Calls Tryz.prog 27 [pt m 0,.agg (aS x20 M N O P).toArray].toArray w (Ret fun v w'=>∃ g9 i0 i1 i2 i3 i4 i5 f0 f1 f2 f3,.agg (bC r.1 g9 i0 i1 i2 i3 i4).toArray=v∧Sep w' (Blk m 75 [i5,f0,n,f1,f2,f3,o,.map (some e),p]::cG Tryz.prog 2 (kyI .i64) dB true e r.2.2.2.2.2.2::Fo) (rSl bF g9 r.1.Results::rSl aE i0 r.1.Store.Nodes::rSl aI i1 r.1.Store.Turns::rSl aX i2 r.1.Events::rSl bM i3 r.1.Mounts::rSl (kI .i64) i4 r.1.Wounded::rSl aE i5 r.2.1::rSl aI f0 r.2.2.1::rSl bH f1 r.2.2.2.1::rSl bB f2 r.2.2.2.2.1::rSl aO f3 r.2.2.2.2.2.1::rs)):=by
 unfold jO at hm
 refine ent Tryz.func27 rfl Tryz.ntmps27 rfl rfl fun a E=>sq<|bS E H (wn rfl) rfl rfl rfl rfl rfl fun q w a H E=>al E H rfl rfl rfl rfl gO fun l w a H E=>nt<|aV (fun a w=>∃ s t b4 b5 b6 b7 b8 b9 c0 C u S T D U f4 f5 f6 f7 f8 f9 X,Env 70 a [(0,pt m 0),(3,pt q 0),(4,pt l 0),(5,pt s 0),(6,.bool c0)]∧Sep w (Blk m 75 [b2,b3,n,c1,z,A,o,.map (some e),p]::Blk q 37 (aS x20 M N O P)::Blk l 48 bN::Blk s 128 [.bool C,t,.int .i64 S,.int .i64 T,.bool D,.int .i64 U,b4,b5,b6,b7,b8,b9]::cG Tryz.prog 2 (kyI .i64) dB true e B::Fo) X∧(∀ r,r ∈ rs→r ∈ X)∧rSl cA t u ∈ X∧jH d2 d3 Q R d4 B x20 c0 C u S T D U f4 f5 f6 f7 f8 f9=some r) ?_ ?_
 ·refine bd hm fun j4 d1 hm=>?_
  have hI:eD [Blk q 37 (aS x20 M N O P),Blk m 75 [b2,b3,n,c1,z,A,o,.map (some e),p]] [] { w with drawn:=w.drawn+1 }:=⟨_,_,H.kept (Kp.drawn _ w _),(aB mm1 (aB mm2 (aL))),(aM)⟩
  refine mA _ (.go 0 0 (.go 1 0 (.go 2 0 (.go 3 0 (.go 4 0 (.go 5 0 (.alt 6 (.go 7 0 (.go 8 0 (.go 9 0 (.go 10 1 (.go 11 1 (.go 12 2 .nil)))))) 10 (.go 6 1 (.go 7 0 (.go 8 0 (.go 9 0 (.go 11 1 (.go 12 2 .nil))))))))))))) [12] mH (by kernel_rfl) (fun _ _ _ h=>False.elim h.2) hI<|have H:=H.kept (Kp.drawn _ w (w.drawn+1));?_
  generalize ({ w with drawn:=w.drawn+1 }:World)=w at H hI ⊢
  replace hI:∃ W,eD [Blk q 37 (aS x20 M N O P),Blk m 75 [b2,b3,n,c1,z,A,o,.map (some e),p]] [] W:=⟨_,hI⟩
  obtain ⟨W0,hI⟩:=hI
  refine aZ E rfl (wn rfl) rfl rfl (fun w hW=>(bE E rfl rfl)) fun a E=>aZ E rfl (wn rfl) rfl rfl (fun w hW=>(vX E rfl rfl)) fun a E=>aZ E rfl (wn rfl) rfl rfl (fun w hW=>lA E rfl rfl (v:=pt m 7) (Le _ _)) fun a E=>aZ E rfl (wn rfl) rfl rfl (fun w hW=>fC E rfl rfl (mB mm1 rfl U69 rfl w hW)) fun a E=>aZ E rfl (wn rfl) rfl rfl (fun w hW=>lA E rfl rfl (v:=pt q 2) (Fd _ _)) fun a E=>aZ E rfl (wn rfl) rfl rfl (fun w hW=>fC E rfl rfl (mB m0 rfl U2 rfl w hW)) fun a E=>?_
  refine mU rfl rfl ?_ ?_
  ·refine oE (i:=3) (K:=(kyI .i64)) E H (wn rfl) rfl rfl rfl rfl rfl rfl (eS U2) U69 Fl Jl d1 fun j5 a H E=>?_
   obtain ⟨j6,j7,j8,j9,k0,k1,k2,rfl,h⟩:=D5 H;clear H;have H:=h
   refine nt<|?_
   refine ⟨⟨_,_,H,(aB mm1 (aB mm2 (aL))),(aM)⟩,?_⟩
   refine aZ E rfl (wn rfl) rfl rfl (fun w hW=>(bE E rfl rfl)) fun a E=>aZ E rfl (wn rfl) rfl rfl (fun w hW=>(dF E rfl rfl rfl)) fun a E=>aZ E rfl (wn rfl) rfl rfl (fun w hW=>(dF E rfl rfl rfl)) fun a E=>cN rfl<|al E H rfl rfl rfl rfl Jm fun k3 w a H E=>nt<|?_
   refine ⟨⟨_,_,H,(aB mm2 (aB mm3 (aL))),(aM)⟩,?_⟩
   refine cN rfl<|bA (i:=0) E H (wn rfl) rfl rfl rfl rfl rfl rfl Jn rfl (r7 H mm6 mm5 mm4 mm3 mm2 mm1 m0) fun w H=>nt<|?_
   refine ⟨⟨_,_,H,(aB mm2 (aB mm3 (aL))),(aM)⟩,?_⟩
   refine cX rfl<|pr 1 E rfl fun a E=>nt<|eL<|?_
   clear hI
   exact aC<|have H:=H.frs [4,1,2,3,4] rfl;X22 ⟨E.to rfl,H,(Y8 Y0),mm6,hm⟩
  ·refine al E H rfl rfl rfl rfl Jm fun k4 w a H E=>nt<|?_
   refine ⟨⟨_,_,H,(aB mm2 (aB mm3 (aL))),(aM)⟩,?_⟩
   refine cN rfl<|oE (i:=4) (K:=(kyI .i64)) E H (wn rfl) rfl rfl rfl rfl rfl rfl (eS U2) U69 Fl Jl d1 fun k5 a H E=>?_
   obtain ⟨k6,k7,k8,k9,l0,l1,l2,rfl,h⟩:=D5 H;clear H;have H:=h
   refine nt<|?_
   refine ⟨⟨_,_,H,(aB mm2 (aB mm3 (aL))),(aM)⟩,?_⟩
   refine aZ E rfl (wn rfl) rfl rfl (fun w hW=>(bE E rfl rfl)) fun a E=>aZ E rfl (wn rfl) rfl rfl (fun w hW=>(dF E rfl rfl rfl)) fun a E=>aZ E rfl (wn rfl) rfl rfl (fun w hW=>(dF E rfl rfl rfl)) fun a E=>cN rfl<|bA (i:=0) E H (wn rfl) rfl rfl rfl rfl rfl rfl Jn rfl (r7 H mm6 mm5 mm4 mm3 mm2 mm1 m0) fun w H=>nt<|?_
   refine ⟨⟨_,_,H,(aB mm2 (aB mm3 (aL))),(aM)⟩,?_⟩
   refine cX rfl<|pr 1 E rfl fun a E=>nt<|eL<|?_
   clear hI
   exact aC<|have H:=H.frs [4,1,2,3,4] rfl;X22 ⟨E.to rfl,H,(Y8 Y0),mm6,hm⟩
 ·clear E H hm
  rintro a w ⟨s,t,b4,b5,b6,b7,b8,b9,c0,C,u,S,T,D,U,f4,f5,f6,f7,f8,f9,X,E,H,d5,d6,hm⟩
  unfold jH at hm
  refine wp_seq<|wp_block<|aV (fun a w=>∃ d7 Y,Env 70 a [(0,pt m 0),(3,pt q 0),(4,pt l 0),(5,pt s 0),(6,.bool c0),(17,.bool d7)]∧Sep w (Blk m 75 [b2,b3,n,c1,z,A,o,.map (some e),p]::Blk q 37 (aS x20 M N O P)::Blk l 48 bN::Blk s 128 [.bool C,t,.int .i64 S,.int .i64 T,.bool D,.int .i64 U,b4,b5,b6,b7,b8,b9]::cG Tryz.prog 2 (kyI .i64) dB true e B::Fo) Y∧(∀ r,r ∈ rs→r ∈ Y)∧rSl cA t u ∈ Y∧gW d2 d3 Q R u d4 B C x20 D c0 d7=some r) ?_ ?_
  ·refine wp_region_lit<|pr 3 E rfl fun a E=>cs hm (fun x hm=>?_) fun x hm=>?_
   ·exact pk 1 E (kc 20 rfl x) rfl fun a E=>aQ E (ws' (d:=20) E rfl rfl rfl rfl x) rfl rfl (cD (i:=1) E H rfl rfl rfl rfl U4 rfl) fun a E=>pk 2 E (kc 20 rfl x) rfl fun a E=>nt<|⟨_,_,E.to rfl,H,d5,d6,hm⟩
   ·exact pk 4 E (kc 20 rfl x) rfl fun a E=>nt<|⟨_,_,E.to rfl,H,d5,d6,hm⟩
  ·clear E H hm
   rintro a w ⟨d7,Y,E,H,g,d8,hm⟩
   unfold gW at hm
   refine wif E hm rfl (fun hm=>?_) fun hm=>?_
   ·refine sq<|bd hm fun i6 g1 hm=>cF E rfl rfl rfl rfl rfl xN (eI H g1)<|?_
    rintro _ w ⟨i7,i8,i9,j0,j1,j2,rfl,H⟩ a E
    refine bA (i:=2) E H (wn rfl) rfl rfl rfl rfl rfl rfl bV rfl (bD H m0 mm1 mm2 mm3 mm4 mm5) fun w H=>nt<|wp_ret<|bW<|aP<|dT E rfl (dD (i:=2) (us:=(bC i6 i7 i8 i9 j0 j1 j2)) H rfl rfl rfl U48 rfl bV)<|have H:=H.drs [1,1,1];?_
    cases hm
    exact X11 ⟨rfl,H.reads (aA m0 (aA mm1 (aA mm2 (aA mm3 (aA mm4 (aA mm5 (aA (t6 (g _ G)) (aA (t6 (g _ I)) (aA (t6 (g _ V)) (aA (t6 (g _ J)) (aA (t6 (g _ L)) (fun r hr=>(t6 (g r hr))))))))))))))⟩
   ·refine aV (fun a w=>∃ d9 Z,Env 70 a [(0,pt m 0),(3,pt q 0),(4,pt l 0),(5,pt s 0),(25,.bool d9)]∧Sep w (Blk m 75 [b2,b3,n,c1,z,A,o,.map (some e),p]::Blk q 37 (aS x20 M N O P)::Blk l 48 bN::Blk s 128 [.bool C,t,.int .i64 S,.int .i64 T,.bool D,.int .i64 U,b4,b5,b6,b7,b8,b9]::cG Tryz.prog 2 (kyI .i64) dB true e B::Fo) Z∧(∀ r,r ∈ rs→r ∈ Z)∧rSl cA t u ∈ Z∧gV d2 d3 Q R u d4 B C x20 D d9=some r) ?_ ?_
    ·refine wp_region_lit<|pr 3 E rfl fun a E=>cs hm (fun k hm=>?_) fun k hm=>?_
     ·exact pk 3 E (kc 28 rfl k) rfl fun a E=>aQ E (ws' (d:=28) E rfl rfl rfl rfl k) rfl rfl (cD (i:=0) E H rfl rfl rfl rfl U69 rfl) fun a E=>aQ E (ws' (d:=28) E rfl rfl rfl rfl k) rfl rfl (E4 (i:=4) E H rfl rfl rfl U69) fun a E=>pk 3 E (kc 28 rfl k) rfl fun a E=>nt<|⟨_,_,E.to rfl,H,g,d8,hm⟩
     ·exact pk 8 E (kc 28 rfl k) rfl fun a E=>nt<|⟨_,_,E.to rfl,H,g,d8,hm⟩
    ·clear E H hm
     rintro a w ⟨d9,Z,E,H,b,e0,hm⟩
     unfold gV at hm
     refine wif E hm rfl (fun hm=>?_) fun hm=>?_
     ·refine sq<|bd hm fun j3 g2 hm=>cF E rfl rfl rfl rfl rfl xN (eI H g2)<|?_
      rintro _ w ⟨g3,g4,g5,g6,g7,g8,rfl,H⟩ a E
      refine bA (i:=2) E H (wn rfl) rfl rfl rfl rfl rfl rfl bV rfl (bD H m0 mm1 mm2 mm3 mm4 mm5) fun w H=>nt<|wp_ret<|bW<|aP<|dT E rfl (dD (i:=2) (us:=(bC j3 g3 g4 g5 g6 g7 g8)) H rfl rfl rfl U48 rfl bV)<|have H:=H.drs [1,1,1];?_
      cases hm
      exact X11 ⟨rfl,H.reads (aA m0 (aA mm1 (aA mm2 (aA mm3 (aA mm4 (aA mm5 (aA (t6 (b _ G)) (aA (t6 (b _ I)) (aA (t6 (b _ V)) (aA (t6 (b _ J)) (aA (t6 (b _ L)) (fun r hr=>(t6 (b r hr))))))))))))))⟩
     ·refine sq<|pr 1 E rfl fun a E=>lb E H 3 rfl rfl rfl rfl rfl rfl rfl U4 rfl fun a E=>pr 1 E rfl fun a E=>nt<|wif E hm rfl (fun hm=>?_) fun hm=>?_
      ·refine sq<|sv E rfl rfl rfl (cL E rfl (E.evs rfl) (v:=.agg bN.toArray) (by kernel_rfl)) fun a E=>bA (i:=2) E H (wn rfl) rfl rfl rfl rfl rfl rfl bV rfl rfl fun w H=>nt<|wp_ret<|bW<|aP<|dT E rfl (dD (i:=2) (us:=bN) H rfl rfl rfl U48 rfl bV)<|have H:=H.nilSl bF;?_
       refine have H:=H.nilSl aE;have H:=H.nilSl aI;have H:=H.nilSl aX;have H:=H.nilSl bM;have H:=H.nilSl (kI .i64);have H:=H.drs [1,1,1];?_
       cases hm
       exact X11 ⟨rfl,H.reads (aA mm5 (aA mm4 (aA mm3 (aA mm2 (aA mm1 (aA m0 (aA (t6 (b _ G)) (aA (t6 (b _ I)) (aA (t6 (b _ V)) (aA (t6 (b _ J)) (aA (t6 (b _ L)) (fun r hr=>(t6 (b r hr))))))))))))))⟩
      ·refine wp_skip<|bZ<|aC<|wp_seq<|dw [(0,0),(1,0),(2,0),(3,0),(4,0),(5,0),(6,0),(7,2)] [0,1] [] H (by kernel_rfl) (fun _ _ _ h=>False.elim h.2) fun w W0 hI H=>fn 3 E rfl fun a E=>fb E rfl (wn rfl) rfl rfl rfl rfl m0 rfl U69 rfl fun a E=>fn 1 E rfl fun a E=>fb E rfl (wn rfl) rfl rfl rfl rfl mm1 rfl U2 rfl fun a E=>?_
       refine bT E rfl (wn rfl) rfl rfl (fun w hW=>(cL E rfl (E.evs rfl) (v:=.agg #[.bool true,.slice none 0 0,.int .i64 0,.int .i64 0,.bool false,.int .i64 0,.slice none 0 0,.slice none 0 0,.slice none 0 0,.slice none 0 0,.slice none 0 0,.slice none 0 0]) (by kernel_rfl))) fun a E=>?_
       refine bO rfl<|bd hm fun b0 e1 hm=>B6 (i:=4) (K:=(kyI .i64)) (v:=(⟨true,[],(⟨0,0,false,0,[],(⟨[],[]⟩:aR),[],[],[]⟩:aH)⟩:bQ)) (cs:=[.bool true,.slice none 0 0,.int .i64 0,.int .i64 0,.bool false,.int .i64 0,.slice none 0 0,.slice none 0 0,.slice none 0 0,.slice none 0 0,.slice none 0 0,.slice none 0 0]) E H (wn rfl) rfl rfl rfl rfl rfl rfl (eS U2) U69 e1 (fun ok hr=>(B8 (Sl.nil _ _ _) (Sl.nil _ _ _) (Sl.nil _ _ _) (Sl.nil _ _ _) (Sl.nil _ _ _) (Sl.nil _ _ _) (Sl.nil _ _ _))) fun w H=>nt<|bP<|?_
       clear hI
       refine aC<|wp_seq<|dw [(0,0),(1,0),(2,0),(3,0),(4,0),(5,0),(6,0),(7,1),(8,2),(9,2),(10,2)] [0,1] [] H (by kernel_rfl) (fun _ _ _ h=>False.elim h.2) fun w W0 hI H=>fn 4 E rfl fun a E=>fb E rfl (wn rfl) rfl rfl rfl rfl m0 rfl U62 rfl fun a E=>fn 1 E rfl fun a E=>fb E rfl (wn rfl) rfl rfl rfl rfl mm1 rfl U2 rfl fun a E=>bY rfl<|bd hm fun j e2 hm=>?_
       refine cF E rfl rfl rfl rfl rfl LW (Li H (b _ V) e2)<|?_
       rintro _ w ⟨l3,rfl,H⟩ a E
       refine nt<|?_
       refine ⟨⟨_,_,H,(aB mm1 (aB mm2 (aL))),(aM)⟩,?_⟩
       refine bO rfl<|pr 1 E rfl fun a E=>nt<|bO rfl<|pr 1 E rfl fun a E=>nt<|bO rfl<|?_
       obtain ⟨q111,b1,rfl⟩:=H.rowform (i:=0) rfl
       refine bA (i:=1) E H (wn rfl) rfl rfl rfl rfl rfl rfl DW rfl rfl fun w H=>nt<|bP<|?_
       clear hI
       refine aC<|aV (fun a w=>∃ c2 c3 c4 c5 c6 c7 c8 c9 f,Env 70 a [(4,pt l 0)]∧Sep w (Blk l 48 bN::Blk m 75 [c2,c3,n,(.slice q111 j.length b1),c4,c5,o,.map (some e),p]::cG Tryz.prog 2 (kyI .i64) dB true e b0::Row 103 bH (.slice q111 j.length b1) j::Fo) f∧(∀ r,r ∈ rs→r ∈ f)∧rSl aE c2 c6 ∈ f∧rSl aI c3 c7 ∈ f∧rSl bB c4 c8 ∈ f∧rSl aO c5 c9 ∈ f∧lV j b0 c6 c7 c8 c9=some r) ?_ ?_
       ·refine aV (fun a w=>∃ d0 F,Env 70 a [(0,pt m 0),(4,pt l 0),(5,pt s 0),(64,.bool d0)]∧Sep w (Blk m 75 [b2,b3,n,(.slice q111 j.length b1),z,A,o,.map (some e),p]::Blk l 48 bN::Blk s 128 [.bool C,t,.int .i64 S,.int .i64 T,.bool D,.int .i64 U,b4,b5,b6,b7,b8,b9]::cG Tryz.prog 2 (kyI .i64) dB true e b0::Row 103 bH (.slice q111 j.length b1) j::Fo) F∧(∀ r,r ∈ rs→r ∈ F)∧rSl cA t u ∈ F∧jG j b0 d2 d3 Q R u d0=some r) ?_ ?_
        ·refine wp_region_lit<|pr 1 E rfl fun a E=>lb E H 2 rfl rfl rfl rfl rfl rfl rfl U4 rfl fun a E=>pr 1 E rfl fun a E=>cs hm (fun y hm=>?_) fun y hm=>?_
         ·exact pk 2 E (kc 60 rfl y) rfl fun a E=>aQ E (ws' (d:=60) E rfl rfl rfl rfl y) rfl rfl (cD (i:=4) E H rfl rfl rfl rfl U4 rfl) fun a E=>pk 1 E (kc 60 rfl y) rfl fun a E=>nt<|have H:=H.drop 2;have H:=H.frs [0,4,4,4,4] rfl;⟨_,_,E.to rfl,H,b,e0,hm⟩
         ·exact pk 4 E (kc 60 rfl y) rfl fun a E=>nt<|have H:=H.drop 2;have H:=H.frs [0,4,4,4,4] rfl;⟨_,_,E.to rfl,H,b,e0,hm⟩
        ·clear E H hm
         rintro a w ⟨d0,F,E,H,c,e3,hm⟩
         unfold jG at hm
         refine wif E hm rfl (fun hm=>?_) fun hm=>?_
         ·refine wp_region_lit<|pr 2 E rfl fun a E=>lb E H 2 rfl rfl rfl rfl rfl rfl rfl U26 rfl fun a E=>bd hm fun l4 e4 hm=>cF E rfl rfl rfl rfl rfl DE (G6 H (c _ G) (c _ I) (c _ J) (c _ L) e3 (c _ g0) e4)<|?_
          rintro _ w ⟨l5,l6,l7,l8,l9,m1,m2,m3,m4,m5,rfl,H⟩ a E
          exact nt<|have H:=H.drop 2;have H:=H.frs [3,3,2,3] rfl;X9 ⟨E.to rfl,H,(Y2 (Y8 c)),mm6,(t1 mm6),(t2 mm6),(t3 mm6),hm⟩
         ·exact wp_skip<|aC<|have H:=H.drop 2;have H:=H.frs [3,3,2,3] rfl;X9 ⟨E.to rfl,H,c,(c _ G),(c _ I),(c _ J),(c _ L),hm⟩
       ·clear E H hm
        rintro a w ⟨c2,c3,c4,c5,c6,c7,c8,c9,f,E,H,e5,e6,e7,e8,e9,hm⟩
        unfold lV at hm
        refine sq<|sv E rfl rfl rfl (cL E rfl (E.evs rfl) (v:=.agg bN.toArray) (by kernel_rfl)) fun a E=>bA (i:=0) E H (wn rfl) rfl rfl rfl rfl rfl rfl bV rfl rfl fun w H=>nt<|wp_ret<|dT E rfl (dD (i:=0) (us:=bN) H rfl rfl rfl U48 rfl bV)<|have H:=H.nilSl bF;have H:=H.nilSl aE;have H:=H.nilSl aI;?_
        refine have H:=H.nilSl aX;have H:=H.nilSl bM;have H:=H.nilSl (kI .i64);have H:=H.thaw (i:=3) rfl;have H:=H.drop 0;?_
        cases hm
        exact X11 ⟨rfl,H.reads (aA mm6 (aA mm5 (aA mm4 (aA mm3 (aA mm2 (aA mm1 (aA (t7 e6) (aA (t7 e7) (aA m0 (aA (t7 e8) (aA (t7 e9) (fun r hr=>(t7 (e5 r hr))))))))))))))⟩

def uW(c:List aG)(e:Int)(f:ByteArray)(g:Bool):Option ((List aG)×Bool):=
  if g=true then (some ([],false)) else ((idx c e).bind fun d=>(r6 c (⟨f,d.Epoch,2⟩:aG)).bind fun b=>some (b.1,b.2))
def C3(b:List aG)(d:ByteArray):Option ((List aG)×Bool):=
  (qD b d).bind fun c=>if (decide (c < 0))=true then (uW b c d true) else ((idx b c).bind fun e=>uW b c d (e.State != 1))
theorem Gv{j:Value}{k:List aG}{f:ByteArray}(H:Sep w (Fo) rs)(c:rSl aT j k ∈ rs){r:(List aG)×Bool}(hm:C3 k f=some r) :
    Calls Tryz.prog 75 [j,.string f].toArray w (Ret fun v w'=>∃ p,.tuple #[p,.bool r.2]=v∧Sep w' (Row 31 aT p r.1::Fo) (rs)):=by
 unfold C3 at hm
 refine ent Tryz.func75 rfl Tryz.ntmps75 rfl rfl fun a E=>sq<|pr 2 E rfl fun a E=>nx<|pr 2 E rfl fun a E=>bd hm fun q s hm=>xk E rfl rfl rfl rfl rfl Ds (wD H c s) fun w H a E=>pr 1 E rfl fun a E=>nt<|?_
 refine wp_seq<|aV (fun a w=>∃ l g,Env 31 a [(0,j),(1,.string f),(6,.int .i64 q),(19,.bool l)]∧Sep w (Fo) g∧(∀ r,r ∈ rs→r ∈ g)∧uW k q f l=some r) ?_ ?_
 ·refine wp_region_lit<|pr 3 E rfl fun a E=>cs hm (fun b hm=>?_) fun b hm=>?_
  ·exact pk 7 E (kc 12 rfl b) rfl fun a E=>nt<|⟨_,_,E.to rfl,H,Y0,hm⟩
  ·exact pk 2 E (kc 12 rfl b) rfl fun a E=>bd hm fun t m hm=>dR E H (ws' (d:=12) E rfl rfl rfl rfl b) rfl rfl rfl rfl rfl c U32 iK m fun q19 a H E=>have H:=H.derive1 m0 (rAt (kI .i64) (q19.add 2) t.State) (fun ok h=>y6 h);pk 1 E (kc 12 rfl b) rfl fun a E=>aQ E (ws' (d:=12) E rfl rfl rfl rfl b) rfl rfl (qT E H rfl rfl m0 U3 rfl) fun a E=>pk 2 E (kc 12 rfl b) rfl fun a E=>nt<|⟨_,_,E.to rfl,H,(Y2 Y0),hm⟩
 ·clear E H hm
  rintro a w ⟨l,g,E,H,e,hm⟩
  unfold uW at hm
  refine wif E hm rfl (fun hm=>?_) fun hm=>?_
  ·refine sq<|pr 2 E rfl fun a E=>nt<|wp_ret<|aP<|hG E rfl rfl rfl<|have H:=H.nilRow 31 aT;?_
   cases hm
   exact ⟨_,rfl,H.reads e⟩
  ·refine wp_skip<|aC<|sq<|pr 4 E rfl fun a E=>bd hm fun i n hm=>dR E H (wn rfl) rfl rfl rfl rfl rfl (e _ c) U32 iK n fun q12 a H E=>have H:=H.derive1 m0 (rAt (kI .i64) (q12.add 1) i.Epoch) (fun ok h=>y5 h);pr 1 E rfl fun a E=>sv E rfl rfl rfl (qT E H rfl rfl m0 U2 rfl) fun a E=>?_
   refine sv E rfl rfl rfl (cL E rfl (E.evs rfl) (v:=.agg #[.string f,.int .i64 i.Epoch,.int .i64 2]) (by kernel_rfl)) fun a E=>bd hm fun u o hm=>cF E rfl rfl rfl rfl rfl Qf (O3 (x3:=(⟨f,i.Epoch,2⟩:aG)) H (t2 (e _ c)) o)<|?_
   rintro _ w ⟨x,rfl,H⟩ a E
   refine pr 4 E rfl fun a E=>nt<|wp_ret<|hG E rfl rfl rfl<|?_
   cases hm
   exact ⟨_,rfl,H.reads (Y2 e)⟩

def wH(x1:aG)(b:ByteArray):Option Bool:=
  some (sEq x1.Prefix b)
theorem T5{x1:aG}{b:Nat}{c:ByteArray}(H:Sep w (Blk b 9 [.string c]::Fo) rs){r:Bool}(hm:wH x1 c=some r) :
    Calls Tryz.prog 142 [.agg (mV x1).toArray,pt b 0].toArray w (Ret fun v w'=>.bool r=v∧Sep w' (Blk b 9 [.string c]::Fo) (rs)):=by
 unfold wH at hm
 refine ent Tryz.func142 rfl Tryz.ntmps142 rfl rfl fun a E=>sq<|bS E H (wn rfl) rfl rfl rfl rfl rfl fun d w a H E=>pr 1 E rfl fun a E=>nx<|pr 1 E rfl fun a E=>lb E H 0 rfl rfl rfl rfl rfl rfl rfl U9 rfl fun a E=>lb E H 1 rfl rfl rfl rfl rfl rfl rfl U9 rfl fun a E=>pr 2 E rfl fun a E=>?_
 refine nt<|wp_ret<|aY E rfl rfl<|have H:=H.drop 0;?_
 cases hm
 exact ⟨rfl,H.reads Y0⟩

def fT(c:List aG)(d:ByteArray):Nat→Int→Option Int
  | 0,_=>none
  | f+1,b=>
    if (decide (b < (c.length:Int)))=true then ((idx c b).bind fun g=>(wH g d).bind fun e=>if e=true then (some (b)) else (fT c d f (IntKind.i64.wrap (b+1)))) else (some ((-1)))
def kD(b:List aG)(c:ByteArray):Option Int:=
  fT b c (((b.length:Int) - 0:Int).toNat+1) 0
theorem xW{j:Value}{d:List aG}{e:Nat}{f:ByteArray}(H:Sep w (Blk e 9 [.string f]::Fo) rs)(i:rSl aT j d ∈ rs){r:Int}(hm:kD d f=some r) :
    Calls Tryz.prog 141 [j,.func (.func 142) #[] #[pt e 0]].toArray w (Ret fun v w'=>.int .i64 r=v∧Sep w' (Blk e 9 [.string f]::Fo) (rs)):=by
 unfold kD at hm
 refine ent Tryz.func141 rfl Tryz.ntmps141 rfl rfl fun a E=>sq<|pr 1 E rfl fun a E=>nt<|wp_seq<|sq<|pr 1 E rfl fun a E=>sv E rfl rfl rfl (cV E H rfl rfl i U32) fun a E=>pr 1 E rfl fun a E=>?_
 refine nt<|wp_block<|bX (fun c a w=>∃ k g,Env 19 a [(0,j),(1,.func (.func 142) #[] #[pt e 0]),(7,.int .i64 (d.length:Int)),(8,.int .i64 k)]∧Sep w (Blk e 9 [.string f]::Fo) g∧(∀ r,r ∈ rs→r ∈ g)∧fT d f c k=some r) (((d.length:Int) - 0:Int).toNat+1) ?_ ?_
 ·exact ⟨_,_,E.to rfl,H,Y0,hm⟩
 ·clear E H hm
  rintro c a w ⟨k,g,E,H,b,hm⟩
  cases c with
  | zero=>exact (bU hm rfl).elim
  | succ c=>
   unfold fT at hm
   refine sq<|pr 1 E rfl fun a E=>nt<|wp_seq<|wif E hm rfl (fun hm=>?_) fun hm=>?_
   ·refine wp_skip<|aC<|wp_seq<|wp_block<|sq<|pr 2 E rfl fun a E=>nx<|pr 3 E rfl fun a E=>bd hm fun o l hm=>?_
    refine dR E H (wn rfl) rfl rfl rfl rfl rfl (b _ i) U32 iK l fun q11 a H E=>ldf jI E H rfl rfl rfl rfl rfl m0 U31 rfl iK fun a E=>bd hm fun n m hm=>aW E (wn rfl) rfl rfl (bR E rfl rfl rfl (JI _)) (T5 H m)<|?_
    rintro _ w ⟨rfl,H⟩ a E
    refine nt<|wif E hm rfl (fun hm=>?_) fun hm=>?_
    ·refine sq<|pr 2 E rfl fun a E=>nt<|wp_ret<|bW<|aP<|aP<|bW<|aP<|?_
     refine aY E rfl rfl<|?_
     cases hm
     exact ⟨rfl,H.reads (Y1 b)⟩
    ·exact wp_skip<|bZ<|aC<|wp_region_lit<|pr 2 E rfl fun a E=>nt<|⟨c,Nat.lt_succ_self c,_,_,E.to rfl,H,(Y1 b),hm⟩
   ·refine wp_exit<|bG<|bG<|dN<|aC<|sq<|pr 1 E rfl fun a E=>nt<|wp_ret<|?_
    refine aY E rfl rfl<|?_
    cases hm
    exact ⟨rfl,H.reads b⟩

def qO(c:List aG)(d:ByteArray):Option (aG×Bool):=
  (kD c d).bind fun b=>if (decide (b < 0))=true then (some ((⟨(ByteArray.mk #[]),0,0⟩:aG),false)) else ((idx c b).bind fun e=>some (e,true))
theorem yY{n:Nat}{o c d e f g j k l:Value}{s:List aG}{m:ByteArray}(H:Sep w (Blk n 75 [c,d,o,e,f,g,j,k,l]::Fo) rs)(b:rSl aT o s ∈ rs){r:aG×Bool}(hm:qO s m=some r) :
    Calls Tryz.prog 74 [pt n 0,.string m].toArray w (Ret fun v w'=>.tuple #[.agg (mV r.1).toArray,.bool r.2]=v∧Sep w' (Blk n 75 [c,d,o,e,f,g,j,k,l]::Fo) (rs)):=by
 unfold qO at hm
 refine ent Tryz.func74 rfl Tryz.ntmps74 rfl rfl fun a E=>sq<|bS E H (wn rfl) rfl rfl rfl rfl rfl fun u w a H E=>al E H rfl rfl rfl rfl Gl fun x w a H E=>pr 1 E rfl fun a E=>nx<|pr 3 E rfl fun a E=>lb E H 2 rfl rfl rfl rfl rfl rfl rfl U32 rfl fun a E=>sv E rfl rfl rfl (kJ E rfl rfl rfl) fun a E=>?_
 refine have H:=H.frs [2,1,2] rfl;bd hm fun y p hm=>xk E rfl rfl rfl rfl rfl JH (xW H b p) fun w H a E=>pr 1 E rfl fun a E=>nt<|wp_seq<|sq<|pr 2 E rfl fun a E=>nt<|wif E hm rfl (fun hm=>?_) fun hm=>?_
 ·refine sq<|sv E rfl rfl rfl (cL E rfl (E.evs rfl) (v:=.agg Mm.toArray) (by kernel_rfl)) fun a E=>bA (i:=1) E H (wn rfl) rfl rfl rfl rfl rfl rfl iK rfl rfl fun w H=>pr 1 E rfl fun a E=>nt<|wp_ret<|aP<|uN E rfl (dD (i:=1) (us:=Mm) H rfl rfl rfl U31 rfl iK) (rvT rfl)<|have H:=H.drs [0,0];?_
  cases hm
  exact ⟨rfl,H.reads Y0⟩
 ·refine wp_skip<|aC<|sq<|pr 3 E rfl fun a E=>lb E H 2 rfl rfl rfl rfl rfl rfl rfl U32 rfl fun a E=>pr 1 E rfl fun a E=>bd hm fun t q hm=>dR E H (wn rfl) rfl rfl rfl rfl rfl b U32 iK q fun q36 a H E=>ldf jI E H rfl rfl rfl rfl rfl m0 U31 rfl iK fun a E=>?_
  refine bA (i:=1) E H (wn rfl) rfl rfl rfl rfl rfl rfl iK rfl rfl fun w H=>pr 1 E rfl fun a E=>nt<|wp_ret<|uN E rfl (dD (i:=1) (us:=(mV t)) H rfl rfl rfl U31 rfl iK) (rvT rfl)<|have H:=H.drs [0,0];?_
  cases hm
  exact ⟨rfl,H.reads (Y1 Y0)⟩

def wI(x1:aN)(b:List aG)(e:ByteArray):Option Bool:=
  (qD b x1.Dir).bind fun c=>if (decide (c ≥ 0))=true then ((idx b c).bind fun d=>some (sEq d.Prefix e)) else (some (false))
theorem T6{x1:aN}{e f:Nat}{g:Value}{p:List aG}{i:ByteArray}(H:Sep w (Blk e 32 [g]::Blk f 9 [.string i]::Fo) rs)(c:rSl aT g p ∈ rs){r:Bool}(hm:wI x1 p i=some r) :
    Calls Tryz.prog 144 [.agg (pX x1).toArray,pt e 0,pt f 0].toArray w (Ret fun v w'=>.bool r=v∧Sep w' (Blk e 32 [g]::Blk f 9 [.string i]::Fo) (rs)):=by
 unfold wI at hm
 refine ent Tryz.func144 rfl Tryz.ntmps144 rfl rfl fun a E=>sq<|bS E H (wn rfl) rfl rfl rfl rfl rfl fun u w a H E=>pr 1 E rfl fun a E=>nx<|lb E H 1 rfl rfl rfl rfl rfl rfl rfl U32 rfl fun a E=>pr 1 E rfl fun a E=>lb E H 0 rfl rfl rfl rfl rfl rfl rfl U9 rfl fun a E=>bd hm fun x j hm=>?_
 refine xk E rfl rfl rfl rfl rfl Ds (wD H c j) fun w H a E=>pr 1 E rfl fun a E=>nt<|wp_seq<|?_
 obtain ⟨q,H⟩:=H.raw c
 refine dw [(0,0),(1,0),(2,0),(3,0),(4,0),(5,0),(6,0),(7,0),(8,0),(9,0),(10,0),(11,2)] [1,2] [0] H (by kernel_rfl) (fun _ _ _ h=>False.elim h.2) fun w W0 hI H=>fn 3 E rfl fun a E=>cs hm (fun b hm=>?_) fun b hm=>?_
 ·refine fb E rfl (ws' (d:=12) E rfl rfl rfl rfl b) rfl rfl rfl rfl m0 rfl U32 rfl fun a E=>fk 1 E (kc 12 rfl b) rfl fun a E=>bd hm fun s l hm=>?_
  obtain ⟨q15,t,m,n⟩:=oD (P:=Tryz.prog) (k:=.i64) hI (mT (.head _)) U32 iK l
  refine bT E rfl (ws' (d:=12) E rfl rfl rfl rfl b) rfl rfl (fun w hW=>rR E rfl rfl rfl (m w)) fun a E=>?_
  have o:=yP n (fun _ _ _ h=>qV h)
  refine fk 1 E (kc 12 rfl b) rfl fun a E=>fa E rfl (ws' (d:=12) E rfl rfl rfl rfl b) rfl rfl rfl rfl o U9 rfl fun a E=>fb E rfl (ws' (d:=12) E rfl rfl rfl rfl b) rfl rfl rfl rfl mm1 rfl U9 rfl fun a E=>fk 2 E (kc 12 rfl b) rfl fun a E=>bO rfl<|pr 1 E rfl fun a E=>nt<|bP<|?_
  clear hI
  refine aC<|wp_ret<|aY E rfl rfl<|have H:=H.drop 0;?_
  cases hm
  exact ⟨rfl,H.reads (Y1 Y0)⟩
 ·refine fk 8 E (kc 12 rfl b) rfl fun a E=>bO rfl<|pr 1 E rfl fun a E=>nt<|bP<|?_
  clear hI
  refine aC<|wp_ret<|aY E rfl rfl<|have H:=H.drop 0;?_
  cases hm
  exact ⟨rfl,H.reads (Y1 Y0)⟩

def fU(c:List aN)(d:List aG)(e:ByteArray):Nat→Int→Option Int
  | 0,_=>none
  | i+1,b=>
    if (decide (b < (c.length:Int)))=true then ((idx c b).bind fun f=>(wI f d e).bind fun g=>if g=true then (some (b)) else (fU c d e i (IntKind.i64.wrap (b+1)))) else (some ((-1)))
def kE(b:List aN)(c:List aG)(d:ByteArray):Option Int:=
  fU b c d (((b.length:Int) - 0:Int).toNat+1) 0
theorem xX{m k:Value}{e:List aN}{f g:Nat}{n:List aG}{i:ByteArray}(H:Sep w (Blk f 32 [k]::Blk g 9 [.string i]::Fo) rs)(l:rSl bH m e ∈ rs)(q:rSl aT k n ∈ rs){r:Int}(hm:kE e n i=some r) :
    Calls Tryz.prog 120 [m,.func (.func 144) #[] #[pt f 0,pt g 0]].toArray w (Ret fun v w'=>.int .i64 r=v∧Sep w' (Blk f 32 [k]::Blk g 9 [.string i]::Fo) (rs)):=by
 unfold kE at hm
 refine ent Tryz.func120 rfl Tryz.ntmps120 rfl rfl fun a E=>sq<|pr 1 E rfl fun a E=>nt<|wp_seq<|sq<|pr 1 E rfl fun a E=>sv E rfl rfl rfl (cV E H rfl rfl l U62) fun a E=>pr 1 E rfl fun a E=>?_
 refine nt<|wp_block<|bX (fun d a w=>∃ j c,Env 19 a [(0,m),(1,.func (.func 144) #[] #[pt f 0,pt g 0]),(7,.int .i64 (e.length:Int)),(8,.int .i64 j)]∧Sep w (Blk f 32 [k]::Blk g 9 [.string i]::Fo) c∧(∀ r,r ∈ rs→r ∈ c)∧fU e n i d j=some r) (((e.length:Int) - 0:Int).toNat+1) ?_ ?_
 ·exact ⟨_,_,E.to rfl,H,Y0,hm⟩
 ·clear E H hm
  rintro d a w ⟨j,c,E,H,b,hm⟩
  cases d with
  | zero=>exact (bU hm rfl).elim
  | succ d=>
   unfold fU at hm
   refine sq<|pr 1 E rfl fun a E=>nt<|wp_seq<|wif E hm rfl (fun hm=>?_) fun hm=>?_
   ·refine wp_skip<|aC<|wp_seq<|wp_block<|sq<|pr 2 E rfl fun a E=>nx<|pr 3 E rfl fun a E=>bd hm fun s o hm=>?_
    refine dR E H (wn rfl) rfl rfl rfl rfl rfl (b _ l) U62 iW o fun q15 a H E=>ldf eX E H rfl rfl rfl rfl rfl m0 F5 rfl iW fun a E=>bd hm fun t p hm=>aW E (wn rfl) rfl rfl (bR E rfl rfl rfl (JJ _)) (T6 H (t1 (b _ q)) p)<|?_
    rintro _ w ⟨rfl,H⟩ a E
    refine nt<|wif E hm rfl (fun hm=>?_) fun hm=>?_
    ·refine sq<|pr 2 E rfl fun a E=>nt<|wp_ret<|bW<|aP<|aP<|bW<|aP<|?_
     refine aY E rfl rfl<|?_
     cases hm
     exact ⟨rfl,H.reads (Y1 b)⟩
    ·exact wp_skip<|bZ<|aC<|wp_region_lit<|pr 2 E rfl fun a E=>nt<|⟨d,Nat.lt_succ_self d,_,_,E.to rfl,H,(Y1 b),hm⟩
   ·refine wp_exit<|bG<|bG<|dN<|aC<|sq<|pr 1 E rfl fun a E=>nt<|wp_ret<|?_
    refine aY E rfl rfl<|?_
    cases hm
    exact ⟨rfl,H.reads b⟩

def jT(c:List aN)(d:List aG)(e:ByteArray):Option Bool:=
  (kE c d e).bind fun b=>some (decide (b ≥ 0))
theorem xC{g b:Value}{i:List aN}{c d:Nat}{j:List aG}{e:ByteArray}(H:Sep w (Blk c 32 [b]::Blk d 9 [.string e]::Fo) rs)(k:rSl bH g i ∈ rs)(l:rSl aT b j ∈ rs){r:Bool}(hm:jT i j e=some r) :
    Calls Tryz.prog 127 [g,.func (.func 144) #[] #[pt c 0,pt d 0]].toArray w (Ret fun v w'=>.bool r=v∧Sep w' (Blk c 32 [b]::Blk d 9 [.string e]::Fo) (rs)):=by
 unfold jT at hm
 refine ent Tryz.func127 rfl Tryz.ntmps127 rfl rfl fun a E=>sq<|pr 1 E rfl fun a E=>nx<|pr 2 E rfl fun a E=>bd hm fun m f hm=>xk E rfl rfl rfl rfl rfl Fh (xX H k l f) fun w H a E=>pr 2 E rfl fun a E=>nt<|?_
 refine wp_ret<|aY E rfl rfl<|?_
 cases hm
 exact ⟨rfl,H.reads Y0⟩

def uD(e:List aN)(b:List aG)(c:ByteArray):Option Bool:=
  (jT e b c).bind fun d=>some (d)
theorem E9{o:Nat}{p c d e f g i j k l:Value}{t:List aN}{m:List aG}{n:ByteArray}(H:Sep w (Blk o 75 [d,e,f,p,g,i,j,k,l]::Fo) rs)(q:rSl bH p t ∈ rs)(b:rSl aT c m ∈ rs){r:Bool}(hm:uD t m n=some r) :
    Calls Tryz.prog 77 [pt o 0,c,.string n].toArray w (Ret fun v w'=>.bool r=v∧Sep w' (Blk o 75 [d,e,f,p,g,i,j,k,l]::Fo) (rs)):=by
 unfold uD at hm
 refine ent Tryz.func77 rfl Tryz.ntmps77 rfl rfl fun a E=>sq<|?_
 obtain ⟨q34,u,rfl⟩:=H.slform b
 refine bS E H (wn rfl) rfl rfl rfl rfl rfl fun x w a H E=>bS E H (wn rfl) rfl rfl rfl rfl rfl fun y w a H E=>pr 1 E rfl fun a E=>nx<|pr 3 E rfl fun a E=>lb E H 2 rfl rfl rfl rfl rfl rfl rfl U62 rfl fun a E=>sv E rfl rfl rfl (kJ E rfl rfl rfl) fun a E=>have H:=H.frs [2,1,2] rfl;bd hm fun z s hm=>?_
 refine xk E rfl rfl rfl rfl rfl Qg (xC H q b s) fun w H a E=>pr 1 E rfl fun a E=>nt<|wp_ret<|aY E rfl rfl<|have H:=H.drs [0,0];?_
 cases hm
 exact ⟨rfl,H.reads Y0⟩

def tI(b:aG×Bool)(c:(List aG))(d:(List aF))(e:(List aJ)):Option (aH×(List aG)):=
  some ((⟨0,0,false,b.1.Epoch,[],(⟨d,e⟩:aR),[],[],[]⟩:aH),c)
def oZ(x20:aU)(e:List aF)(f:List aJ)(b:(List aG)):Option (aH×(List aG)):=
  (qO b x20.Prefix).bind fun d=>(xJ (⟨e,f⟩:aR) b x20.Prefix).bind fun c=>tI d b c.1 c.2.1
def pA(x20:aU)(l:List aF)(m:List aJ)(c:List aG)(n:List aN)(d:Bool):Option (aH×(List aG)):=
  if d=true then ((C3 c x20.Prefix).bind fun b=>if (!b.2)=true then ((dZ 132).bind fun e=>some (e,c)) else ((qD b.1 x20.Prefix).bind fun f=>(idx b.1 f).bind fun g=>if (g.Epoch != x20.Epoch)=true then ((dZ 133).bind fun i=>some (i,c)) else ((uD n b.1 x20.Prefix).bind fun j=>if j=true then ((dZ 131).bind fun k=>some (k,c)) else (oZ x20 l m b.1)))) else (oZ x20 l m c)
def wJ(d:List aF)(e:List aJ)(c:List aG)(f:List aN)(x20:aU):Option (aH×(List aG)):=
  (qO c x20.Prefix).bind fun b=>if (b.1.State != 2)=true then (pA x20 d e c f true) else (pA x20 d e c f (b.1.Epoch != x20.Epoch))
theorem T7{j:Nat}{z A c1 I J K L M l m n o p:Value}{B:List aF}{C:List aJ}{c2:List aG}{c3:List aN}{x20:aU}(H:Sep w (Blk j 75 [z,A,c1,I,l,m,n,o,p]::Fo) rs)(q:rSl aE z B ∈ rs)(s:rSl aI A C ∈ rs)(g:rSl aT c1 c2 ∈ rs)(c4:rSl bH I c3 ∈ rs){r:aH×(List aG)}(hm:wJ B C c2 c3 x20=some r) :
    Calls Tryz.prog 29 [pt j 0,.agg (aS x20 J K L M).toArray].toArray w (Ret fun v w'=>∃ e9 f0 f1 f2 f3 f4 f5,.agg (bC r.1 e9 f0 f1 f2 f3 f4).toArray=v∧Sep w' (Blk j 75 [z,A,f5,I,l,m,n,o,p]::Fo) (rSl bF e9 r.1.Results::rSl aE f0 r.1.Store.Nodes::rSl aI f1 r.1.Store.Turns::rSl aX f2 r.1.Events::rSl bM f3 r.1.Mounts::rSl (kI .i64) f4 r.1.Wounded::rSl aT f5 r.2::rs)):=by
 unfold wJ at hm
 refine ent Tryz.func29 rfl Tryz.ntmps29 rfl rfl fun a E=>sq<|bS E H (wn rfl) rfl rfl rfl rfl rfl fun t w a H E=>al E H rfl rfl rfl rfl gO fun y w a H E=>nt<|aV (fun a w=>∃ u N D,Env 90 a [(0,pt j 0),(3,pt t 0),(4,pt y 0)]∧Sep w (Blk j 75 [z,A,u,I,l,m,n,o,p]::Blk t 37 (aS x20 J K L M)::Blk y 48 bN::Fo) D∧(∀ r,r ∈ rs→r ∈ D)∧rSl aT u N ∈ D∧oZ x20 B C N=some r) ?_ ?_
 ·refine sq<|pr 2 E rfl fun a E=>lb E H 1 rfl rfl rfl rfl rfl rfl rfl U9 rfl fun a E=>have H:=H.frs [1,1,2] rfl;bd hm fun f6 X hm=>xk E rfl rfl rfl rfl rfl Vh (yY H g X) fun w H a E=>pr 3 E rfl fun a E=>al E H rfl rfl rfl rfl Gl fun f7 w a H E=>bA (i:=0) E H (wn rfl) rfl rfl rfl rfl rfl rfl iK rfl rfl fun w H=>?_
  refine pr 1 E rfl fun a E=>nt<|aV (fun a w=>∃ R F,Env 90 a [(0,pt j 0),(3,pt t 0),(4,pt y 0),(29,.bool R)]∧Sep w (Blk j 75 [z,A,c1,I,l,m,n,o,p]::Blk t 37 (aS x20 J K L M)::Blk y 48 bN::Fo) F∧(∀ r,r ∈ rs→r ∈ F)∧pA x20 B C c2 c3 R=some r) ?_ ?_
  ·refine wp_region_lit<|pr 1 E rfl fun a E=>lb E H 0 rfl rfl rfl rfl rfl rfl rfl U3 rfl fun a E=>pr 2 E rfl fun a E=>cs hm (fun f hm=>?_) fun f hm=>?_
   ·exact pk 6 E (kc 23 rfl f) rfl fun a E=>nt<|have H:=H.drop 0;have H:=H.frs [1,2,2] rfl;⟨_,_,E.to rfl,H,Y0,hm⟩
   ·exact pk 1 E (kc 23 rfl f) rfl fun a E=>aQ E (ws' (d:=23) E rfl rfl rfl rfl f) rfl rfl (cD (i:=0) E H rfl rfl rfl rfl U2 rfl) fun a E=>pk 1 E (kc 23 rfl f) rfl fun a E=>aQ E (ws' (d:=23) E rfl rfl rfl rfl f) rfl rfl (cD (i:=3) E H rfl rfl rfl rfl U2 rfl) fun a E=>pk 2 E (kc 23 rfl f) rfl fun a E=>nt<|have H:=H.drop 0;have H:=H.frs [1,2,2] rfl;⟨_,_,E.to rfl,H,Y0,hm⟩
  ·clear E H hm
   rintro a w ⟨R,F,E,H,c,hm⟩
   unfold pA at hm
   refine wif E hm rfl (fun hm=>?_) fun hm=>?_
   ·refine wp_seq<|dw [(0,0),(1,0),(2,0),(3,0),(4,0),(5,0),(6,1),(7,0),(8,0),(9,0),(10,1),(11,2)] [0,1] [] H (by kernel_rfl) (fun _ _ _ h=>False.elim h.2) fun w W0 hI H=>fn 3 E rfl fun a E=>fb E rfl (wn rfl) rfl rfl rfl rfl m0 rfl U32 rfl fun a E=>fn 1 E rfl fun a E=>fb E rfl (wn rfl) rfl rfl rfl rfl mm1 rfl U9 rfl fun a E=>bY rfl<|bd hm fun f8 Y hm=>cF E rfl rfl rfl rfl rfl LT (Gv H (c _ g) Y)<|?_
    rintro _ w ⟨f9,rfl,H⟩ a E
    refine nt<|?_
    refine ⟨⟨_,_,H,(aB mm1 (aB mm2 (aL))),(aM)⟩,?_⟩
    refine fn 3 E rfl fun a E=>bY rfl<|pr 1 E rfl fun a E=>nt<|?_
    refine ⟨⟨_,_,H,(aB mm1 (aB mm2 (aL))),(aM)⟩,?_⟩
    refine bO rfl<|pr 1 E rfl fun a E=>nt<|bP<|?_
    clear hI
    refine aC<|wp_seq<|sq<|pr 2 E rfl fun a E=>nt<|wif E hm rfl (fun hm=>?_) fun hm=>?_
    ·refine sq<|bd hm fun c5 Z hm=>cF E rfl rfl rfl rfl rfl xN (eI H Z)<|?_
     rintro _ w ⟨c6,c7,c8,c9,d0,d1,rfl,H⟩ a E
     refine bA (i:=3) E H (wn rfl) rfl rfl rfl rfl rfl rfl bV rfl (bD H m0 mm1 mm2 mm3 mm4 mm5) fun w H=>nt<|wp_ret<|aP<|aP<|dT E rfl (dD (i:=3) (us:=(bC c5 c6 c7 c8 c9 d0 d1)) H rfl rfl rfl U48 rfl bV)<|have H:=H.drs [0,1,1];?_
     cases hm
     exact X7 ⟨rfl,H.reads (aA m0 (aA mm1 (aA mm2 (aA mm3 (aA mm4 (aA mm5 (aA (t6 (c _ g)) (fun r hr=>(t6 (c r hr))))))))))⟩
    ·refine wp_skip<|aC<|wp_seq<|wp_seq<|have H:=H.thaw (i:=0) rfl;?_
     obtain ⟨g0,H⟩:=H.raw m0
     refine dw [(0,0),(1,0),(2,0),(3,0),(8,0),(9,0),(4,1),(5,0),(6,0),(7,0),(10,0)] [1] [0] H (by kernel_rfl) (fun _ _ _ h=>False.elim h.2) fun w W0 hI H=>fn 3 E rfl fun a E=>fb E rfl (wn rfl) rfl rfl rfl rfl m0 rfl U9 rfl fun a E=>fn 1 E rfl fun a E=>fb E rfl (wn rfl) rfl rfl rfl rfl m0 rfl U2 rfl fun a E=>bY rfl<|bd hm fun g1 b0 hm=>xk E rfl rfl rfl rfl rfl Ds (wD H mm1 b0) fun w H a E=>nt<|?_
     refine ⟨⟨_,_,H,(aB mm1 (aL)),(aA m0 (aM))⟩,?_⟩
     refine bd hm fun g2 b1 hm=>?_
     obtain ⟨q258,g3,b2,b3⟩:=oD (P:=Tryz.prog) (k:=.i64) hI (mT (.head _)) U32 iK b1
     refine bT E rfl (wn rfl) rfl rfl (fun w hW=>rR E rfl rfl rfl (b2 w)) fun a E=>?_
     have b4:=yP b3 (fun _ _ _ h=>Ez h)
     refine fn 1 E rfl fun a E=>fa E rfl (wn rfl) rfl rfl rfl rfl b4 U2 rfl fun a E=>fn 1 E rfl fun a E=>bP<|?_
     clear hI
     refine aC<|wif E hm rfl (fun hm=>?_) fun hm=>?_
     ·refine sq<|bd hm fun d2 b5 hm=>cF E rfl rfl rfl rfl rfl xN (eI H b5)<|?_
      rintro _ w ⟨d3,d4,d5,d6,d7,d8,rfl,H⟩ a E
      refine bA (i:=2) E H (wn rfl) rfl rfl rfl rfl rfl rfl bV rfl (bD H m0 mm1 mm2 mm3 mm4 mm5) fun w H=>nt<|wp_ret<|aP<|aP<|dT E rfl (dD (i:=2) (us:=(bC d2 d3 d4 d5 d6 d7 d8)) H rfl rfl rfl U48 rfl bV)<|have H:=H.drs [1,1];?_
      cases hm
      exact X7 ⟨rfl,H.reads (aA m0 (aA mm1 (aA mm2 (aA mm3 (aA mm4 (aA mm5 (aA (t8 (c _ g)) (fun r hr=>(t8 (c r hr))))))))))⟩
     ·refine wp_skip<|aC<|wp_seq<|sq<|pr 3 E rfl fun a E=>lb E H 1 rfl rfl rfl rfl rfl rfl rfl U9 rfl fun a E=>bd hm fun g4 b6 hm=>xk E rfl rfl rfl rfl rfl DS (E9 H (t2 (c _ c4)) mm1 b6) fun w H a E=>nt<|wif E hm rfl (fun hm=>?_) fun hm=>?_
      ·refine sq<|bd hm fun d9 b7 hm=>cF E rfl rfl rfl rfl rfl xN (eI H b7)<|?_
       rintro _ w ⟨e0,e1,e2,e3,e4,e5,rfl,H⟩ a E
       refine bA (i:=2) E H (wn rfl) rfl rfl rfl rfl rfl rfl bV rfl (bD H m0 mm1 mm2 mm3 mm4 mm5) fun w H=>nt<|wp_ret<|aP<|aP<|dT E rfl (dD (i:=2) (us:=(bC d9 e0 e1 e2 e3 e4 e5)) H rfl rfl rfl U48 rfl bV)<|have H:=H.drs [1,1];?_
       cases hm
       exact X7 ⟨rfl,H.reads (aA m0 (aA mm1 (aA mm2 (aA mm3 (aA mm4 (aA mm5 (aA (t8 (c _ g)) (fun r hr=>(t8 (c r hr))))))))))⟩
      ·refine wp_skip<|aC<|wp_region_lit<|pr 4 E rfl fun a E=>?_
       obtain ⟨q281,g5,rfl⟩:=H.slform mm1
       exact bA (i:=0) E H (wn rfl) rfl rfl rfl rfl rfl rfl Vg rfl rfl fun w H=>nt<|X3 ⟨E.to rfl,H,(Y2 c),mm1,hm⟩
   ·exact wp_skip<|aC<|X3 ⟨E.to rfl,H,c,(c _ g),hm⟩
 ·clear E H hm
  rintro a w ⟨u,N,D,E,H,b,e,hm⟩
  unfold oZ at hm
  refine sq<|pr 2 E rfl fun a E=>lb E H 1 rfl rfl rfl rfl rfl rfl rfl U9 rfl fun a E=>bd hm fun S e6 hm=>xk E rfl rfl rfl rfl rfl Vh (yY H e e6) fun w H a E=>pr 3 E rfl fun a E=>al E H rfl rfl rfl rfl Gl fun b8 w a H E=>bA (i:=0) E H (wn rfl) rfl rfl rfl rfl rfl rfl iK rfl rfl fun w H=>pr 1 E rfl fun a E=>?_
  refine nt<|aV (fun a w=>∃ V T U O Q G,Env 90 a [(4,pt y 0),(9,pt b8 0),(11,pt V 0)]∧Sep w (Blk y 48 bN::Blk b8 31 (mV S.1)::Blk V 25 [T,U]::Blk j 75 [z,A,u,I,l,m,n,o,p]::Row 95 aE T O::Row 77 aI U Q::Fo) G∧(∀ r,r ∈ rs→r ∈ G)∧rSl aT u N ∈ G∧tI S N O Q=some r) ?_ ?_
  ·refine bd hm fun n1 x hm=>?_
   have hI:eD [Blk j 75 [z,A,u,I,l,m,n,o,p],Blk t 37 (aS x20 J K L M)] [] { w with drawn:=w.drawn+1 }:=⟨_,_,H.kept (Kp.drawn _ w _),(aB mm1 (aB mm2 (aL))),(aM)⟩
   refine mA _ (.go 0 0 (.go 1 0 (.go 2 0 (.go 3 0 (.go 4 0 (.go 5 0 (.go 6 0 (.go 7 0 (.go 8 0 (.go 9 0 (.alt3 10 (.go 11 0 (.go 12 0 (.go 13 0 (.alt 14 (.go 15 1 (.go 16 1 (.go 17 2 .nil))) 15 (.go 14 1 (.go 16 1 (.go 17 2 .nil))))))) 14 (.alt 10 (.go 11 0 (.go 12 0 (.go 13 0 (.go 15 1 (.go 16 1 (.go 17 2 .nil)))))) 15 (.go 10 1 (.go 11 0 (.go 12 0 (.go 13 0 (.go 16 1 (.go 17 2 .nil))))))) 15 (.alt 10 (.go 11 0 (.go 12 0 (.go 13 0 (.go 14 1 (.go 16 1 (.go 17 2 .nil)))))) 14 (.go 10 1 (.go 11 0 (.go 12 0 (.go 13 0 (.go 16 1 (.go 17 2 .nil)))))))))))))))))) [17] mH (by kernel_rfl) (fun _ _ _ h=>False.elim h.2) hI<|have H:=H.kept (Kp.drawn _ w (w.drawn+1));?_
   generalize ({ w with drawn:=w.drawn+1 }:World)=w at H hI ⊢
   replace hI:∃ W,eD [Blk j 75 [z,A,u,I,l,m,n,o,p],Blk t 37 (aS x20 J K L M)] [] W:=⟨_,hI⟩
   obtain ⟨W0,hI⟩:=hI
   refine aZ E rfl (wn rfl) rfl rfl (fun w hW=>(bE E rfl rfl)) fun a E=>aZ E rfl (wn rfl) rfl rfl (fun w hW=>(vX E rfl rfl)) fun a E=>aZ E rfl (wn rfl) rfl rfl (fun w hW=>lA E rfl rfl (v:=pt j 0) (Fi _ _)) fun a E=>aZ E rfl (wn rfl) rfl rfl (fun w hW=>fC E rfl rfl (y0 (us:=[z,A]) m0 rfl U25 rfl dJ w hW)) fun a E=>aZ E rfl (wn rfl) rfl rfl (fun w hW=>(bE E rfl rfl)) fun a E=>aZ E rfl (wn rfl) rfl rfl (fun w hW=>(vX E rfl rfl)) fun a E=>aZ E rfl (wn rfl) rfl rfl (fun w hW=>lA E rfl rfl (v:=pt j 2) (Sb _ _)) fun a E=>aZ E rfl (wn rfl) rfl rfl (fun w hW=>fC E rfl rfl (mB m0 rfl U32 rfl w hW)) fun a E=>aZ E rfl (wn rfl) rfl rfl (fun w hW=>lA E rfl rfl (v:=pt t 6) (Kx _ _)) fun a E=>?_
   refine aZ E rfl (wn rfl) rfl rfl (fun w hW=>fC E rfl rfl (mB mm1 rfl U9 rfl w hW)) fun a E=>?_
   refine Nj rfl rfl rfl ?_ ?_ ?_
   ·refine cF E rfl rfl rfl rfl rfl F6 (lP (x1:=(⟨B,C⟩:aR)) H (b _ q) (b _ s) e x)<|?_
    rintro _ w ⟨g6,g7,g8,g9,rfl,H⟩ a E
    refine nt<|?_
    refine ⟨⟨_,_,H,(aB mm5 (aB mm6 (aL))),(aM)⟩,?_⟩
    refine aZ E rfl (wn rfl) rfl rfl (fun w hW=>(bE E rfl rfl)) fun a E=>aZ E rfl (wn rfl) rfl rfl (fun w hW=>(dF E rfl rfl rfl)) fun a E=>aZ E rfl (wn rfl) rfl rfl (fun w hW=>(dF E rfl rfl rfl)) fun a E=>?_
    refine mU rfl rfl ?_ ?_
    ·refine al E H rfl rfl rfl rfl lF fun i0 w a H E=>nt<|?_
     refine ⟨⟨_,_,H,(aB mm6 (aB (t1 mm6) (aL))),(aM)⟩,?_⟩
     refine cN rfl<|al E H rfl rfl rfl rfl lF fun i1 w a H E=>nt<|?_
     refine ⟨⟨_,_,H,(aB (t1 mm6) (aB (t2 mm6) (aL))),(aM)⟩,?_⟩
     refine cN rfl<|?_
     obtain ⟨q156,i2,rfl⟩:=H.rowform (i:=2) rfl
     obtain ⟨q158,i3,rfl⟩:=H.rowform (i:=3) rfl
     refine bA (i:=1) E H (wn rfl) rfl rfl rfl rfl rfl rfl dJ rfl rfl fun w H=>nt<|?_
     refine ⟨⟨_,_,H,(aB (t1 mm6) (aB (t2 mm6) (aL))),(aM)⟩,?_⟩
     refine cX rfl<|?_
     obtain ⟨q160,i4,rfl⟩:=H.rowform (i:=4) rfl
     obtain ⟨q162,i5,rfl⟩:=H.rowform (i:=5) rfl
     refine bA (i:=0) E H (wn rfl) rfl rfl rfl rfl rfl rfl dJ rfl rfl fun w H=>nt<|eL<|?_
     clear hI
     exact aC<|have H:=H.drs [0,3,3,5];have H:=H.frs [2,2,4,3,4,5] rfl;X6 ⟨E.to rfl,H,b,e,hm⟩
    ·refine al E H rfl rfl rfl rfl lF fun i6 w a H E=>nt<|?_
     refine ⟨⟨_,_,H,(aB mm6 (aB (t1 mm6) (aL))),(aM)⟩,?_⟩
     refine cN rfl<|al E H rfl rfl rfl rfl lF fun i7 w a H E=>nt<|?_
     refine ⟨⟨_,_,H,(aB (t1 mm6) (aB (t2 mm6) (aL))),(aM)⟩,?_⟩
     refine cN rfl<|?_
     obtain ⟨q166,i8,rfl⟩:=H.rowform (i:=2) rfl
     obtain ⟨q168,i9,rfl⟩:=H.rowform (i:=3) rfl
     refine bA (i:=0) E H (wn rfl) rfl rfl rfl rfl rfl rfl dJ rfl rfl fun w H=>nt<|?_
     refine ⟨⟨_,_,H,(aB (t1 mm6) (aB (t2 mm6) (aL))),(aM)⟩,?_⟩
     refine cX rfl<|?_
     obtain ⟨q170,j0,rfl⟩:=H.rowform (i:=4) rfl
     obtain ⟨q172,j1,rfl⟩:=H.rowform (i:=5) rfl
     refine bA (i:=1) E H (wn rfl) rfl rfl rfl rfl rfl rfl dJ rfl rfl fun w H=>nt<|eL<|?_
     clear hI
     exact aC<|have H:=H.drs [1,3,3,5];have H:=H.frs [2,2,4,3,4,5] rfl;X6 ⟨E.to rfl,H,b,e,hm⟩
   ·refine al E H rfl rfl rfl rfl lF fun j2 w a H E=>nt<|?_
    refine ⟨⟨_,_,H,(aB mm2 (aB mm3 (aL))),(aM)⟩,?_⟩
    refine mU rfl rfl ?_ ?_
    ·refine cF E rfl rfl rfl rfl rfl F6 (lP (x1:=(⟨B,C⟩:aR)) H (b _ q) (b _ s) e x)<|?_
     rintro _ w ⟨j3,j4,j5,j6,rfl,H⟩ a E
     refine nt<|?_
     refine ⟨⟨_,_,H,(aB mm6 (aB (t1 mm6) (aL))),(aM)⟩,?_⟩
     refine aZ E rfl (wn rfl) rfl rfl (fun w hW=>(bE E rfl rfl)) fun a E=>aZ E rfl (wn rfl) rfl rfl (fun w hW=>(dF E rfl rfl rfl)) fun a E=>aZ E rfl (wn rfl) rfl rfl (fun w hW=>(dF E rfl rfl rfl)) fun a E=>cN rfl<|al E H rfl rfl rfl rfl lF fun j7 w a H E=>nt<|?_
     refine ⟨⟨_,_,H,(aB (t1 mm6) (aB (t2 mm6) (aL))),(aM)⟩,?_⟩
     refine cN rfl<|?_
     obtain ⟨q182,j8,rfl⟩:=H.rowform (i:=1) rfl
     obtain ⟨q184,j9,rfl⟩:=H.rowform (i:=2) rfl
     refine bA (i:=5) E H (wn rfl) rfl rfl rfl rfl rfl rfl dJ rfl rfl fun w H=>nt<|?_
     refine ⟨⟨_,_,H,(aB (t1 mm6) (aB (t2 mm6) (aL))),(aM)⟩,?_⟩
     refine cX rfl<|?_
     obtain ⟨q186,k0,rfl⟩:=H.rowform (i:=3) rfl
     obtain ⟨q188,k1,rfl⟩:=H.rowform (i:=4) rfl
     refine bA (i:=0) E H (wn rfl) rfl rfl rfl rfl rfl rfl dJ rfl rfl fun w H=>nt<|eL<|?_
     clear hI
     exact aC<|have H:=H.drs [0,2,2,5];have H:=H.frs [1,1,4,3,4,5] rfl;X6 ⟨E.to rfl,H,b,e,hm⟩
    ·refine al E H rfl rfl rfl rfl lF fun k2 w a H E=>nt<|?_
     refine ⟨⟨_,_,H,(aB mm3 (aB mm4 (aL))),(aM)⟩,?_⟩
     refine cN rfl<|cF E rfl rfl rfl rfl rfl F6 (lP (x1:=(⟨B,C⟩:aR)) H (b _ q) (b _ s) e x)<|?_
     rintro _ w ⟨k3,k4,k5,k6,rfl,H⟩ a E
     refine nt<|?_
     refine ⟨⟨_,_,H,(aB (t1 mm6) (aB (t2 mm6) (aL))),(aM)⟩,?_⟩
     refine aZ E rfl (wn rfl) rfl rfl (fun w hW=>(bE E rfl rfl)) fun a E=>aZ E rfl (wn rfl) rfl rfl (fun w hW=>(dF E rfl rfl rfl)) fun a E=>aZ E rfl (wn rfl) rfl rfl (fun w hW=>(dF E rfl rfl rfl)) fun a E=>cN rfl<|?_
     obtain ⟨q197,k7,rfl⟩:=H.rowform (i:=0) rfl
     obtain ⟨q199,k8,rfl⟩:=H.rowform (i:=1) rfl
     refine bA (i:=5) E H (wn rfl) rfl rfl rfl rfl rfl rfl dJ rfl rfl fun w H=>nt<|?_
     refine ⟨⟨_,_,H,(aB (t1 mm6) (aB (t2 mm6) (aL))),(aM)⟩,?_⟩
     refine cX rfl<|?_
     obtain ⟨q201,k9,rfl⟩:=H.rowform (i:=2) rfl
     obtain ⟨q203,l0,rfl⟩:=H.rowform (i:=3) rfl
     refine bA (i:=4) E H (wn rfl) rfl rfl rfl rfl rfl rfl dJ rfl rfl fun w H=>nt<|eL<|?_
     clear hI
     exact aC<|have H:=H.drs [2,2,2,5];have H:=H.frs [1,1,4,3,4,5] rfl;X6 ⟨E.to rfl,H,b,e,hm⟩
   ·refine al E H rfl rfl rfl rfl lF fun l1 w a H E=>nt<|?_
    refine ⟨⟨_,_,H,(aB mm2 (aB mm3 (aL))),(aM)⟩,?_⟩
    refine mU rfl rfl ?_ ?_
    ·refine cF E rfl rfl rfl rfl rfl F6 (lP (x1:=(⟨B,C⟩:aR)) H (b _ q) (b _ s) e x)<|?_
     rintro _ w ⟨l2,l3,l4,l5,rfl,H⟩ a E
     refine nt<|?_
     refine ⟨⟨_,_,H,(aB mm6 (aB (t1 mm6) (aL))),(aM)⟩,?_⟩
     refine aZ E rfl (wn rfl) rfl rfl (fun w hW=>(bE E rfl rfl)) fun a E=>aZ E rfl (wn rfl) rfl rfl (fun w hW=>(dF E rfl rfl rfl)) fun a E=>aZ E rfl (wn rfl) rfl rfl (fun w hW=>(dF E rfl rfl rfl)) fun a E=>cN rfl<|al E H rfl rfl rfl rfl lF fun l6 w a H E=>nt<|?_
     refine ⟨⟨_,_,H,(aB (t1 mm6) (aB (t2 mm6) (aL))),(aM)⟩,?_⟩
     refine cN rfl<|?_
     obtain ⟨q213,l7,rfl⟩:=H.rowform (i:=1) rfl
     obtain ⟨q215,l8,rfl⟩:=H.rowform (i:=2) rfl
     refine bA (i:=0) E H (wn rfl) rfl rfl rfl rfl rfl rfl dJ rfl rfl fun w H=>nt<|?_
     refine ⟨⟨_,_,H,(aB (t1 mm6) (aB (t2 mm6) (aL))),(aM)⟩,?_⟩
     refine cX rfl<|?_
     obtain ⟨q217,l9,rfl⟩:=H.rowform (i:=3) rfl
     obtain ⟨q219,m1,rfl⟩:=H.rowform (i:=4) rfl
     refine bA (i:=5) E H (wn rfl) rfl rfl rfl rfl rfl rfl dJ rfl rfl fun w H=>nt<|eL<|?_
     clear hI
     exact aC<|have H:=H.drs [3,3,3,5];have H:=H.frs [2,2,4,3,4,5] rfl;X6 ⟨E.to rfl,H,b,e,hm⟩
    ·refine al E H rfl rfl rfl rfl lF fun m2 w a H E=>nt<|?_
     refine ⟨⟨_,_,H,(aB mm3 (aB mm4 (aL))),(aM)⟩,?_⟩
     refine cN rfl<|cF E rfl rfl rfl rfl rfl F6 (lP (x1:=(⟨B,C⟩:aR)) H (b _ q) (b _ s) e x)<|?_
     rintro _ w ⟨m3,m4,m5,m6,rfl,H⟩ a E
     refine nt<|?_
     refine ⟨⟨_,_,H,(aB (t1 mm6) (aB (t2 mm6) (aL))),(aM)⟩,?_⟩
     refine aZ E rfl (wn rfl) rfl rfl (fun w hW=>(bE E rfl rfl)) fun a E=>aZ E rfl (wn rfl) rfl rfl (fun w hW=>(dF E rfl rfl rfl)) fun a E=>aZ E rfl (wn rfl) rfl rfl (fun w hW=>(dF E rfl rfl rfl)) fun a E=>cN rfl<|?_
     obtain ⟨q228,m7,rfl⟩:=H.rowform (i:=0) rfl
     obtain ⟨q230,m8,rfl⟩:=H.rowform (i:=1) rfl
     refine bA (i:=4) E H (wn rfl) rfl rfl rfl rfl rfl rfl dJ rfl rfl fun w H=>nt<|?_
     refine ⟨⟨_,_,H,(aB (t1 mm6) (aB (t2 mm6) (aL))),(aM)⟩,?_⟩
     refine cX rfl<|?_
     obtain ⟨q232,m9,rfl⟩:=H.rowform (i:=2) rfl
     obtain ⟨q234,n0,rfl⟩:=H.rowform (i:=3) rfl
     refine bA (i:=5) E H (wn rfl) rfl rfl rfl rfl rfl rfl dJ rfl rfl fun w H=>nt<|eL<|?_
     clear hI
     exact aC<|have H:=H.drs [2,2,3,5];have H:=H.frs [1,1,4,3,4,5] rfl;X6 ⟨E.to rfl,H,b,e,hm⟩
  ·clear E H hm
   rintro a w ⟨V,T,U,O,Q,G,E,H,e7,e8,hm⟩
   unfold tI at hm
   refine sq<|pr 1 E rfl fun a E=>lb E H 1 rfl rfl rfl rfl rfl rfl rfl U2 rfl fun a E=>sv E rfl rfl rfl (cC (i:=2) (us:=[T,U]) E H rfl rfl rfl rfl U25 rfl dJ) fun a E=>?_
   obtain ⟨q56,b9,rfl⟩:=H.rowform (i:=4) rfl
   obtain ⟨q58,c0,rfl⟩:=H.rowform (i:=5) rfl
   refine sv E rfl rfl rfl (cL E rfl (E.evs rfl) (v:=.agg #[.int .i64 0,.int .i64 0,.bool false,.int .i64 S.1.Epoch,.slice none 0 0,(.slice q56 O.length b9),(.slice q58 Q.length c0),.slice none 0 0,.slice none 0 0,.slice none 0 0]) (by kernel_rfl)) fun a E=>bA (i:=0) E H (wn rfl) rfl rfl rfl rfl rfl rfl bV rfl rfl fun w H=>nt<|wp_ret<|dT E rfl (dD (i:=0) (us:=[.int .i64 0,.int .i64 0,.bool false,.int .i64 S.1.Epoch,.slice none 0 0,(.slice q56 O.length b9),(.slice q58 Q.length c0),.slice none 0 0,.slice none 0 0,.slice none 0 0]) H rfl rfl rfl U48 rfl bV)<|have H:=H.thaw (i:=4) rfl;have H:=H.thaw (i:=4) rfl;have H:=H.nilSl bF;have H:=H.nilSl aX;?_
   refine have H:=H.nilSl bM;have H:=H.nilSl (kI .i64);have H:=H.drs [0,0,0];?_
   cases hm
   exact X7 ⟨rfl,H.reads (aA mm3 (aA mm5 (aA mm4 (aA mm2 (aA mm1 (aA m0 (aA (t6 e8) (fun r hr=>(t6 (e7 r hr))))))))))⟩

def uE(d:List aG)(e:ByteArray)(f:Int)(c:Bool):Option ((List aG)×Bool):=
  if c=true then (some ([],false)) else ((r6 d (⟨e,f,1⟩:aG)).bind fun b=>some (b.1,b.2))
def nS(b:List aG)(c:ByteArray)(d:Int)(g:Bool):Option ((List aG)×Bool):=
  if g=true then (some ([],false)) else ((yV b c).bind fun e=>if e.2=true then ((idx b e.1).bind fun f=>uE b c d (decide (f.Epoch ≥ d))) else (uE b c d false))
def A3(c:List aG)(d:ByteArray)(b:Int):Option ((List aG)×Bool):=
  (nE c).bind fun e=>if (!e)=true then (nS c d b true) else ((eG d).bind fun f=>if (!f)=true then (nS c d b true) else (if (decide (b < 0))=true then (nS c d b true) else (nS c d b (decide (b > 281474976710656)))))
theorem Fz{p:Value}{q:List aG}{e:ByteArray}{f:Int}(H:Sep w (Fo) rs)(m:rSl aT p q ∈ rs){r:(List aG)×Bool}(hm:A3 q e f=some r) :
    Calls Tryz.prog 79 [p,.string e,.int .i64 f].toArray w (Ret fun v w'=>∃ A,.tuple #[A,.bool r.2]=v∧Sep w' (Row 31 aT A r.1::Fo) (rs)):=by
 unfold A3 at hm
 refine ent Tryz.func79 rfl Tryz.ntmps79 rfl rfl fun a E=>sq<|pr 2 E rfl fun a E=>nt<|wp_seq<|aV (fun a w=>∃ s n,Env 49 a [(0,p),(1,.string e),(2,.int .i64 f),(25,.bool s)]∧Sep w (Fo) n∧(∀ r,r ∈ rs→r ∈ n)∧nS q e f s=some r) ?_ ?_
 ·refine wp_region_lit<|pr 1 E rfl fun a E=>bd hm fun C t hm=>xk E rfl rfl rfl rfl rfl Ku (wX H m t) fun w H a E=>pr 2 E rfl fun a E=>cs hm (fun c hm=>?_) fun c hm=>?_
  ·exact pk 12 E (kc 13 rfl c) rfl fun a E=>nt<|⟨_,_,E.to rfl,H,Y0,hm⟩
  ·refine pk 1 E (kc 13 rfl c) rfl fun a E=>bd hm fun D u hm=>aW E (ws' (d:=13) E rfl rfl rfl rfl c) rfl rfl (cB E rfl rfl (y7 _)) (hZ H u)<|?_
   rintro _ w ⟨rfl,H⟩ a E
   refine pk 3 E (kc 13 rfl c) rfl fun a E=>cs hm (fun i hm=>?_) fun i hm=>?_
   ·exact pk 7 E (kc 18 rfl i) rfl fun a E=>nt<|⟨_,_,E.to rfl,H,Y0,hm⟩
   ·refine pk 4 E (kc 18 rfl i) rfl fun a E=>cs hm (fun j hm=>?_) fun j hm=>?_
    ·exact pk 3 E (kc 22 rfl j) rfl fun a E=>nt<|⟨_,_,E.to rfl,H,Y0,hm⟩
    ·exact pk 3 E (kc 22 rfl j) rfl fun a E=>nt<|⟨_,_,E.to rfl,H,Y0,hm⟩
 ·clear E H hm
  rintro a w ⟨s,n,E,H,g,hm⟩
  unfold nS at hm
  refine wif E hm rfl (fun hm=>?_) fun hm=>?_
  ·refine sq<|pr 2 E rfl fun a E=>nt<|wp_ret<|aP<|hG E rfl rfl rfl<|have H:=H.nilRow 31 aT;?_
   cases hm
   exact ⟨_,rfl,H.reads g⟩
  ·refine wp_skip<|aC<|wp_seq<|sq<|pr 2 E rfl fun a E=>bd hm fun I x hm=>xk E rfl rfl rfl rfl rfl Qe (J8 H (g _ m) x) fun w H a E=>pr 5 E rfl fun a E=>nt<|aV (fun a w=>∃ o k,Env 49 a [(0,p),(1,.string e),(2,.int .i64 f),(41,.bool o)]∧Sep w (Fo) k∧(∀ r,r ∈ rs→r ∈ k)∧uE q e f o=some r) ?_ ?_
   ·refine wp_region_lit<|pr 2 E rfl fun a E=>cs hm (fun b hm=>?_) fun b hm=>?_
    ·exact pk 2 E (kc 33 rfl b) rfl fun a E=>bd hm fun B y hm=>dR E H (ws' (d:=33) E rfl rfl rfl rfl b) rfl rfl rfl rfl rfl (g _ m) U32 iK y fun q20 a H E=>have H:=H.derive1 m0 (rAt (kI .i64) (q20.add 1) B.Epoch) (fun ok h=>y5 h);pk 1 E (kc 33 rfl b) rfl fun a E=>aQ E (ws' (d:=33) E rfl rfl rfl rfl b) rfl rfl (qT E H rfl rfl m0 U2 rfl) fun a E=>pk 3 E (kc 33 rfl b) rfl fun a E=>nt<|⟨_,_,E.to rfl,H,(Y2 g),hm⟩
    ·exact pk 8 E (kc 33 rfl b) rfl fun a E=>nt<|⟨_,_,E.to rfl,H,g,hm⟩
   ·clear E H hm
    rintro a w ⟨o,k,E,H,l,hm⟩
    unfold uE at hm
    refine wif E hm rfl (fun hm=>?_) fun hm=>?_
    ·refine sq<|pr 2 E rfl fun a E=>nt<|wp_ret<|aP<|hG E rfl rfl rfl<|have H:=H.nilRow 31 aT;?_
     cases hm
     exact ⟨_,rfl,H.reads l⟩
    ·refine wp_skip<|aC<|sq<|pr 3 E rfl fun a E=>sv E rfl rfl rfl (cL E rfl (E.evs rfl) (v:=.agg #[.string e,.int .i64 f,.int .i64 1]) (by kernel_rfl)) fun a E=>bd hm fun F z hm=>cF E rfl rfl rfl rfl rfl Qf (O3 (x3:=(⟨e,f,1⟩:aG)) H (l _ m) z)<|?_
     rintro _ w ⟨G,rfl,H⟩ a E
     refine pr 4 E rfl fun a E=>nt<|wp_ret<|hG E rfl rfl rfl<|?_
     cases hm
     exact ⟨_,rfl,H.reads l⟩

def vJ(x1:aN)(e:List aG)(b:List aG):Option Bool:=
  (qD e x1.Dir).bind fun c=>(qD b x1.Dir).bind fun d=>if (decide (c < 0))=true then (some (true)) else (if (decide (d < 0))=true then (some (true)) else ((idx e c).bind fun f=>(idx b d).bind fun g=>some (!(sEq f.Prefix g.Prefix))))
theorem R1{x1:aN}{x j e:Nat}{y f l m n o p q s t:Value}{L u:List aG}(H:Sep w (Blk x 28 [pt j 0]::Blk j 75 [l,m,y,n,o,p,q,s,t]::Blk e 32 [f]::Fo) rs)(g:rSl aT y L ∈ rs)(i:rSl aT f u ∈ rs){r:Bool}(hm:vJ x1 L u=some r) :
    Calls Tryz.prog 155 [.agg (pX x1).toArray,pt x 0,pt e 0].toArray w (Ret fun v w'=>.bool r=v∧Sep w' (Blk x 28 [pt j 0]::Blk j 75 [l,m,y,n,o,p,q,s,t]::Blk e 32 [f]::Fo) (rs)):=by
 unfold vJ at hm
 refine ent Tryz.func155 rfl Tryz.ntmps155 rfl rfl fun a E=>sq<|bS E H (wn rfl) rfl rfl rfl rfl rfl fun M w a H E=>pr 1 E rfl fun a E=>nt<|wp_seq<|dw [(0,0),(1,0),(2,0),(3,0),(4,0),(5,0),(7,0),(8,0),(9,0),(6,1),(10,1),(11,1),(12,2)] [0,1,2,3] [] H (by kernel_rfl) (fun _ _ _ h=>False.elim h.2) fun w W0 hI H=>fb E rfl (wn rfl) rfl rfl rfl rfl mm1 rfl U28 rfl fun a E=>fn 2 E rfl fun a E=>?_
 refine fb E rfl (wn rfl) rfl rfl rfl rfl mm2 rfl U32 rfl fun a E=>fn 1 E rfl fun a E=>fb E rfl (wn rfl) rfl rfl rfl rfl m0 rfl U9 rfl fun a E=>fb E rfl (wn rfl) rfl rfl rfl rfl mm3 rfl U32 rfl fun a E=>fn 1 E rfl fun a E=>fb E rfl (wn rfl) rfl rfl rfl rfl m0 rfl U9 rfl fun a E=>bY rfl<|bd hm fun N z hm=>xk E rfl rfl rfl rfl rfl Ds (wD H g z) fun w H a E=>?_
 refine nt<|?_
 refine ⟨⟨_,_,H,(aB m0 (aB mm1 (aB mm2 (aB mm3 (aL))))),(aM)⟩,?_⟩
 refine bY rfl<|bd hm fun O A hm=>xk E rfl rfl rfl rfl rfl Ds (wD H i A) fun w H a E=>nt<|?_
 refine ⟨⟨_,_,H,(aB m0 (aB mm1 (aB mm2 (aB mm3 (aL))))),(aM)⟩,?_⟩
 refine bY rfl<|pr 1 E rfl fun a E=>nt<|?_
 refine ⟨⟨_,_,H,(aB m0 (aB mm1 (aB mm2 (aB mm3 (aL))))),(aM)⟩,?_⟩
 refine bO rfl<|pr 1 E rfl fun a E=>nt<|bP<|?_
 clear hI
 refine aC<|wp_seq<|?_
 obtain ⟨Q,H⟩:=H.raw g
 obtain ⟨R,H⟩:=H.raw (t1 i)
 refine dw [(0,0),(1,0),(2,0),(3,0),(4,0),(5,0),(6,0),(7,0),(8,0),(9,0),(10,0),(11,0),(12,0),(13,0),(14,0),(15,0),(16,0),(17,0),(18,0),(19,0),(20,0),(21,0),(22,2)] [1,2,3] [1,0] H (by kernel_rfl) (fun _ _ _ h=>False.elim h.2) fun w W0 hI H=>fn 3 E rfl fun a E=>cs hm (fun c hm=>?_) fun c hm=>?_
 ·refine fk 19 E (kc 20 rfl c) rfl fun a E=>bO rfl<|pr 1 E rfl fun a E=>nt<|bP<|?_
  clear hI
  refine aC<|wp_ret<|aY E rfl rfl<|have H:=H.drop 0;?_
  cases hm
  exact ⟨rfl,H.reads (Y2 Y0)⟩
 ·refine fk 4 E (kc 20 rfl c) rfl fun a E=>cs hm (fun b hm=>?_) fun b hm=>?_
  ·refine fk 15 E (kc 24 rfl b) rfl fun a E=>bO rfl<|pr 1 E rfl fun a E=>nt<|bP<|?_
   clear hI
   refine aC<|wp_ret<|aY E rfl rfl<|have H:=H.drop 0;?_
   cases hm
   exact ⟨rfl,H.reads (Y2 Y0)⟩
  ·refine fb E rfl (ws' (d:=24) E rfl rfl rfl rfl b) rfl rfl rfl rfl m0 rfl U28 rfl fun a E=>fk 2 E (kc 24 rfl b) rfl fun a E=>fb E rfl (ws' (d:=24) E rfl rfl rfl rfl b) rfl rfl rfl rfl mm1 rfl U32 rfl fun a E=>fk 1 E (kc 24 rfl b) rfl fun a E=>bd hm fun S B hm=>?_
   obtain ⟨q46,T,C,D⟩:=oD (P:=Tryz.prog) (k:=.i64) hI (mT (.head _)) U32 iK B
   refine bT E rfl (ws' (d:=24) E rfl rfl rfl rfl b) rfl rfl (fun w hW=>rR E rfl rfl rfl (C w)) fun a E=>?_
   have F:=yP D (fun _ _ _ h=>qV h)
   refine fk 1 E (kc 24 rfl b) rfl fun a E=>fa E rfl (ws' (d:=24) E rfl rfl rfl rfl b) rfl rfl rfl rfl F U9 rfl fun a E=>fb E rfl (ws' (d:=24) E rfl rfl rfl rfl b) rfl rfl rfl rfl mm2 rfl U32 rfl fun a E=>fk 1 E (kc 24 rfl b) rfl fun a E=>bd hm fun U G hm=>?_
   obtain ⟨q53,V,I,J⟩:=oD (P:=Tryz.prog) (k:=.i64) hI (mT (.tail _ (.head _))) U32 iK G
   refine bT E rfl (ws' (d:=24) E rfl rfl rfl rfl b) rfl rfl (fun w hW=>rR E rfl rfl rfl (I w)) fun a E=>?_
   have K:=yP J (fun _ _ _ h=>qV h)
   refine fk 1 E (kc 24 rfl b) rfl fun a E=>fa E rfl (ws' (d:=24) E rfl rfl rfl rfl b) rfl rfl rfl rfl K U9 rfl fun a E=>fk 2 E (kc 24 rfl b) rfl fun a E=>bO rfl<|pr 1 E rfl fun a E=>nt<|bP<|?_
   clear hI
   refine aC<|wp_ret<|aY E rfl rfl<|have H:=H.drop 0;?_
   cases hm
   exact ⟨rfl,H.reads (Y2 Y0)⟩

def fV(e:List aN)(c:List aG)(d:List aG):Nat→Int→Option Int
  | 0,_=>none
  | i+1,b=>
    if (decide (b < (e.length:Int)))=true then ((idx e b).bind fun f=>(vJ f c d).bind fun g=>if g=true then (some (b)) else (fV e c d i (IntKind.i64.wrap (b+1)))) else (some ((-1)))
def kF(b:List aN)(c:List aG)(d:List aG):Option Int:=
  fV b c d (((b.length:Int) - 0:Int).toNat+1) 0
theorem xY{A z e i j k l m n o p:Value}{q:List aN}{s f c:Nat}{t u:List aG}(H:Sep w (Blk s 28 [pt f 0]::Blk f 75 [i,j,z,k,l,m,n,o,p]::Blk c 32 [e]::Fo) rs)(x:rSl bH A q ∈ rs)(B:rSl aT z t ∈ rs)(C:rSl aT e u ∈ rs){r:Int}(hm:kF q t u=some r) :
    Calls Tryz.prog 120 [A,.func (.func 155) #[] #[pt s 0,pt c 0]].toArray w (Ret fun v w'=>.int .i64 r=v∧Sep w' (Blk s 28 [pt f 0]::Blk f 75 [i,j,z,k,l,m,n,o,p]::Blk c 32 [e]::Fo) (rs)):=by
 unfold kF at hm
 refine ent Tryz.func120 rfl Tryz.ntmps120 rfl rfl fun a E=>sq<|pr 1 E rfl fun a E=>nt<|wp_seq<|sq<|pr 1 E rfl fun a E=>sv E rfl rfl rfl (cV E H rfl rfl x U62) fun a E=>pr 1 E rfl fun a E=>?_
 refine nt<|wp_block<|bX (fun g a w=>∃ y d,Env 19 a [(0,A),(1,.func (.func 155) #[] #[pt s 0,pt c 0]),(7,.int .i64 (q.length:Int)),(8,.int .i64 y)]∧Sep w (Blk s 28 [pt f 0]::Blk c 32 [e]::Blk f 75 [i,j,z,k,l,m,n,o,p]::Fo) d∧(∀ r,r ∈ rs→r ∈ d)∧fV q t u g y=some r) (((q.length:Int) - 0:Int).toNat+1) ?_ ?_
 ·exact have H:=H.frs [1,2,2] rfl;⟨_,_,E.to rfl,H,Y0,hm⟩
 ·clear E H hm
  rintro g a w ⟨y,d,E,H,b,hm⟩
  cases g with
  | zero=>exact (bU hm rfl).elim
  | succ g=>
   unfold fV at hm
   refine sq<|pr 1 E rfl fun a E=>nt<|wp_seq<|wif E hm rfl (fun hm=>?_) fun hm=>?_
   ·refine wp_skip<|aC<|wp_seq<|wp_block<|sq<|pr 2 E rfl fun a E=>nx<|pr 3 E rfl fun a E=>bd hm fun G D hm=>?_
    refine dR E H (wn rfl) rfl rfl rfl rfl rfl (b _ x) U62 iW D fun q42 a H E=>ldf eX E H rfl rfl rfl rfl rfl m0 F5 rfl iW fun a E=>have H:=H.frs [1,2,2] rfl;bd hm fun I F hm=>aW E (wn rfl) rfl rfl (bR E rfl rfl rfl (JK _)) (R1 H (t1 (b _ B)) (t1 (b _ C)) F)<|?_
    rintro _ w ⟨rfl,H⟩ a E
    refine nt<|wif E hm rfl (fun hm=>?_) fun hm=>?_
    ·refine sq<|pr 2 E rfl fun a E=>nt<|wp_ret<|bW<|aP<|aP<|bW<|aP<|?_
     refine aY E rfl rfl<|?_
     cases hm
     exact ⟨rfl,H.reads (Y1 b)⟩
    ·exact wp_skip<|bZ<|aC<|wp_region_lit<|pr 2 E rfl fun a E=>nt<|have H:=H.frs [1,2,2] rfl;⟨g,Nat.lt_succ_self g,_,_,E.to rfl,H,(Y1 b),hm⟩
   ·refine wp_exit<|bG<|bG<|dN<|aC<|sq<|pr 1 E rfl fun a E=>nt<|wp_ret<|?_
    refine aY E rfl rfl<|have H:=H.frs [1,2,2] rfl;?_
    cases hm
    exact ⟨rfl,H.reads b⟩

def jB(e:List aN)(b:List aG)(c:List aG):Option Bool:=
  (kF e b c).bind fun d=>some (decide (d ≥ 0))
theorem vU{y p b e f g i j k l m:Value}{z:List aN}{q d c:Nat}{n o:List aG}(H:Sep w (Blk q 28 [pt d 0]::Blk d 75 [e,f,p,g,i,j,k,l,m]::Blk c 32 [b]::Fo) rs)(s:rSl bH y z ∈ rs)(t:rSl aT p n ∈ rs)(u:rSl aT b o ∈ rs){r:Bool}(hm:jB z n o=some r) :
    Calls Tryz.prog 127 [y,.func (.func 155) #[] #[pt q 0,pt c 0]].toArray w (Ret fun v w'=>.bool r=v∧Sep w' (Blk q 28 [pt d 0]::Blk d 75 [e,f,p,g,i,j,k,l,m]::Blk c 32 [b]::Fo) (rs)):=by
 unfold jB at hm
 refine ent Tryz.func127 rfl Tryz.ntmps127 rfl rfl fun a E=>sq<|pr 1 E rfl fun a E=>nx<|pr 2 E rfl fun a E=>bd hm fun A x hm=>xk E rfl rfl rfl rfl rfl Fh (xY H s t u x) fun w H a E=>pr 2 E rfl fun a E=>nt<|?_
 refine wp_ret<|aY E rfl rfl<|?_
 cases hm
 exact ⟨rfl,H.reads Y0⟩

def xZ(d:List aG)(e:List aN)(b:List aG):Option Bool:=
  (jB e d b).bind fun c=>some (c)
theorem W6{m:Nat}{n o c d e f g i j k:Value}{t l:List aG}{u:List aN}(H:Sep w (Blk m 75 [d,e,n,o,f,g,i,j,k]::Fo) rs)(p:rSl aT n t ∈ rs)(q:rSl bH o u ∈ rs)(b:rSl aT c l ∈ rs){r:Bool}(hm:xZ t u l=some r) :
    Calls Tryz.prog 81 [pt m 0,c].toArray w (Ret fun v w'=>.bool r=v∧Sep w' (Blk m 75 [d,e,n,o,f,g,i,j,k]::Fo) (rs)):=by
 unfold xZ at hm
 refine ent Tryz.func81 rfl Tryz.ntmps81 rfl rfl fun a E=>sq<|bS E H (wn rfl) rfl rfl rfl rfl rfl fun x w a H E=>?_
 obtain ⟨q34,y,rfl⟩:=H.slform b
 refine bS E H (wn rfl) rfl rfl rfl rfl rfl fun z w a H E=>pr 1 E rfl fun a E=>nx<|lb E H 1 rfl rfl rfl rfl rfl rfl rfl U28 rfl fun a E=>pr 2 E rfl fun a E=>lb E H 2 rfl rfl rfl rfl rfl rfl rfl U62 rfl fun a E=>sv E rfl rfl rfl (kJ E rfl rfl rfl) fun a E=>have H:=H.frs [0,2,2] rfl;bd hm fun A s hm=>?_
 refine xk E rfl rfl rfl rfl rfl Qg (vU H q p b s) fun w H a E=>pr 1 E rfl fun a E=>nt<|wp_ret<|aY E rfl rfl<|have H:=H.drs [0,1];?_
 cases hm
 exact ⟨rfl,H.reads Y0⟩

def zU(x1:aG)(b:ByteArray):Option Int:=
  (jZ x1.Prefix b).bind fun c=>some (c)
theorem R2{x1:aG}{b:ByteArray}(H:Sep w (Fo) rs){r:Int}(hm:zU x1 b=some r) :
    Calls Tryz.prog 153 [.agg (mV x1).toArray,.string b].toArray w (Ret fun v w'=>.int .i64 r=v∧Sep w' (Fo) (rs)):=by
 unfold zU at hm
 refine ent Tryz.func153 rfl Tryz.ntmps153 rfl rfl fun a E=>sq<|bS E H (wn rfl) rfl rfl rfl rfl rfl fun d w a H E=>pr 1 E rfl fun a E=>nx<|pr 1 E rfl fun a E=>lb E H 0 rfl rfl rfl rfl rfl rfl rfl U9 rfl fun a E=>pr 1 E rfl fun a E=>bd hm fun e c hm=>?_
 refine xk E rfl rfl rfl rfl rfl Ld (rK H c) fun w H a E=>pr 1 E rfl fun a E=>nt<|wp_ret<|aY E rfl rfl<|have H:=H.drop 0;?_
 cases hm
 exact ⟨rfl,H.reads Y0⟩

def dE(c:List aG)(e:ByteArray):Nat→Int→Int→Option (Int×Bool)
  | 0,_,_=>none
  | f+1,b,d=>
    if (decide (b < d))=true then ((idx c (IntKind.i64.wrap (rD .u64 (IntKind.u64.wrap (IntKind.i64.wrap (b+d))) 1))).bind fun k=>(zU k e).bind fun g=>if (decide (g < 0))=true then (dE c e f (IntKind.i64.wrap ((IntKind.i64.wrap (rD .u64 (IntKind.u64.wrap (IntKind.i64.wrap (b+d))) 1))+1)) d) else (dE c e f b (IntKind.i64.wrap (rD .u64 (IntKind.u64.wrap (IntKind.i64.wrap (b+d))) 1)))) else (if (decide (b < (c.length:Int)))=true then ((idx c b).bind fun i=>(zU i e).bind fun j=>some (b,j == 0)) else (some (b,false)))
def fG(b:List aG)(c:ByteArray):Option (Int×Bool):=
  dE b c (((b.length:Int) - 0:Int).toNat+1) 0 (b.length:Int)
theorem qP{j:Value}{e:List aG}{p:ByteArray}(H:Sep w (Row 31 aT j e::Fo) rs){r:Int×Bool}(hm:fG e p=some r) :
    Calls Tryz.prog 152 [j,.string p,.func (.func 153) #[] #[]].toArray w (Ret fun v w'=>.tuple #[.int .i64 r.1,.bool r.2]=v∧Sep w' (Row 31 aT j e::Fo) (rs)):=by
 unfold fG at hm
 refine ent Tryz.func152 rfl Tryz.ntmps152 rfl rfl fun a E=>sq<|pr 2 E rfl fun a E=>nx<|pr 1 E rfl fun a E=>sv E rfl rfl rfl (kK (i:=0) E H rfl rfl rfl U32) fun a E=>pr 1 E rfl fun a E=>nx<|pr 3 E rfl fun a E=>?_
 refine nt<|wp_seq<|wp_block<|bX (fun c a w=>∃ q s k,Env 49 a [(0,j),(1,.string p),(2,.func (.func 153) #[] #[]),(8,.int .i64 (e.length:Int)),(9,.int .i64 q),(10,.int .i64 s)]∧Sep w (Row 31 aT j e::Fo) k∧(∀ r,r ∈ rs→r ∈ k)∧dE e p c q s=some r) (((e.length:Int) - 0:Int).toNat+1) ?_ ?_
 ·exact X3 ⟨E.to rfl,H,Y0,hm⟩
 ·clear E H hm
  rintro c a w ⟨q,s,k,E,H,g,hm⟩
  cases c with
  | zero=>exact (bU hm rfl).elim
  | succ c=>
   unfold dE at hm
   refine wp_seq<|sq<|pr 3 E rfl fun a E=>nt<|wif E hm rfl (fun hm=>?_) fun hm=>?_
   ·refine wp_skip<|aC<|wp_block<|sq<|pr 4 E rfl fun a E=>sv E rfl rfl rfl (S4 E rfl rfl rfl (by decide)) fun a E=>pr 2 E rfl fun a E=>nx<|pr 3 E rfl fun a E=>?_
    refine bd hm fun t l hm=>?_
    obtain ⟨y,z,m⟩:=H.rowformNE (i:=0) rfl l
    refine sv E rfl rfl rfl (dG (d:=aT) E m rfl rfl rfl rfl U32 iK l) fun a E=>sv E rfl rfl rfl (hP (i:=0) E H jI m rfl rfl rfl l (us:=[.string t.Prefix,.int .i64 t.Epoch,.int .i64 t.State]) rfl U31 rfl iK) fun a E=>pr 1 E rfl fun a E=>bd hm fun A u hm=>aW E (wn rfl) rfl rfl (bR E rfl rfl rfl (Xp _)) (R2 H u)<|?_
    rintro _ w ⟨rfl,H⟩ a E
    refine pr 1 E rfl fun a E=>nt<|wif E hm rfl (fun hm=>?_) fun hm=>?_
    ·exact wp_region_lit<|pr 3 E rfl fun a E=>wpList_nil<|bZ<|aC<|⟨c,Nat.lt_succ_self c,X3 ⟨E.to rfl,H,g,hm⟩⟩
    ·exact wp_region_lit<|pr 2 E rfl fun a E=>wpList_nil<|bZ<|aC<|⟨c,Nat.lt_succ_self c,X3 ⟨E.to rfl,H,g,hm⟩⟩
   ·refine wp_exit<|bG<|bG<|dN<|aC<|sq<|pr 5 E rfl fun a E=>cs hm (fun b hm=>?_) fun b hm=>?_
    ·refine pk 3 E (kc 39 rfl b) rfl fun a E=>bd hm fun n f hm=>?_
     obtain ⟨B,C,o⟩:=H.rowformNE (i:=0) rfl f
     refine aQ E (ws' (d:=39) E rfl rfl rfl rfl b) rfl rfl (dG (d:=aT) E o rfl rfl rfl rfl U32 iK f) fun a E=>aQ E (ws' (d:=39) E rfl rfl rfl rfl b) rfl rfl (hP (i:=0) E H jI o rfl rfl rfl f (us:=[.string n.Prefix,.int .i64 n.Epoch,.int .i64 n.State]) rfl U31 rfl iK) fun a E=>pk 1 E (kc 39 rfl b) rfl fun a E=>bd hm fun D x hm=>aW E (ws' (d:=39) E rfl rfl rfl rfl b) rfl rfl (bR E rfl rfl rfl (Xp _)) (R2 H x)<|?_
     rintro _ w ⟨rfl,H⟩ a E
     refine pk 4 E (kc 39 rfl b) rfl fun a E=>nt<|wp_ret<|hG E rfl rfl rfl<|?_
     cases hm
     exact ⟨rfl,H.reads g⟩
    ·refine pk 11 E (kc 39 rfl b) rfl fun a E=>nt<|wp_ret<|hG E rfl rfl rfl<|?_
     cases hm
     exact ⟨rfl,H.reads g⟩

def yI(rec_1:(List aG)→Int→Option (List aG))(c:Int)(b:(List aG)):Option (List aG):=
  rec_1 b (IntKind.i64.wrap (c+1))
def qY(d:List ByteArray):Nat→(List aG)→Int→Option (List aG)
  | 0,_,_=>none
  | g+1,c,e=>
    if (decide (e < (d.length:Int)))=true then ((idx d e).bind fun f=>(fG c f).bind fun b=>if (!b.2)=true then ((ck (0 ≤ b.1∧b.1 ≤ c.length∧c.length ≤ 1000000)).bind fun i=>yI (qY d g) e (c.take b.1.toNat ++ (⟨f,0,3⟩:aG)::c.drop b.1.toNat)) else (yI (qY d g) e c)) else (some (c))
def K2(c:List aG)(b:List ByteArray):Option (List aG):=
  qY b (((b.length:Int) - 0:Int).toNat+1) c 0
theorem Ll{z n:Value}{A:List aG}{f:List ByteArray}(H:Sep w (Row 31 aT z A::Fo) rs)(o:rSl kS n f ∈ rs){r:(List aG)}(hm:K2 A f=some r) :
    Calls Tryz.prog 80 [z,n].toArray w (Ret fun v w'=>∃ B,B=v∧Sep w' (Row 31 aT B r::Fo) (rs)):=by
 unfold K2 at hm
 refine ent Tryz.func80 rfl Tryz.ntmps80 rfl rfl fun a E=>sq<|pr 1 E rfl fun a E=>nt<|wp_seq<|sq<|pr 1 E rfl fun a E=>sv E rfl rfl rfl (cV E H rfl rfl o U33) fun a E=>pr 1 E rfl fun a E=>?_
 refine nt<|wp_block<|bX (fun g a w=>∃ p q j k,Env 31 a [(0,p),(9,n),(10,.int .i64 (f.length:Int)),(11,.int .i64 j)]∧Sep w (Row 31 aT p q::Fo) k∧(∀ r,r ∈ rs→r ∈ k)∧qY f g q j=some r) (((f.length:Int) - 0:Int).toNat+1) ?_ ?_
 ·exact X4 ⟨E.to rfl,H,Y0,hm⟩
 ·clear E H hm
  rintro g a w ⟨p,q,j,k,E,H,b,hm⟩
  cases g with
  | zero=>exact (bU hm rfl).elim
  | succ g=>
   unfold qY at hm
   refine sq<|pr 1 E rfl fun a E=>nt<|wp_seq<|wif E hm rfl (fun hm=>?_) fun hm=>?_
   ·refine wp_skip<|aC<|aV (fun a w=>∃ l m i,Env 31 a [(0,l),(9,n),(10,.int .i64 (f.length:Int)),(11,.int .i64 j)]∧Sep w (Row 31 aT l m::Fo) i∧(∀ r,r ∈ rs→r ∈ i)∧yI (qY f g) j m=some r) ?_ ?_
    ·refine wp_block<|sq<|bd hm fun c s hm=>dR E H (wn rfl) rfl rfl rfl rfl rfl (b _ o) U33 sz9 s fun q17 a H E=>sv E rfl rfl rfl (qT E H rfl rfl m0 U9 rfl) fun a E=>pr 1 E rfl fun a E=>nx<|pr 2 E rfl fun a E=>bd hm fun C t hm=>?_
     refine xk E rfl rfl rfl rfl rfl Xl (qP H t) fun w H a E=>pr 5 E rfl fun a E=>nx<|pr 2 E rfl fun a E=>nt<|wif E hm rfl (fun hm=>?_) fun hm=>?_
     ·refine wp_region_lit<|pr 3 E rfl fun a E=>sv E rfl rfl rfl (cL E rfl (E.evs rfl) (v:=.agg #[.string c,.int .i64 0,.int .i64 3]) (by kernel_rfl)) fun a E=>hJ (e:=31) (d:=aT) (cs:=[.string c,.int .i64 0,.int .i64 3]) (xs:=[(⟨c,0,3⟩:aG)]) E H (wn rfl) rfl rfl rfl (E.evs rfl) (by kernel_rfl) rfl rfl (fun ok hr=>(Rows.single (d:=aT) (cs:=[.string c,.int .i64 0,.int .i64 3]) (x:=(⟨c,0,3⟩:aG)) uY)) fun D w a H E=>bk hm fun u hm=>aW E (wn rfl) rfl rfl (cB E rfl rfl (Xn _)) (Ra.insert_a (ix:=1) (iu:=0) H rfl rfl (by decide) u) fun F w H a E=>pr 1 E rfl fun a E=>wpList_nil<|bZ<|?_
      exact aC<|have H:=H.drop 0;X3 ⟨E.to rfl,H,(Y1 b),hm⟩
     ·exact wp_skip<|bZ<|aC<|X3 ⟨E.to rfl,H,(Y1 b),hm⟩
    ·clear E H hm
     rintro a w ⟨l,m,i,E,H,y,hm⟩
     unfold yI at hm
     exact wp_region_lit<|pr 2 E rfl fun a E=>nt<|⟨g,Nat.lt_succ_self g,X4 ⟨E.to rfl,H,y,hm⟩⟩
   ·refine wp_exit<|bG<|bG<|dN<|aC<|sq<|pr 2 E rfl fun a E=>nt<|wp_ret<|?_
    refine aY E rfl rfl<|?_
    cases hm
    exact ⟨_,rfl,H.reads b⟩

def sU(x20:aU)(e:(List aG))(c:(List aF))(d:(List aJ)):Option (aH×(List aF)×(List aJ)×(List aG)):=
  (xJ x20.Store e x20.Prefix).bind fun b=>(ck (c.length+b.1.length ≤ LIM)).bind fun f=>(ck (d.length+b.2.1.length ≤ LIM)).bind fun g=>(ck ((c ++ b.1).length ≤ 1000000)).bind fun i=>(ck ((d ++ b.2.1).length ≤ 1000000)).bind fun j=>some ((⟨0,0,false,0,[],(⟨[],[]⟩:aR),[],[],[]⟩:aH),srtN (c ++ b.1),Tn.srtN (d ++ b.2.1),e)
def oL(x20:aU)(c:(List aG))(d:List aF)(e:List aJ)(i:List aG)(f:Bool):Option (aH×(List aF)×(List aJ)×(List aG)):=
  if f=true then ((dZ 131).bind fun g=>some (g,d,e,i)) else ((xJ (⟨d,e⟩:aR) c x20.Prefix).bind fun b=>sU x20 c b.2.2.1 b.2.2.2)
def oM(x20:aU)(b:(List aG))(e:List aF)(f:List aJ)(d:List aG)(i:List aN)(j:Bool):Option (aH×(List aF)×(List aJ)×(List aG)):=
  if j=true then ((dZ 2).bind fun k=>some (k,e,f,d)) else ((uD i b x20.Prefix).bind fun c=>if c=true then (oL x20 b e f d c) else ((xZ d i b).bind fun g=>oL x20 b e f d g))
def oN(x20:aU)(d:List aF)(e:List aJ)(f:List aG)(g:List aN)(c:(List aG)×Bool)(b:(List aG)):Option (aH×(List aF)×(List aJ)×(List aG)):=
  if (!c.2)=true then (oM x20 b d e f g (!c.2)) else (oM x20 b d e f g (decide ((b.length:Int) > 32)))
def oO(x20:aU)(d:List aF)(e:List aJ)(c:List aG)(g:List aN)(i:Bool):Option (aH×(List aF)×(List aJ)×(List aG)):=
  if i=true then (some ((⟨0,0,false,0,[],(⟨[],[]⟩:aR),[],[],[]⟩:aH),d,e,c)) else ((A3 c x20.Prefix x20.Epoch).bind fun b=>if b.2=true then ((K2 b.1 x20.Gone).bind fun f=>oN x20 d e c g b f) else (oN x20 d e c g b b.1))
def vK(d:List aF)(e:List aJ)(c:List aG)(f:List aN)(x20:aU):Option (aH×(List aF)×(List aJ)×(List aG)):=
  (qO c x20.Prefix).bind fun b=>if b.2=true then (oO x20 d e c f (decide (b.1.Epoch ≥ x20.Epoch))) else (oO x20 d e c f false)
theorem R3{t:Nat}{u x z A s g j l m n o p q:Value}{P:List aF}{Q:List aJ}{b7:List aG}{b8:List aN}{x20:aU}(H:Sep w (Blk t 75 [u,x,z,A,m,n,o,p,q]::Fo) rs)(D:rSl aE u P ∈ rs)(F:rSl aI x Q ∈ rs)(O:rSl aT z b7 ∈ rs)(b9:rSl bH A b8 ∈ rs)(g1:rSl aE g x20.Store.Nodes ∈ rs)(g2:rSl aI j x20.Store.Turns ∈ rs)(g3:rSl kS l x20.Gone ∈ rs){r:aH×(List aF)×(List aJ)×(List aG)}(hm:vK P Q b7 b8 x20=some r) :
    Calls Tryz.prog 30 [pt t 0,.agg (aS x20 s g j l).toArray].toArray w (Ret fun v w'=>∃ l1 l2 l3 l4 l5 l6 l7 e8 e9,.agg (bC r.1 l1 l2 l3 l4 l5 l6).toArray=v∧Sep w' (Blk t 75 [l7,e8,e9,A,m,n,o,p,q]::Fo) (rSl bF l1 r.1.Results::rSl aE l2 r.1.Store.Nodes::rSl aI l3 r.1.Store.Turns::rSl aX l4 r.1.Events::rSl bM l5 r.1.Mounts::rSl (kI .i64) l6 r.1.Wounded::rSl aE l7 r.2.1::rSl aI e8 r.2.2.1::rSl aT e9 r.2.2.2::rs)):=by
 unfold vK at hm
 refine ent Tryz.func30 rfl Tryz.ntmps30 rfl rfl fun a E=>sq<|bS E H (wn rfl) rfl rfl rfl rfl rfl fun f w a H E=>al E H rfl rfl rfl rfl gO fun k w a H E=>nt<|wp_seq<|sq<|pr 2 E rfl fun a E=>lb E H 1 rfl rfl rfl rfl rfl rfl rfl U9 rfl fun a E=>?_
 refine have H:=H.frs [1,1,2] rfl;bd hm fun l8 g4 hm=>xk E rfl rfl rfl rfl rfl Vh (yY H O g4) fun w H a E=>pr 3 E rfl fun a E=>al E H rfl rfl rfl rfl Gl fun o1 w a H E=>bA (i:=0) E H (wn rfl) rfl rfl rfl rfl rfl rfl iK rfl rfl fun w H=>pr 1 E rfl fun a E=>nt<|aV (fun a w=>∃ c0 Z,Env 110 a [(0,pt t 0),(3,pt f 0),(4,pt k 0),(27,.bool c0)]∧Sep w (Blk t 75 [u,x,z,A,m,n,o,p,q]::Blk f 37 (aS x20 s g j l)::Blk k 48 bN::Fo) Z∧(∀ r,r ∈ rs→r ∈ Z)∧oO x20 P Q b7 b8 c0=some r) ?_ ?_
 ·refine wp_region_lit<|pr 2 E rfl fun a E=>cs hm (fun B hm=>?_) fun B hm=>?_
  ·exact pk 1 E (kc 21 rfl B) rfl fun a E=>aQ E (ws' (d:=21) E rfl rfl rfl rfl B) rfl rfl (cD (i:=0) E H rfl rfl rfl rfl U2 rfl) fun a E=>pk 1 E (kc 21 rfl B) rfl fun a E=>aQ E (ws' (d:=21) E rfl rfl rfl rfl B) rfl rfl (cD (i:=3) E H rfl rfl rfl rfl U2 rfl) fun a E=>pk 2 E (kc 21 rfl B) rfl fun a E=>nt<|have H:=H.drop 0;have H:=H.frs [1,2,2] rfl;⟨decide (l8.1.Epoch ≥ x20.Epoch),_,E.sel [0,3,4,27] rfl,H,fun r hr=>hr,hm⟩
  ·exact pk 6 E (kc 21 rfl B) rfl fun a E=>nt<|have H:=H.drop 0;have H:=H.frs [1,2,2] rfl;⟨false,_,E.sel [0,3,4,27] rfl,H,fun r hr=>hr,hm⟩
 ·clear E H hm
  rintro a w ⟨c0,Z,E,H,G,hm⟩
  unfold oO at hm
  refine wif E hm rfl (fun hm=>?_) fun hm=>?_
  ·refine sq<|sv E rfl rfl rfl (cL E rfl (E.evs rfl) (v:=.agg bN.toArray) (by kernel_rfl)) fun a E=>bA (i:=2) E H (wn rfl) rfl rfl rfl rfl rfl rfl bV rfl rfl fun w H=>?_
   replace H:Sep w (Blk t 75 [u,x,z,A,m,n,o,p,q]::Blk f 37 (aS x20 s g j l)::Blk k 48 bN::Fo) _:=H
   refine nt<|wp_ret<|aP<|dT E rfl (dD (i:=2) (us:=bN) H rfl rfl rfl U48 rfl bV)<|have H:=H.nilSl bF;have H:=H.nilSl aE;have H:=H.nilSl aI;have H:=H.nilSl aX;have H:=H.nilSl bM;?_
   refine have H:=H.nilSl (kI .i64);have H:=H.drs [1,1];?_
   cases hm
   exact ⟨(.slice none 0 0),(.slice none 0 0),(.slice none 0 0),(.slice none 0 0),(.slice none 0 0),(.slice none 0 0),u,x,z,rfl,H.reads (aA mm5 (aA mm4 (aA mm3 (aA mm2 (aA mm1 (aA m0 (aA (t6 (G _ D)) (aA (t6 (G _ F)) (aA (t6 (G _ O)) (fun r hr=>(t6 (G r hr))))))))))))⟩
  ·refine wp_skip<|aC<|wp_seq<|dw [(0,0),(1,0),(2,0),(3,0),(4,0),(5,0),(6,0),(7,0),(8,1),(9,0),(10,0),(11,0),(12,1),(13,2)] [0,1] [] H (by kernel_rfl) (fun _ _ _ h=>False.elim h.2) fun w W0 hI H=>fn 3 E rfl fun a E=>fb E rfl (wn rfl) rfl rfl rfl rfl m0 rfl U32 rfl fun a E=>fn 1 E rfl fun a E=>fb E rfl (wn rfl) rfl rfl rfl rfl mm1 rfl U9 rfl fun a E=>fn 1 E rfl fun a E=>?_
   refine fb E rfl (wn rfl) rfl rfl rfl rfl mm1 rfl U2 rfl fun a E=>bY rfl<|bd hm fun b4 g5 hm=>cF E rfl rfl rfl rfl rfl LN (Fz H (G _ O) g5)<|?_
   rintro _ w ⟨l9,rfl,H⟩ a E
   refine nt<|?_
   refine ⟨⟨_,_,H,(aB mm1 (aB mm2 (aL))),(aM)⟩,?_⟩
   refine fn 3 E rfl fun a E=>bY rfl<|pr 1 E rfl fun a E=>nt<|?_
   refine ⟨⟨_,_,H,(aB mm1 (aB mm2 (aL))),(aM)⟩,?_⟩
   refine bO rfl<|pr 1 E rfl fun a E=>nt<|bP<|?_
   clear hI
   refine aC<|aV (fun a w=>∃ K I b0,Env 110 a [(0,pt t 0),(3,pt f 0),(4,pt k 0),(7,K),(8,.bool b4.2)]∧Sep w (Blk t 75 [u,x,z,A,m,n,o,p,q]::Blk f 37 (aS x20 s g j l)::Blk k 48 bN::Row 31 aT K I::Fo) b0∧(∀ r,r ∈ rs→r ∈ b0)∧oN x20 P Q b7 b8 b4 I=some r) ?_ ?_
   ·refine sq<|pr 1 E rfl fun a E=>nt<|wif E hm rfl (fun hm=>?_) fun hm=>?_
    ·refine wp_region_lit<|pr 2 E rfl fun a E=>lb E H 2 rfl rfl rfl rfl rfl rfl rfl U33 rfl fun a E=>bd hm fun g6 e1 hm=>cF E rfl rfl rfl rfl rfl LO (Ll H (G _ g3) e1)<|?_
     rintro _ w ⟨g7,rfl,H⟩ a E
     exact pr 1 E rfl fun a E=>nt<|have H:=H.frs [0,3,3,3] rfl;⟨g7,g6,_,E.sel [0,3,4,7,8] rfl,H,G,hm⟩
    ·exact wp_skip<|aC<|have H:=H.frs [0,3,3,3] rfl;⟨l9,b4.1,_,E.sel [0,3,4,7,8] rfl,H,G,hm⟩
   ·clear E H hm
    rintro a w ⟨K,I,b0,E,H,c1,hm⟩
    unfold oN at hm
    refine wp_seq<|wp_block<|aV (fun a w=>∃ c2 b1,Env 110 a [(0,pt t 0),(3,pt f 0),(4,pt k 0),(7,K),(46,.bool c2)]∧Sep w (Blk t 75 [u,x,z,A,m,n,o,p,q]::Blk f 37 (aS x20 s g j l)::Blk k 48 bN::Row 31 aT K I::Fo) b1∧(∀ r,r ∈ rs→r ∈ b1)∧oM x20 I P Q b7 b8 c2=some r) ?_ ?_
    ·refine sq<|pr 3 E rfl fun a E=>nt<|wif E hm rfl (fun hm=>?_) fun hm=>?_
     ·exact wp_skip<|aC<|⟨!b4.2,_,E.sel [0,3,4,7,46] rfl,H,c1,hm⟩
     ·exact wp_region_lit<|pr 1 E rfl fun a E=>sv E rfl rfl rfl (kK (i:=3) E H rfl rfl rfl U32) fun a E=>pr 2 E rfl fun a E=>nt<|⟨decide ((I.length:Int) > 32),_,E.sel [0,3,4,7,46] rfl,H,c1,hm⟩
    ·clear E H hm
     rintro a w ⟨c2,b1,E,H,C,hm⟩
     unfold oM at hm
     refine wif E hm rfl (fun hm=>?_) fun hm=>?_
     ·refine sq<|bd hm fun m1 g8 hm=>cF E rfl rfl rfl rfl rfl xN (eI H g8)<|?_
      rintro _ w ⟨f0,f1,f2,f3,f4,f5,rfl,H⟩ a E
      refine bA (i:=2) E H (wn rfl) rfl rfl rfl rfl rfl rfl bV rfl (bD H m0 mm1 mm2 mm3 mm4 mm5) fun w H=>nt<|wp_ret<|bW<|aP<|dT E rfl (dD (i:=2) (us:=(bC m1 f0 f1 f2 f3 f4 f5)) H rfl rfl rfl U48 rfl bV)<|have H:=H.drs [1,1,1];?_
      cases hm
      exact ⟨f0,f1,f2,f3,f4,f5,u,x,z,rfl,H.reads (aA m0 (aA mm1 (aA mm2 (aA mm3 (aA mm4 (aA mm5 (aA (t6 (C _ D)) (aA (t6 (C _ F)) (aA (t6 (C _ O)) (fun r hr=>(t6 (C r hr))))))))))))⟩
     ·refine aV (fun a w=>∃ c3 J,Env 110 a [(0,pt t 0),(3,pt f 0),(4,pt k 0),(7,K),(53,.bool c3)]∧Sep w (Blk t 75 [u,x,z,A,m,n,o,p,q]::Blk f 37 (aS x20 s g j l)::Blk k 48 bN::Fo) J∧(∀ r,r ∈ rs→r ∈ J)∧rSl aT K I ∈ J∧oL x20 I P Q b7 c3=some r) ?_ ?_
      ·refine sq<|pr 3 E rfl fun a E=>lb E H 1 rfl rfl rfl rfl rfl rfl rfl U9 rfl fun a E=>have H:=H.thaw (i:=3) rfl;bd hm fun g9 e2 hm=>xk E rfl rfl rfl rfl rfl DS (E9 H (t1 (C _ b9)) m0 e2) fun w H a E=>pr 1 E rfl fun a E=>nt<|wif E hm rfl (fun hm=>?_) fun hm=>?_
       ·exact wp_skip<|aC<|⟨g9,_,E.sel [0,3,4,7,53] rfl,H,fun r hr=>(t1 (C r hr)),m0,hm⟩
       ·exact wp_region_lit<|pr 2 E rfl fun a E=>bd hm fun i0 e3 hm=>xk E rfl rfl rfl rfl rfl LP (W6 H (t1 (C _ O)) (t1 (C _ b9)) m0 e3) fun w H a E=>pr 1 E rfl fun a E=>nt<|⟨i0,_,E.sel [0,3,4,7,53] rfl,H,fun r hr=>(t1 (C r hr)),m0,hm⟩
      ·clear E H hm
       rintro a w ⟨c3,J,E,H,e,y,hm⟩
       unfold oL at hm
       refine wif E hm rfl (fun hm=>?_) fun hm=>?_
       ·refine sq<|bd hm fun f6 i1 hm=>cF E rfl rfl rfl rfl rfl xN (eI H i1)<|?_
        rintro _ w ⟨c4,c5,c6,c7,c8,c9,rfl,H⟩ a E
        refine bA (i:=2) E H (wn rfl) rfl rfl rfl rfl rfl rfl bV rfl (bD H m0 mm1 mm2 mm3 mm4 mm5) fun w H=>?_
        replace H:Sep w (Blk t 75 [u,x,z,A,m,n,o,p,q]::Blk f 37 (aS x20 s g j l)::Blk k 48 (bC f6 c4 c5 c6 c7 c8 c9)::Fo) _:=H
        refine nt<|wp_ret<|bW<|aP<|dT E rfl (dD (i:=2) (us:=(bC f6 c4 c5 c6 c7 c8 c9)) H rfl rfl rfl U48 rfl bV)<|have H:=H.drs [1,1];?_
        cases hm
        exact ⟨c4,c5,c6,c7,c8,c9,u,x,z,rfl,H.reads (aA m0 (aA mm1 (aA mm2 (aA mm3 (aA mm4 (aA mm5 (aA (t6 (e _ D)) (aA (t6 (e _ F)) (aA (t6 (e _ O)) (fun r hr=>(t6 (e r hr))))))))))))⟩
       ·refine wp_skip<|bZ<|aC<|aV (fun a w=>∃ V X Y L M R,Env 110 a [(0,pt t 0),(3,pt f 0),(4,pt k 0),(7,K),(10,pt V 0)]∧Sep w (Blk t 75 [u,x,z,A,m,n,o,p,q]::Blk f 37 (aS x20 s g j l)::Blk k 48 bN::Blk V 25 [X,Y]::Row 95 aE X L::Row 77 aI Y M::Fo) R∧(∀ r,r ∈ rs→r ∈ R)∧rSl aT K I ∈ R∧sU x20 I L M=some r) ?_ ?_
        ·refine bd hm fun b N hm=>?_
         have hI:eD [Blk t 75 [u,x,z,A,m,n,o,p,q],Blk f 37 (aS x20 s g j l)] [] { w with drawn:=w.drawn+1 }:=⟨_,_,H.kept (Kp.drawn _ w _),(aB m0 (aB mm1 (aL))),(aM)⟩
         refine mA _ (.go 0 0 (.go 1 0 (.go 2 0 (.go 3 0 (.go 4 0 (.go 5 0 (.go 6 0 (.alt3 7 (.go 8 0 (.go 9 0 (.go 10 0 (.alt 11 (.go 12 1 (.go 13 1 (.go 14 2 .nil))) 12 (.go 11 1 (.go 13 1 (.go 14 2 .nil))))))) 11 (.alt 7 (.go 8 0 (.go 9 0 (.go 10 0 (.go 12 1 (.go 13 1 (.go 14 2 .nil)))))) 12 (.go 7 1 (.go 8 0 (.go 9 0 (.go 10 0 (.go 13 1 (.go 14 2 .nil))))))) 12 (.alt 7 (.go 8 0 (.go 9 0 (.go 10 0 (.go 11 1 (.go 13 1 (.go 14 2 .nil)))))) 11 (.go 7 1 (.go 8 0 (.go 9 0 (.go 10 0 (.go 13 1 (.go 14 2 .nil))))))))))))))) [14] mH (by kernel_rfl) (fun _ _ _ h=>False.elim h.2) hI<|have H:=H.kept (Kp.drawn _ w (w.drawn+1));?_
         generalize ({ w with drawn:=w.drawn+1 }:World)=w at H hI ⊢
         replace hI:∃ W,eD [Blk t 75 [u,x,z,A,m,n,o,p,q],Blk f 37 (aS x20 s g j l)] [] W:=⟨_,hI⟩
         obtain ⟨W0,hI⟩:=hI
         refine aZ E rfl (wn rfl) rfl rfl (fun w hW=>(bE E rfl rfl)) fun a E=>aZ E rfl (wn rfl) rfl rfl (fun w hW=>(vX E rfl rfl)) fun a E=>aZ E rfl (wn rfl) rfl rfl (fun w hW=>lA E rfl rfl (v:=pt t 0) (Fi _ _)) fun a E=>aZ E rfl (wn rfl) rfl rfl (fun w hW=>fC E rfl rfl (y0 (us:=[u,x]) m0 rfl U25 rfl dJ w hW)) fun a E=>aZ E rfl (wn rfl) rfl rfl (fun w hW=>(bE E rfl rfl)) fun a E=>aZ E rfl (wn rfl) rfl rfl (fun w hW=>lA E rfl rfl (v:=pt f 6) (Kx _ _)) fun a E=>aZ E rfl (wn rfl) rfl rfl (fun w hW=>fC E rfl rfl (mB mm1 rfl U9 rfl w hW)) fun a E=>?_
         refine Nj rfl rfl rfl ?_ ?_ ?_
         ·refine cF E rfl rfl rfl rfl rfl F6 (lP (x1:=(⟨P,Q⟩:aR)) H (e _ D) (e _ F) y N)<|?_
          rintro _ w ⟨m4,m5,d0,d1,rfl,H⟩ a E
          refine nt<|?_
          refine ⟨⟨_,_,H,(aB mm4 (aB mm5 (aL))),(aM)⟩,?_⟩
          refine aZ E rfl (wn rfl) rfl rfl (fun w hW=>(bE E rfl rfl)) fun a E=>aZ E rfl (wn rfl) rfl rfl (fun w hW=>(dF E rfl rfl rfl)) fun a E=>aZ E rfl (wn rfl) rfl rfl (fun w hW=>(dF E rfl rfl rfl)) fun a E=>?_
          refine mU rfl rfl ?_ ?_
          ·refine al E H rfl rfl rfl rfl lF fun i2 w a H E=>nt<|?_
           refine ⟨⟨_,_,H,(aB mm5 (aB mm6 (aL))),(aM)⟩,?_⟩
           refine cN rfl<|al E H rfl rfl rfl rfl lF fun d2 w a H E=>nt<|?_
           refine ⟨⟨_,_,H,(aB mm6 (aB (t1 mm6) (aL))),(aM)⟩,?_⟩
           refine cN rfl<|?_
           obtain ⟨q212,d3,rfl⟩:=H.rowform (i:=2) rfl
           obtain ⟨q214,d4,rfl⟩:=H.rowform (i:=3) rfl
           refine bA (i:=1) E H (wn rfl) rfl rfl rfl rfl rfl rfl dJ rfl rfl fun w H=>?_
           replace H:Sep w (Blk d2 25 [.slice none 0 0,.slice none 0 0]::Blk i2 25 [(.slice q212 b.1.length d3),(.slice q214 b.2.1.length d4)]::Row 95 aE (.slice q212 b.1.length d3) b.1::Row 77 aI (.slice q214 b.2.1.length d4) b.2.1::Row 95 aE d0 b.2.2.1::Row 77 aI d1 b.2.2.2::Blk t 75 [u,x,z,A,m,n,o,p,q]::Blk f 37 (aS x20 s g j l)::Blk k 48 bN::Fo) _:=H
           refine nt<|?_
           refine ⟨⟨_,_,H,(aB mm6 (aB (t1 mm6) (aL))),(aM)⟩,?_⟩
           refine cX rfl<|?_
           obtain ⟨q216,i3,rfl⟩:=H.rowform (i:=4) rfl
           obtain ⟨q218,i4,rfl⟩:=H.rowform (i:=5) rfl
           refine bA (i:=0) E H (wn rfl) rfl rfl rfl rfl rfl rfl dJ rfl rfl fun w H=>nt<|eL<|?_
           clear hI
           exact aC<|have H:=H.drs [1,1,1];have H:=H.frs [2,2,2,5,5,5] rfl;⟨d2,(.slice q216 b.2.2.1.length i3),(.slice q218 b.2.2.2.length i4),b.2.2.1,b.2.2.2,_,E.sel [0,3,4,7,10] rfl,H,e,y,hm⟩
          ·refine al E H rfl rfl rfl rfl lF fun d5 w a H E=>nt<|?_
           refine ⟨⟨_,_,H,(aB mm5 (aB mm6 (aL))),(aM)⟩,?_⟩
           refine cN rfl<|al E H rfl rfl rfl rfl lF fun i5 w a H E=>nt<|?_
           refine ⟨⟨_,_,H,(aB mm6 (aB (t1 mm6) (aL))),(aM)⟩,?_⟩
           refine cN rfl<|?_
           obtain ⟨q222,d6,rfl⟩:=H.rowform (i:=2) rfl
           obtain ⟨q224,d7,rfl⟩:=H.rowform (i:=3) rfl
           refine bA (i:=0) E H (wn rfl) rfl rfl rfl rfl rfl rfl dJ rfl rfl fun w H=>?_
           replace H:Sep w (Blk i5 25 [(.slice q222 b.1.length d6),(.slice q224 b.2.1.length d7)]::Blk d5 25 [.slice none 0 0,.slice none 0 0]::Row 95 aE (.slice q222 b.1.length d6) b.1::Row 77 aI (.slice q224 b.2.1.length d7) b.2.1::Row 95 aE d0 b.2.2.1::Row 77 aI d1 b.2.2.2::Blk t 75 [u,x,z,A,m,n,o,p,q]::Blk f 37 (aS x20 s g j l)::Blk k 48 bN::Fo) _:=H
           refine nt<|?_
           refine ⟨⟨_,_,H,(aB mm6 (aB (t1 mm6) (aL))),(aM)⟩,?_⟩
           refine cX rfl<|?_
           obtain ⟨q226,i6,rfl⟩:=H.rowform (i:=4) rfl
           obtain ⟨q228,i7,rfl⟩:=H.rowform (i:=5) rfl
           refine bA (i:=1) E H (wn rfl) rfl rfl rfl rfl rfl rfl dJ rfl rfl fun w H=>nt<|eL<|?_
           clear hI
           exact aC<|have H:=H.drs [0,1,1];have H:=H.frs [2,2,2,5,5,5] rfl;⟨d5,(.slice q226 b.2.2.1.length i6),(.slice q228 b.2.2.2.length i7),b.2.2.1,b.2.2.2,_,E.sel [0,3,4,7,10] rfl,H,e,y,hm⟩
         ·refine al E H rfl rfl rfl rfl lF fun d8 w a H E=>nt<|?_
          refine ⟨⟨_,_,H,(aB mm1 (aB mm2 (aL))),(aM)⟩,?_⟩
          refine mU rfl rfl ?_ ?_
          ·refine cF E rfl rfl rfl rfl rfl F6 (lP (x1:=(⟨P,Q⟩:aR)) H (e _ D) (e _ F) y N)<|?_
           rintro _ w ⟨i8,i9,j0,j1,rfl,H⟩ a E
           refine nt<|?_
           refine ⟨⟨_,_,H,(aB mm5 (aB mm6 (aL))),(aM)⟩,?_⟩
           refine aZ E rfl (wn rfl) rfl rfl (fun w hW=>(bE E rfl rfl)) fun a E=>aZ E rfl (wn rfl) rfl rfl (fun w hW=>(dF E rfl rfl rfl)) fun a E=>aZ E rfl (wn rfl) rfl rfl (fun w hW=>(dF E rfl rfl rfl)) fun a E=>cN rfl<|al E H rfl rfl rfl rfl lF fun d9 w a H E=>nt<|?_
           replace H:Sep w (Blk d9 25 [.slice none 0 0,.slice none 0 0]::Row 95 aE i8 b.1::Row 77 aI i9 b.2.1::Row 95 aE j0 b.2.2.1::Row 77 aI j1 b.2.2.2::Blk d8 25 [.slice none 0 0,.slice none 0 0]::Blk t 75 [u,x,z,A,m,n,o,p,q]::Blk f 37 (aS x20 s g j l)::Blk k 48 bN::Fo) (J):=H
           refine ⟨⟨_,_,H,(aB mm6 (aB (t1 mm6) (aL))),(aM)⟩,?_⟩
           refine cN rfl<|?_
           obtain ⟨q238,m6,rfl⟩:=H.rowform (i:=1) rfl
           obtain ⟨q240,m7,rfl⟩:=H.rowform (i:=2) rfl
           refine bA (i:=5) E H (wn rfl) rfl rfl rfl rfl rfl rfl dJ rfl rfl fun w H=>nt<|?_
           refine ⟨⟨_,_,H,(aB mm6 (aB (t1 mm6) (aL))),(aM)⟩,?_⟩
           refine cX rfl<|?_
           obtain ⟨q242,j2,rfl⟩:=H.rowform (i:=3) rfl
           obtain ⟨q244,j3,rfl⟩:=H.rowform (i:=4) rfl
           refine bA (i:=0) E H (wn rfl) rfl rfl rfl rfl rfl rfl dJ rfl rfl fun w H=>nt<|eL<|?_
           clear hI
           exact aC<|have H:=H.drs [1,1,3];have H:=H.frs [2,2,2,5,5,5] rfl;⟨d9,(.slice q242 b.2.2.1.length j2),(.slice q244 b.2.2.2.length j3),b.2.2.1,b.2.2.2,_,E.sel [0,3,4,7,10] rfl,H,e,y,hm⟩
          ·refine al E H rfl rfl rfl rfl lF fun e0 w a H E=>nt<|?_
           refine ⟨⟨_,_,H,(aB mm2 (aB mm3 (aL))),(aM)⟩,?_⟩
           refine cN rfl<|cF E rfl rfl rfl rfl rfl F6 (lP (x1:=(⟨P,Q⟩:aR)) H (e _ D) (e _ F) y N)<|?_
           rintro _ w ⟨j4,j5,j6,j7,rfl,H⟩ a E
           refine nt<|?_
           replace H:Sep w (Row 95 aE j4 b.1::Row 77 aI j5 b.2.1::Row 95 aE j6 b.2.2.1::Row 77 aI j7 b.2.2.2::Blk e0 25 [.slice none 0 0,.slice none 0 0]::Blk d8 25 [.slice none 0 0,.slice none 0 0]::Blk t 75 [u,x,z,A,m,n,o,p,q]::Blk f 37 (aS x20 s g j l)::Blk k 48 bN::Fo) (J):=H
           refine ⟨⟨_,_,H,(aB mm6 (aB (t1 mm6) (aL))),(aM)⟩,?_⟩
           refine aZ E rfl (wn rfl) rfl rfl (fun w hW=>(bE E rfl rfl)) fun a E=>aZ E rfl (wn rfl) rfl rfl (fun w hW=>(dF E rfl rfl rfl)) fun a E=>aZ E rfl (wn rfl) rfl rfl (fun w hW=>(dF E rfl rfl rfl)) fun a E=>cN rfl<|?_
           obtain ⟨q253,m8,rfl⟩:=H.rowform (i:=0) rfl
           obtain ⟨q255,m9,rfl⟩:=H.rowform (i:=1) rfl
           refine bA (i:=5) E H (wn rfl) rfl rfl rfl rfl rfl rfl dJ rfl rfl fun w H=>nt<|?_
           refine ⟨⟨_,_,H,(aB mm6 (aB (t1 mm6) (aL))),(aM)⟩,?_⟩
           refine cX rfl<|?_
           obtain ⟨q257,j8,rfl⟩:=H.rowform (i:=2) rfl
           obtain ⟨q259,j9,rfl⟩:=H.rowform (i:=3) rfl
           refine bA (i:=4) E H (wn rfl) rfl rfl rfl rfl rfl rfl dJ rfl rfl fun w H=>nt<|eL<|?_
           clear hI
           exact aC<|have H:=H.drs [0,0,3];have H:=H.frs [1,1,2,5,5,5] rfl;⟨e0,(.slice q257 b.2.2.1.length j8),(.slice q259 b.2.2.2.length j9),b.2.2.1,b.2.2.2,_,E.sel [0,3,4,7,10] rfl,H,e,y,hm⟩
         ·refine al E H rfl rfl rfl rfl lF fun S w a H E=>nt<|?_
          refine ⟨⟨_,_,H,(aB mm1 (aB mm2 (aL))),(aM)⟩,?_⟩
          refine mU rfl rfl ?_ ?_
          ·refine cF E rfl rfl rfl rfl rfl F6 (lP (x1:=(⟨P,Q⟩:aR)) H (e _ D) (e _ F) y N)<|?_
           rintro _ w ⟨k0,k1,k2,k3,rfl,H⟩ a E
           refine nt<|?_
           replace H:Sep w (Row 95 aE k0 b.1::Row 77 aI k1 b.2.1::Row 95 aE k2 b.2.2.1::Row 77 aI k3 b.2.2.2::Blk S 25 [.slice none 0 0,.slice none 0 0]::Blk t 75 [u,x,z,A,m,n,o,p,q]::Blk f 37 (aS x20 s g j l)::Blk k 48 bN::Fo) (J):=H
           refine ⟨⟨_,_,H,(aB mm5 (aB mm6 (aL))),(aM)⟩,?_⟩
           refine aZ E rfl (wn rfl) rfl rfl (fun w hW=>(bE E rfl rfl)) fun a E=>aZ E rfl (wn rfl) rfl rfl (fun w hW=>(dF E rfl rfl rfl)) fun a E=>aZ E rfl (wn rfl) rfl rfl (fun w hW=>(dF E rfl rfl rfl)) fun a E=>cN rfl<|al E H rfl rfl rfl rfl lF fun n0 w a H E=>nt<|?_
           refine ⟨⟨_,_,H,(aB mm6 (aB (t1 mm6) (aL))),(aM)⟩,?_⟩
           refine cN rfl<|?_
           obtain ⟨q269,n1,rfl⟩:=H.rowform (i:=1) rfl
           obtain ⟨q271,n2,rfl⟩:=H.rowform (i:=2) rfl
           refine bA (i:=0) E H (wn rfl) rfl rfl rfl rfl rfl rfl dJ rfl rfl fun w H=>nt<|?_
           refine ⟨⟨_,_,H,(aB mm6 (aB (t1 mm6) (aL))),(aM)⟩,?_⟩
           refine cX rfl<|?_
           obtain ⟨q273,k4,rfl⟩:=H.rowform (i:=3) rfl
           obtain ⟨q275,k5,rfl⟩:=H.rowform (i:=4) rfl
           refine bA (i:=5) E H (wn rfl) rfl rfl rfl rfl rfl rfl dJ rfl rfl fun w H=>nt<|eL<|?_
           clear hI
           exact aC<|have H:=H.drs [0,0,0];have H:=H.frs [1,1,2,5,5,5] rfl;⟨S,(.slice q273 b.2.2.1.length k4),(.slice q275 b.2.2.2.length k5),b.2.2.1,b.2.2.2,_,E.sel [0,3,4,7,10] rfl,H,e,y,hm⟩
          ·refine al E H rfl rfl rfl rfl lF fun k6 w a H E=>nt<|?_
           replace H:Sep w (Blk k6 25 [.slice none 0 0,.slice none 0 0]::Blk S 25 [.slice none 0 0,.slice none 0 0]::Blk t 75 [u,x,z,A,m,n,o,p,q]::Blk f 37 (aS x20 s g j l)::Blk k 48 bN::Fo) (J):=H
           refine ⟨⟨_,_,H,(aB mm2 (aB mm3 (aL))),(aM)⟩,?_⟩
           refine cN rfl<|cF E rfl rfl rfl rfl rfl F6 (lP (x1:=(⟨P,Q⟩:aR)) H (e _ D) (e _ F) y N)<|?_
           rintro _ w ⟨n3,n4,n5,n6,rfl,H⟩ a E
           refine nt<|?_
           refine ⟨⟨_,_,H,(aB mm6 (aB (t1 mm6) (aL))),(aM)⟩,?_⟩
           refine aZ E rfl (wn rfl) rfl rfl (fun w hW=>(bE E rfl rfl)) fun a E=>aZ E rfl (wn rfl) rfl rfl (fun w hW=>(dF E rfl rfl rfl)) fun a E=>aZ E rfl (wn rfl) rfl rfl (fun w hW=>(dF E rfl rfl rfl)) fun a E=>cN rfl<|?_
           obtain ⟨q284,n7,rfl⟩:=H.rowform (i:=0) rfl
           obtain ⟨q286,n8,rfl⟩:=H.rowform (i:=1) rfl
           refine bA (i:=4) E H (wn rfl) rfl rfl rfl rfl rfl rfl dJ rfl rfl fun w H=>nt<|?_
           refine ⟨⟨_,_,H,(aB mm6 (aB (t1 mm6) (aL))),(aM)⟩,?_⟩
           refine cX rfl<|?_
           obtain ⟨q288,k7,rfl⟩:=H.rowform (i:=2) rfl
           obtain ⟨q290,k8,rfl⟩:=H.rowform (i:=3) rfl
           refine bA (i:=5) E H (wn rfl) rfl rfl rfl rfl rfl rfl dJ rfl rfl fun w H=>nt<|eL<|?_
           clear hI
           exact aC<|have H:=H.drs [0,0,2];have H:=H.frs [1,1,2,5,5,5] rfl;⟨S,(.slice q288 b.2.2.1.length k7),(.slice q290 b.2.2.2.length k8),b.2.2.1,b.2.2.2,_,E.sel [0,3,4,7,10] rfl,H,e,y,hm⟩
        ·clear E H hm
         rintro a w ⟨V,X,Y,L,M,R,E,H,b2,b3,hm⟩
         unfold sU at hm
         refine sq<|pr 1 E rfl fun a E=>sv E rfl rfl rfl (cC (i:=1) (us:=[g,j]) E H rfl rfl rfl rfl U25 rfl dJ) fun a E=>pr 2 E rfl fun a E=>lb E H 1 rfl rfl rfl rfl rfl rfl rfl U9 rfl fun a E=>bd hm fun c k9 hm=>cF E rfl rfl rfl rfl rfl F6 (lP H (b2 _ g1) (b2 _ g2) b3 k9)<|?_
         rintro _ w ⟨o2,o3,m2,m3,rfl,H⟩ a E
         refine pr 3 E rfl fun a E=>al E H rfl rfl rfl rfl lF fun f7 w a H E=>al E H rfl rfl rfl rfl lF fun f8 w a H E=>?_
         obtain ⟨q92,b5,rfl⟩:=H.rowform (i:=2) rfl
         obtain ⟨q94,b6,rfl⟩:=H.rowform (i:=3) rfl
         refine bA (i:=1) E H (wn rfl) rfl rfl rfl rfl rfl rfl dJ rfl rfl fun w H=>?_
         replace H:Sep w (Blk f8 25 [.slice none 0 0,.slice none 0 0]::Blk f7 25 [(.slice q92 c.1.length b5),(.slice q94 c.2.1.length b6)]::Row 95 aE (.slice q92 c.1.length b5) c.1::Row 77 aI (.slice q94 c.2.1.length b6) c.2.1::Row 95 aE m2 c.2.2.1::Row 77 aI m3 c.2.2.2::Blk t 75 [u,x,z,A,m,n,o,p,q]::Blk f 37 (aS x20 s g j l)::Blk k 48 bN::Blk V 25 [X,Y]::Row 95 aE X L::Row 77 aI Y M::Fo) _:=H
         obtain ⟨q96,f9,rfl⟩:=H.rowform (i:=4) rfl
         obtain ⟨q98,g0,rfl⟩:=H.rowform (i:=5) rfl
         refine bA (i:=0) E H (wn rfl) rfl rfl rfl rfl rfl rfl dJ rfl rfl fun w H=>nx<|pr 1 E rfl fun a E=>lb E H 9 rfl rfl rfl rfl rfl rfl rfl U22 rfl fun a E=>pr 1 E rfl fun a E=>lb E H 1 rfl rfl rfl rfl rfl rfl rfl U22 rfl fun a E=>bk hm fun e4 hm=>eK (i:=10) E H (wn rfl) rfl rfl rfl rfl rfl rfl (Az (i:=2) rfl) U22 Ji rfl e4 rfl fun n9 w a H E=>pr 1 E rfl fun a E=>?_
         obtain ⟨q103,T,rfl⟩:=H.rowform (i:=10) rfl
         refine bA (i:=9) E H (wn rfl) rfl rfl rfl rfl rfl rfl Gp rfl rfl fun w H=>nx<|pr 1 E rfl fun a E=>lb E H 9 rfl rfl rfl rfl rfl rfl rfl U23 rfl fun a E=>pr 1 E rfl fun a E=>lb E H 1 rfl rfl rfl rfl rfl rfl rfl U23 rfl fun a E=>bk hm fun e5 hm=>eK (i:=11) E H (wn rfl) rfl rfl rfl rfl rfl rfl (Az (i:=3) rfl) U23 Jj rfl e5 rfl fun o0 w a H E=>pr 1 E rfl fun a E=>?_
         obtain ⟨q108,U,rfl⟩:=H.rowform (i:=11) rfl
         refine bA (i:=9) E H (wn rfl) rfl rfl rfl rfl rfl rfl T1 rfl rfl fun w H=>nx<|pr 1 E rfl fun a E=>lb E H 9 rfl rfl rfl rfl rfl rfl rfl U22 rfl fun a E=>bk hm fun e6 hm=>cF E rfl rfl rfl rfl rfl LQ (sort_c (ix:=10) H rfl e6)<|?_
         rintro _ w ⟨rfl,H⟩ a E
         refine nx<|pr 1 E rfl fun a E=>lb E H 9 rfl rfl rfl rfl rfl rfl rfl U23 rfl fun a E=>bk hm fun e7 hm=>cF E rfl rfl rfl rfl rfl LR (Tn.sort_c (ix:=11) H rfl e7)<|?_
         rintro _ w ⟨rfl,H⟩ a E
         replace H:Sep w (Blk f8 25 [(.slice q96 c.2.2.1.length f9),(.slice q98 c.2.2.2.length g0)]::Blk f7 25 [(.slice q92 c.1.length b5),(.slice q94 c.2.1.length b6)]::Row 95 aE (.slice q92 c.1.length b5) c.1::Row 77 aI (.slice q94 c.2.1.length b6) c.2.1::Row 95 aE (.slice q96 c.2.2.1.length f9) c.2.2.1::Row 77 aI (.slice q98 c.2.2.2.length g0) c.2.2.2::Blk t 75 [u,x,z,A,m,n,o,p,q]::Blk f 37 (aS x20 s g j l)::Blk k 48 bN::Blk V 25 [(.slice q103 (L ++ c.1).length T),(.slice q108 (M ++ c.2.1).length U)]::Row 95 aE (.slice q103 (L ++ c.1).length T) (srtN (L ++ c.1))::Row 77 aI (.slice q108 (M ++ c.2.1).length U) (Tn.srtN (M ++ c.2.1))::Fo) (R):=H
         refine nx<|pr 2 E rfl fun a E=>sv E rfl rfl rfl (cC (i:=9) (us:=[(.slice q103 (L ++ c.1).length T),(.slice q108 (M ++ c.2.1).length U)]) E H rfl rfl rfl rfl U25 rfl dJ) fun a E=>pr 3 E rfl fun a E=>bA (i:=6) E H (wn rfl) rfl rfl rfl rfl rfl rfl dJ rfl rfl fun w H=>pr 2 E rfl fun a E=>?_
         obtain ⟨q114,l0,rfl⟩:=H.slform b3
         refine bA (i:=6) E H (wn rfl) rfl rfl rfl rfl rfl rfl Vg rfl rfl fun w H=>nx<|sv E rfl rfl rfl (cL E rfl (E.evs rfl) (v:=.agg bN.toArray) (by kernel_rfl)) fun a E=>bA (i:=8) E H (wn rfl) rfl rfl rfl rfl rfl rfl bV rfl rfl fun w H=>nt<|wp_ret<|dT E rfl (dD (i:=8) (us:=bN) H rfl rfl rfl U48 rfl bV)<|have H:=H.nilSl bF;have H:=H.nilSl aE;?_
         refine have H:=H.nilSl aI;have H:=H.nilSl aX;have H:=H.nilSl bM;have H:=H.nilSl (kI .i64);have H:=H.thaw (i:=10) rfl;have H:=H.thaw (i:=10) rfl;have H:=H.drs [0,0,0,0,0,0,1,1,1];?_
         cases hm
         exact ⟨(.slice none 0 0),(.slice none 0 0),(.slice none 0 0),(.slice none 0 0),(.slice none 0 0),(.slice none 0 0),(.slice q103 (L ++ c.1).length T),(.slice q108 (M ++ c.2.1).length U),(.slice q114 I.length l0),rfl,H.reads (aA (t1 mm6) (aA mm6 (aA mm5 (aA mm4 (aA mm3 (aA mm2 (aA mm1 (aA m0 (aA (t8 b3) (fun r hr=>(t8 (b2 r hr))))))))))))⟩

def nT(c:List aK)(d:List aD)(x20:bK)(e:List bL)(b:Int):Option (aH×(List aK)×(List aD)):=
  if (b != 0)=true then ((dZ b).bind fun f=>some (f,c,d)) else (some ((⟨0,0,false,0,[],(⟨[],[]⟩:aR),e,[],[]⟩:aH),x20.Watches,x20.Sessions))
theorem vL{B:Nat}{j k c d l m n o p q s t:Value}{u:List aK}{x:List aD}{x20:bK}{b:List bL}{y:Int}(H:Sep w (Blk B 75 [m,n,o,p,j,k,q,s,t]::Fo) rs)(C:rSl bB j u ∈ rs)(D:rSl aO k x ∈ rs)(e:rSl bB c x20.Watches ∈ rs)(f:rSl aO d x20.Sessions ∈ rs)(g:rSl aX l b ∈ rs){r:aH×(List aK)×(List aD)}(hm:nT u x x20 b y=some r) :
    Calls Tryz.prog 89 [pt B 0,.agg #[c,d],l,.int .i64 y].toArray w (Ret fun v w'=>∃ G I J K L M N z,.agg (bC r.1 G I J K L M).toArray=v∧Sep w' (Blk B 75 [m,n,o,p,N,z,q,s,t]::Fo) (rSl bF G r.1.Results::rSl aE I r.1.Store.Nodes::rSl aI J r.1.Store.Turns::rSl aX K r.1.Events::rSl bM L r.1.Mounts::rSl (kI .i64) M r.1.Wounded::rSl bB N r.2.1::rSl aO z r.2.2::rs)):=by
 unfold nT at hm
 refine ent Tryz.func89 rfl Tryz.ntmps89 rfl rfl fun a E=>sq<|bS E H (wn rfl) rfl rfl rfl rfl rfl fun V w a H E=>al E H rfl rfl rfl rfl gO fun W w a H E=>nt<|wp_seq<|sq<|pr 2 E rfl fun a E=>nt<|wif E hm rfl (fun hm=>?_) fun hm=>?_
 ·refine sq<|pr 1 E rfl fun a E=>bd hm fun O F hm=>cF E rfl rfl rfl rfl rfl xN (eI H F)<|?_
  rintro _ w ⟨P,Q,R,S,T,U,rfl,H⟩ a E
  refine bA (i:=0) E H (wn rfl) rfl rfl rfl rfl rfl rfl bV rfl (bD H m0 mm1 mm2 mm3 mm4 mm5) fun w H=>nt<|wp_ret<|aP<|dT E rfl (dD (i:=0) (us:=(bC O P Q R S T U)) H rfl rfl rfl U48 rfl bV)<|have H:=H.drs [0,0];?_
  cases hm
  exact X8 ⟨rfl,H.reads (aA m0 (aA mm1 (aA mm2 (aA mm3 (aA mm4 (aA mm5 (aA (t6 C) (aA (t6 D) (fun r hr=>(t6 hr))))))))))⟩
 ·refine wp_skip<|aC<|sq<|pr 1 E rfl fun a E=>sv E rfl rfl rfl (cC (i:=1) (us:=[c,d]) E H rfl rfl rfl rfl U73 rfl fE) fun a E=>pr 2 E rfl fun a E=>bA (i:=2) E H (wn rfl) rfl rfl rfl rfl rfl rfl fE rfl (hY H e f) fun w H=>nx<|pr 1 E rfl fun a E=>?_
  obtain ⟨q48,A,rfl⟩:=H.slform g
  refine sv E rfl rfl rfl (cL E rfl (E.evs rfl) (v:=.agg #[.int .i64 0,.int .i64 0,.bool false,.int .i64 0,.slice none 0 0,.slice none 0 0,.slice none 0 0,(.slice q48 b.length A),.slice none 0 0,.slice none 0 0]) (by kernel_rfl)) fun a E=>bA (i:=0) E H (wn rfl) rfl rfl rfl rfl rfl rfl bV rfl rfl fun w H=>nt<|wp_ret<|dT E rfl (dD (i:=0) (us:=[.int .i64 0,.int .i64 0,.bool false,.int .i64 0,.slice none 0 0,.slice none 0 0,.slice none 0 0,(.slice q48 b.length A),.slice none 0 0,.slice none 0 0]) H rfl rfl rfl U48 rfl bV)<|have H:=H.nilSl bF;have H:=H.nilSl aE;have H:=H.nilSl aI;have H:=H.nilSl bM;?_
  refine have H:=H.nilSl (kI .i64);have H:=H.drs [0,0];?_
  cases hm
  exact X8 ⟨rfl,H.reads (aA mm4 (aA mm3 (aA mm2 (aA (t5 g) (aA mm1 (aA m0 (aA (t5 e) (aA (t5 f) (fun r hr=>(t5 hr))))))))))⟩

def dC(c:List aD)(x3:Int):Nat→Int→Int→Option (Int×Bool)
  | 0,_,_=>none
  | e+1,b,d=>
    if (decide (b < d))=true then ((idx c (IntKind.i64.wrap (rD .u64 (IntKind.u64.wrap (IntKind.i64.wrap (b+d))) 1))).bind fun j=>(zR j x3).bind fun f=>if (decide (f < 0))=true then (dC c x3 e (IntKind.i64.wrap ((IntKind.i64.wrap (rD .u64 (IntKind.u64.wrap (IntKind.i64.wrap (b+d))) 1))+1)) d) else (dC c x3 e b (IntKind.i64.wrap (rD .u64 (IntKind.u64.wrap (IntKind.i64.wrap (b+d))) 1)))) else (if (decide (b < (c.length:Int)))=true then ((idx c b).bind fun g=>(zR g x3).bind fun i=>some (b,i == 0)) else (some (b,false)))
def eH(b:List aD)(x3:Int):Option (Int×Bool):=
  dC b x3 (((b.length:Int) - 0:Int).toNat+1) 0 (b.length:Int)
theorem iY{j:Value}{f:List aD}{x3:Int}(H:Sep w (Fo) rs)(g:rSl aO j f ∈ rs){r:Int×Bool}(hm:eH f x3=some r) :
    Calls Tryz.prog 163 [j,.int .i64 x3,.func (.func 164) #[] #[]].toArray w (Ret fun v w'=>.tuple #[.int .i64 r.1,.bool r.2]=v∧Sep w' (Fo) (rs)):=by
 unfold eH at hm
 refine ent Tryz.func163 rfl Tryz.ntmps163 rfl rfl fun a E=>sq<|pr 2 E rfl fun a E=>nx<|pr 1 E rfl fun a E=>sv E rfl rfl rfl (cV E H rfl rfl g U71) fun a E=>pr 1 E rfl fun a E=>nx<|pr 3 E rfl fun a E=>?_
 refine nt<|wp_seq<|wp_block<|bX (fun e a w=>∃ k l i,Env 49 a [(0,j),(1,.int .i64 x3),(2,.func (.func 164) #[] #[]),(8,.int .i64 (f.length:Int)),(9,.int .i64 k),(10,.int .i64 l)]∧Sep w (Fo) i∧(∀ r,r ∈ rs→r ∈ i)∧dC f x3 e k l=some r) (((f.length:Int) - 0:Int).toNat+1) ?_ ?_
 ·exact X3 ⟨E.to rfl,H,Y0,hm⟩
 ·clear E H hm
  rintro e a w ⟨k,l,i,E,H,c,hm⟩
  cases e with
  | zero=>exact (bU hm rfl).elim
  | succ e=>
   unfold dC at hm
   refine wp_seq<|sq<|pr 3 E rfl fun a E=>nt<|wif E hm rfl (fun hm=>?_) fun hm=>?_
   ·refine wp_skip<|aC<|wp_block<|sq<|pr 4 E rfl fun a E=>sv E rfl rfl rfl (S4 E rfl rfl rfl (by decide)) fun a E=>pr 2 E rfl fun a E=>nx<|pr 3 E rfl fun a E=>?_
    refine bd hm fun A m hm=>dR E H (wn rfl) rfl rfl rfl rfl rfl (c _ g) U71 uP m fun q11 a H E=>W9 E H (wn rfl) rfl rfl rfl rfl m0 Gm rfl uP fun q a H E=>?_
    obtain ⟨s,rfl,h⟩:=F2 H;clear H;have H:=h
    refine pr 1 E rfl fun a E=>bd hm fun t n hm=>aW E (wn rfl) rfl rfl (bR E rfl rfl rfl (Jf _)) (G9 H n)<|?_
    rintro _ w ⟨rfl,H⟩ a E
    refine pr 1 E rfl fun a E=>nt<|wif E hm rfl (fun hm=>?_) fun hm=>?_
    ·exact wp_region_lit<|pr 3 E rfl fun a E=>wpList_nil<|bZ<|aC<|⟨e,Nat.lt_succ_self e,X3 ⟨E.to rfl,H,(Y3 c),hm⟩⟩
    ·exact wp_region_lit<|pr 2 E rfl fun a E=>wpList_nil<|bZ<|aC<|⟨e,Nat.lt_succ_self e,X3 ⟨E.to rfl,H,(Y3 c),hm⟩⟩
   ·refine wp_exit<|bG<|bG<|dN<|aC<|sq<|pr 5 E rfl fun a E=>cs hm (fun b hm=>?_) fun b hm=>?_
    ·refine pk 3 E (kc 39 rfl b) rfl fun a E=>bd hm fun u o hm=>dR E H (ws' (d:=39) E rfl rfl rfl rfl b) rfl rfl rfl rfl rfl (c _ g) U71 uP o fun q19 a H E=>W9 E H (ws' (d:=39) E rfl rfl rfl rfl b) rfl rfl rfl rfl m0 Gm rfl uP fun x a H E=>?_
     obtain ⟨y,rfl,h⟩:=F2 H;clear H;have H:=h
     refine pk 1 E (kc 39 rfl b) rfl fun a E=>bd hm fun z p hm=>aW E (ws' (d:=39) E rfl rfl rfl rfl b) rfl rfl (bR E rfl rfl rfl (Jf _)) (G9 H p)<|?_
     rintro _ w ⟨rfl,H⟩ a E
     refine pk 4 E (kc 39 rfl b) rfl fun a E=>nt<|wp_ret<|hG E rfl rfl rfl<|?_
     cases hm
     exact ⟨rfl,H.reads (Y3 c)⟩
    ·refine pk 11 E (kc 39 rfl b) rfl fun a E=>nt<|wp_ret<|hG E rfl rfl rfl<|?_
     cases hm
     exact ⟨rfl,H.reads c⟩

def zV(x1:bL)(x3:Int):Option Bool:=
  some (decide (x1.Num ≤ x3))
theorem R4{x1:bL}{b:Nat}{x3:Int}(H:Sep w (Blk b 2 [.int .i64 x3]::Fo) rs){r:Bool}(hm:zV x1 x3=some r) :
    Calls Tryz.prog 171 [.agg (M8 x1).toArray,pt b 0].toArray w (Ret fun v w'=>.bool r=v∧Sep w' (Blk b 2 [.int .i64 x3]::Fo) (rs)):=by
 unfold zV at hm
 refine ent Tryz.func171 rfl Tryz.ntmps171 rfl rfl fun a E=>sq<|bS E H (wn rfl) rfl rfl rfl rfl rfl fun c w a H E=>pr 1 E rfl fun a E=>nx<|pr 1 E rfl fun a E=>lb E H 0 rfl rfl rfl rfl rfl rfl rfl U2 rfl fun a E=>lb E H 1 rfl rfl rfl rfl rfl rfl rfl U2 rfl fun a E=>pr 2 E rfl fun a E=>?_
 refine nt<|wp_ret<|aY E rfl rfl<|have H:=H.drop 0;?_
 cases hm
 exact ⟨rfl,H.reads Y0⟩

def fW(c:List bL)(d:Int):Nat→Int→Option Int
  | 0,_=>none
  | f+1,b=>
    if (decide (b < (c.length:Int)))=true then ((idx c b).bind fun g=>(zV g d).bind fun e=>if e=true then (some (b)) else (fW c d f (IntKind.i64.wrap (b+1)))) else (some ((-1)))
def kG(b:List bL)(c:Int):Option Int:=
  fW b c (((b.length:Int) - 0:Int).toNat+1) 0
theorem yA{e:Value}{b:List bL}{f:Nat}{g:Int}(H:Sep w (Row 223 aX e b::Blk f 2 [.int .i64 g]::Fo) rs){r:Int}(hm:kG b g=some r) :
    Calls Tryz.prog 235 [e,.func (.func 171) #[] #[pt f 0]].toArray w (Ret fun v w'=>.int .i64 r=v∧Sep w' (Blk f 2 [.int .i64 g]::Row 223 aX e b::Fo) (rs)):=by
 unfold kG at hm
 refine ent Tryz.func235 rfl Tryz.ntmps235 rfl rfl fun a E=>sq<|pr 1 E rfl fun a E=>nt<|wp_seq<|sq<|pr 1 E rfl fun a E=>sv E rfl rfl rfl (kK (i:=0) E H rfl rfl rfl U44) fun a E=>pr 1 E rfl fun a E=>?_
 refine nt<|wp_block<|bX (fun c a w=>∃ o j,Env 19 a [(0,e),(1,.func (.func 171) #[] #[pt f 0]),(7,.int .i64 (b.length:Int)),(8,.int .i64 o)]∧Sep w (Row 223 aX e b::Blk f 2 [.int .i64 g]::Fo) j∧(∀ r,r ∈ rs→r ∈ j)∧fW b g c o=some r) (((b.length:Int) - 0:Int).toNat+1) ?_ ?_
 ·exact ⟨_,_,E.to rfl,H,Y0,hm⟩
 ·clear E H hm
  rintro c a w ⟨o,j,E,H,k,hm⟩
  cases c with
  | zero=>exact (bU hm rfl).elim
  | succ c=>
   unfold fW at hm
   refine sq<|pr 1 E rfl fun a E=>nt<|wp_seq<|wif E hm rfl (fun hm=>?_) fun hm=>?_
   ·refine wp_skip<|aC<|wp_seq<|wp_block<|sq<|pr 2 E rfl fun a E=>nx<|pr 3 E rfl fun a E=>bd hm fun n l hm=>?_
    obtain ⟨q,s,m⟩:=H.rowformNE (i:=0) rfl l
    refine sv E rfl rfl rfl (dG (d:=aX) E m rfl rfl rfl rfl U44 uQ l) fun a E=>sv E rfl rfl rfl (hP (i:=0) E H pQ m rfl rfl rfl l (us:=[.int .i64 n.Num,.int .i64 n.Kind,.string n.Path,.int .i64 n.Watch]) rfl Gn rfl uQ) fun a E=>have H:=H.frs [0,1] rfl;bd hm fun t p hm=>aW E (wn rfl) rfl rfl (bR E rfl rfl rfl (Xd _)) (R4 H p)<|?_
    rintro _ w ⟨rfl,H⟩ a E
    refine nt<|wif E hm rfl (fun hm=>?_) fun hm=>?_
    ·refine sq<|pr 2 E rfl fun a E=>nt<|wp_ret<|bW<|aP<|aP<|bW<|aP<|?_
     refine aY E rfl rfl<|?_
     cases hm
     exact ⟨rfl,H.reads k⟩
    ·exact wp_skip<|bZ<|aC<|wp_region_lit<|pr 2 E rfl fun a E=>nt<|have H:=H.frs [0,1] rfl;⟨c,Nat.lt_succ_self c,_,_,E.to rfl,H,k,hm⟩
   ·refine wp_exit<|bG<|bG<|dN<|aC<|sq<|pr 1 E rfl fun a E=>nt<|wp_ret<|?_
    refine aY E rfl rfl<|have H:=H.frs [0,1] rfl;?_
    cases hm
    exact ⟨rfl,H.reads k⟩

def fN(rec_1:(List bL)→Int→Int→Option (List bL))(d:Int)(b:(List bL))(c:Int):Option (List bL):=
  rec_1 b c (IntKind.i64.wrap (d+1))
def eC(f:Int):Nat→(List bL)→Int→Int→Option (List bL)
  | 0,_,_,_=>none
  | g+1,c,b,d=>
    if (decide (d < (c.length:Int)))=true then ((idx c d).bind fun e=>(zV e f).bind fun i=>if (!i)=true then ((idx c b).bind fun j=>fN (eC f g) d (c.set b.toNat e) (IntKind.i64.wrap (b+1))) else (fN (eC f g) d c b)) else ((ck (0 ≤ b∧b ≤ c.length)).bind fun k=>(ck (0 ≤ b∧b ≤ (c.take b.toNat ++ List.replicate (c.length - b.toNat) (⟨0,0,⟨#[]⟩,0⟩:bL)).length)).bind fun l=>some ((c.take b.toNat ++ List.replicate (c.length - b.toNat) (⟨0,0,⟨#[]⟩,0⟩:bL)).take b.toNat))
def jU(b:List bL)(d:Int):Option (List bL):=
  (kG b d).bind fun c=>if (c == (-1))=true then (some (b)) else (eC d (((b.length:Int) - (IntKind.i64.wrap (c+1)):Int).toNat+1) b c (IntKind.i64.wrap (c+1)))
theorem xD{n:Value}{x:List bL}{c:Nat}{e:Int}(H:Sep w (Row 223 aX n x::Blk c 2 [.int .i64 e]::Fo) rs){r:(List bL)}(hm:jU x e=some r) :
    Calls Tryz.prog 169 [n,.func (.func 171) #[] #[pt c 0]].toArray w (Ret fun v w'=>∃ D,D=v∧Sep w' (Row 223 aX D r::Blk c 2 [.int .i64 e]::Fo) (rs)):=by
 unfold jU at hm
 refine ent Tryz.func169 rfl Tryz.ntmps169 rfl rfl fun a E=>sq<|pr 1 E rfl fun a E=>nx<|pr 2 E rfl fun a E=>bd hm fun G F hm=>xk E rfl rfl rfl rfl rfl HG (yA H F) fun w H a E=>pr 1 E rfl fun a E=>nt<|?_
 refine wp_seq<|sq<|pr 2 E rfl fun a E=>nt<|wif E hm rfl (fun hm=>?_) fun hm=>?_
 ·refine sq<|pr 2 E rfl fun a E=>nt<|wp_ret<|aP<|aY E rfl rfl<|have H:=H.frs [0,1] rfl;?_
  cases hm
  exact ⟨_,rfl,H.reads Y0⟩
 ·refine wp_skip<|aC<|wp_seq<|sq<|pr 3 E rfl fun a E=>nt<|wp_block<|bX (fun f a w=>∃ y z o g,Env 42 a [(0,n),(1,.func (.func 171) #[] #[pt c 0]),(5,.int .i64 z),(6,.int .i64 o)]∧Sep w (Row 223 aX n y::Blk c 2 [.int .i64 e]::Fo) g∧(∀ r,r ∈ rs→r ∈ g)∧eC e f y z o=some r) (((x.length:Int) - (IntKind.i64.wrap (G+1)):Int).toNat+1) ?_ ?_
  ·exact have H:=H.frs [0,1] rfl;X4 ⟨E.to rfl,H,Y0,hm⟩
  ·clear E H hm
   rintro f a w ⟨y,z,o,g,E,H,j,hm⟩
   cases f with
   | zero=>exact (bU hm rfl).elim
   | succ f=>
    unfold eC at hm
    refine wp_seq<|sq<|pr 2 E rfl fun a E=>sv E rfl rfl rfl (kK (i:=0) E H rfl rfl rfl U44) fun a E=>pr 1 E rfl fun a E=>nt<|wif E hm rfl (fun hm=>?_) fun hm=>?_
    ·refine wp_skip<|aC<|aV (fun a w=>∃ p q k,Env 42 a [(0,n),(1,.func (.func 171) #[] #[pt c 0]),(5,.int .i64 q),(6,.int .i64 o)]∧Sep w (Row 223 aX n p::Blk c 2 [.int .i64 e]::Fo) k∧(∀ r,r ∈ rs→r ∈ k)∧fN (eC e f) o p q=some r) ?_ ?_
     ·refine wp_block<|sq<|pr 2 E rfl fun a E=>bd hm fun b l hm=>?_
      obtain ⟨I,J,s⟩:=H.rowformNE (i:=0) rfl l
      refine sv E rfl rfl rfl (dG (d:=aX) E s rfl rfl rfl rfl U44 uQ l) fun a E=>sv E rfl rfl rfl (hP (i:=0) E H pQ s rfl rfl rfl l (us:=[.int .i64 b.Num,.int .i64 b.Kind,.string b.Path,.int .i64 b.Watch]) rfl Gn rfl uQ) fun a E=>al E H rfl rfl rfl rfl Pn fun K w a H E=>bA (i:=0) E H (wn rfl) rfl rfl rfl rfl rfl rfl uQ rfl rfl fun w H=>nx<|pr 1 E rfl fun a E=>sv E rfl rfl rfl (cC (i:=0) (us:=(M8 b)) E H rfl rfl rfl rfl Gn rfl uQ) fun a E=>have H:=H.frs [1,1,2] rfl;bd hm fun L A hm=>?_
      refine aW E (wn rfl) rfl rfl (bR E rfl rfl rfl (Xd _)) (R4 H A)<|?_
      rintro _ w ⟨rfl,H⟩ a E
      refine pr 1 E rfl fun a E=>nt<|wif E hm rfl (fun hm=>?_) fun hm=>?_
      ·refine sq<|pr 2 E rfl fun a E=>sv E rfl rfl rfl (cC (i:=1) (us:=(M8 b)) E H rfl rfl rfl rfl Gn rfl uQ) fun a E=>bd hm fun M m hm=>?_
       obtain ⟨N,O,t⟩:=H.rowformNE (i:=2) rfl m
       refine sv E rfl rfl rfl (dG (d:=aX) E t rfl rfl rfl rfl U44 uQ m) fun a E=>y2 (d:=aX) (i:=2) (us:=[.int .i64 b.Num,.int .i64 b.Kind,.string b.Path,.int .i64 b.Watch]) (z':=b) E H pQ (wn rfl) rfl t rfl rfl rfl rfl rfl rfl rfl m uQ fun w H=>nt<|wp_region_lit<|pr 3 E rfl fun a E=>wpList_nil<|bZ<|aC<|have H:=H.drop 1;?_
       exact have H:=H.frs [0,1] rfl;X3 ⟨E.to rfl,H,j,hm⟩
      ·exact wp_skip<|bZ<|aC<|have H:=H.drop 1;have H:=H.frs [0,1] rfl;X3 ⟨E.to rfl,H,j,hm⟩
     ·clear E H hm
      rintro a w ⟨p,q,k,E,H,B,hm⟩
      unfold fN at hm
      exact wp_region_lit<|pr 3 E rfl fun a E=>nt<|⟨f,Nat.lt_succ_self f,X4 ⟨E.to rfl,H,B,hm⟩⟩
    ·refine wp_exit<|bG<|bG<|dN<|aC<|sq<|pr 2 E rfl fun a E=>bk hm fun u hm=>sv E rfl rfl rfl (S6 (d:=aX) (i:=0) E H rfl rfl rfl rfl U44 uQ u) fun a E=>?_
     refine D4 (i:=0) (z0:=(⟨0,0,⟨#[]⟩,0⟩:bL)) E H pQ (wn rfl) rfl rfl rfl U44 CX rfl rfl rfl u fun w H=>nx<|pr 2 E rfl fun a E=>bk hm fun C hm=>L5 (i:=0) E H pQ (wn rfl) rfl rfl rfl rfl rfl rfl U44 uQ C fun P a H E=>pr 1 E rfl fun a E=>nt<|wp_ret<|aY E rfl rfl<|?_
     cases hm
     exact ⟨_,rfl,H.reads j⟩

def K3(x1:bK)(f:Int)(g:Int):Option (bK×(List bL)×Int):=
  (rI x1).bind fun d=>if (!d)=true then (some ((⟨[],[]⟩:bK),[],1)) else ((eH x1.Sessions f).bind fun b=>if (!b.2)=true then (some (x1,[],62)) else ((ck (x1.Sessions.length ≤ LIM)).bind fun i=>(idx x1.Sessions b.1).bind fun x20=>(ck (x20.Events.length ≤ LIM)).bind fun j=>(jU x20.Events g).bind fun c=>(idx x1.Sessions b.1).bind fun e=>(ck (c.length ≤ LIM)).bind fun k=>some ((⟨x1.Watches,x1.Sessions.set b.1.toNat ({ e with Events:=c }:aD)⟩:bK),c,0)))
theorem Lm{x1:bK}{g j:Value}{B C:Int}(H:Sep w (Fo) rs)(b:rSl bB g x1.Watches ∈ rs)(c:rSl aO j x1.Sessions ∈ rs){r:bK×(List bL)×Int}(hm:K3 x1 B C=some r) :
    Calls Tryz.prog 91 [.agg #[g,j],.int .i64 B,.int .i64 C].toArray w (Ret fun v w'=>∃ D F G,.tuple #[.agg #[D,F],G,.int .i64 r.2.2]=v∧Sep w' (Row 223 aX G r.2.1::Fo) (rSl bB D r.1.Watches::rSl aO F r.1.Sessions::rs)):=by
 unfold K3 at hm
 refine ent Tryz.func91 rfl Tryz.ntmps91 rfl rfl fun a E=>sq<|bS E H (wn rfl) rfl rfl rfl rfl rfl fun W w a H E=>bS E H (wn rfl) rfl rfl rfl rfl rfl fun X w a H E=>al E H rfl rfl rfl rfl S8 fun K w a H E=>pr 2 E rfl fun a E=>nt<|wp_seq<|sq<|?_
 refine sv E rfl rfl rfl (cC (i:=2) (us:=[g,j]) E H rfl rfl rfl rfl U73 rfl fE) fun a E=>bd hm fun L s hm=>xk E rfl rfl rfl rfl rfl Jd (s3 H b c s) fun w H a E=>pr 1 E rfl fun a E=>nt<|wif E hm rfl (fun hm=>?_) fun hm=>?_
 ·refine sq<|sv E rfl rfl rfl (cL E rfl (E.evs rfl) (v:=.agg #[.slice none 0 0,.slice none 0 0]) (by kernel_rfl)) fun a E=>bA (i:=0) E H (wn rfl) rfl rfl rfl rfl rfl rfl fE rfl rfl fun w H=>pr 2 E rfl fun a E=>nt<|wp_ret<|aP<|Om E rfl (dD (i:=0) (us:=[.slice none 0 0,.slice none 0 0]) H rfl rfl rfl U73 rfl fE) (rvT rfl) (rvT rfl)<|have H:=H.nilSl bB;?_
  refine have H:=H.nilSl aO;have H:=H.nilRow 223 aX;have H:=H.drs [1,1,1];?_
  cases hm
  exact X3 ⟨rfl,H.reads (aA mm1 (aA m0 (fun r hr=>(t2 hr))))⟩
 ·refine wp_skip<|aC<|sq<|pr 1 E rfl fun a E=>lb E H 2 rfl rfl rfl rfl rfl rfl rfl U71 rfl fun a E=>pr 1 E rfl fun a E=>bd hm fun M t hm=>xk E rfl rfl rfl rfl rfl Po (iY H c t) fun w H a E=>pr 5 E rfl fun a E=>?_
  refine nt<|wp_seq<|sq<|pr 2 E rfl fun a E=>nt<|wif E hm rfl (fun hm=>?_) fun hm=>?_
  ·refine sq<|sv E rfl rfl rfl (cC (i:=2) (us:=[g,j]) E H rfl rfl rfl rfl U73 rfl fE) fun a E=>bA (i:=0) E H (wn rfl) rfl rfl rfl rfl rfl rfl fE rfl (hY H b c) fun w H=>pr 2 E rfl fun a E=>nt<|wp_ret<|aP<|Om E rfl (dD (i:=0) (us:=[g,j]) H rfl rfl rfl U73 rfl fE) (rvT rfl) (rvT rfl)<|have H:=H.nilRow 223 aX;?_
   refine have H:=H.drs [1,1,1];?_
   cases hm
   exact X3 ⟨rfl,H.reads (aA b (aA c (fun r hr=>hr)))⟩
  ·refine wp_skip<|aC<|sq<|pr 1 E rfl fun a E=>lb E H 2 rfl rfl rfl rfl rfl rfl rfl U71 rfl fun a E=>bk hm fun u hm=>aW E (wn rfl) rfl rfl (cB E rfl rfl (Jg _)) (fH H c u) fun N w H a E=>pr 1 E rfl fun a E=>?_
   obtain ⟨q18,o,rfl⟩:=H.rowform (i:=0) rfl
   refine bA (i:=3) E H (wn rfl) rfl rfl rfl rfl rfl rfl Lc rfl rfl fun w H=>nx<|pr 1 E rfl fun a E=>lb E H 3 rfl rfl rfl rfl rfl rfl rfl U71 rfl fun a E=>pr 1 E rfl fun a E=>bd hm fun x20 e hm=>?_
   obtain ⟨O,P,l⟩:=H.rowformNE (i:=0) rfl e
   refine sv E rfl rfl rfl (dG (d:=aO) E l rfl rfl rfl rfl U71 uP e) fun a E=>pr 1 E rfl fun a E=>x5 (i:=0) (k:=2) E H l (wn rfl) rfl rfl rfl rfl rfl e rfl U44 rfl fun Q a H E=>?_
   obtain ⟨_,hcs⟩:=H.rd (.head _)
   obtain ⟨p,rfl,-⟩:=dS hcs
   clear hcs
   refine have H:=H.derive1 m0 (rSl aX p x20.Events) (fun ok h=>hU h);?_
   replace E:Env 48 a ((35,p)::_):=E
   refine bk hm fun y hm=>aW E (wn rfl) rfl rfl (cB E rfl rfl (Ff _)) (eV H m0 y) fun R w H a E=>sv E rfl rfl rfl (kJ E rfl rfl rfl) fun a E=>have H:=H.frs [4,3,3,4,4] rfl;bd hm fun m z hm=>cF E rfl rfl rfl rfl rfl HF (xD H z)<|?_
   rintro _ w ⟨S,rfl,H⟩ a E
   refine pr 1 E rfl fun a E=>nx<|pr 1 E rfl fun a E=>lb E H 4 rfl rfl rfl rfl rfl rfl rfl U71 rfl fun a E=>pr 2 E rfl fun a E=>bd hm fun q f hm=>?_
   obtain ⟨T,U,n⟩:=H.rowformNE (i:=2) rfl f
   refine sv E rfl rfl rfl (dG (d:=aO) E n rfl rfl rfl rfl U71 uP f) fun a E=>pr 1 E rfl fun a E=>?_
   obtain ⟨q38,I,rfl⟩:=H.rowform (i:=0) rfl
   refine have H:=H.thaw (i:=0) rfl;y3 (i:=1) (k:=2) (us:=[(.slice q38 m.length I)]) (y':=({ q with Events:=m }:aD)) E H n (wn rfl) rfl rfl rfl rfl rfl rfl f rfl Pp rfl (fun ok cs hr h=>by obtain ⟨Y,rfl,g1⟩:=dS h;exact lC (x:=({ q with Events:=m }:aD)) (hr _ m0)) fun w H=>nt<|wp_seq<|dw [(0,0),(1,0),(2,1),(3,1),(4,2),(5,2)] [3] [] H (by kernel_rfl) (fun _ _ _ h=>False.elim h.2) fun w W0 hI H=>fbn E [g,(.slice q18 x1.Sessions.length o)] rfl (wn rfl) rfl rfl rfl rfl m0 rfl U73 rfl fE fun a E=>fn 1 E rfl fun a E=>bY rfl<|bk hm fun A hm=>?_
   refine aW E (wn rfl) rfl rfl (cB E rfl rfl (Ff _)) (eV H m0 A) fun V w H a E=>nt<|?_
   refine ⟨⟨_,_,H,(aB mm4 (aL)),(aM)⟩,?_⟩
   refine bY rfl<|?_
   obtain ⟨q43,J,rfl⟩:=H.slform (t3 b)
   refine bA (i:=3) E H (wn rfl) rfl rfl rfl rfl rfl rfl fE rfl rfl fun w H=>nt<|?_
   refine ⟨⟨_,_,H,(aB mm4 (aL)),(aM)⟩,?_⟩
   refine bO rfl<|pr 1 E rfl fun a E=>nt<|bO rfl<|pr 1 E rfl fun a E=>nt<|bP<|?_
   clear hI
   refine aC<|wp_ret<|Om E rfl (dD (i:=3) (us:=[(.slice q43 x1.Watches.length J),(.slice q18 x1.Sessions.length o)]) H rfl rfl rfl U73 rfl fE) (rvT rfl) (rvT rfl)<|have H:=H.thaw (i:=2) rfl;have H:=H.drs [1,1,1];?_
   cases hm
   exact X3 ⟨rfl,H.reads (aA (t4 b) (aA m0 (fun r hr=>(t4 hr))))⟩

def yZ(d:List aK)(e:List aD)(x20:aU):Option (aH×(List aK)×(List aD)):=
  (K3 (⟨d,e⟩:bK) x20.Watch.Session x20.Epoch).bind fun b=>(nT d e b.1 b.2.1 b.2.2).bind fun c=>some (c.1,c.2.1,c.2.2)
theorem Ai{s:Nat}{b c x y z A j k l m n o p:Value}{d:List aK}{e:List aD}{x20:aU}(H:Sep w (Blk s 75 [j,k,l,m,b,c,n,o,p]::Fo) rs)(f:rSl bB b d ∈ rs)(g:rSl aO c e ∈ rs){r:aH×(List aK)×(List aD)}(hm:yZ d e x20=some r) :
    Calls Tryz.prog 34 [pt s 0,.agg (aS x20 x y z A).toArray].toArray w (Ret fun v w'=>∃ B C D F G I J q,.agg (bC r.1 B C D F G I).toArray=v∧Sep w' (Blk s 75 [j,k,l,m,J,q,n,o,p]::Fo) (rSl bF B r.1.Results::rSl aE C r.1.Store.Nodes::rSl aI D r.1.Store.Turns::rSl aX F r.1.Events::rSl bM G r.1.Mounts::rSl (kI .i64) I r.1.Wounded::rSl bB J r.2.1::rSl aO q r.2.2::rs)):=by
 unfold yZ at hm
 refine ent Tryz.func34 rfl Tryz.ntmps34 rfl rfl fun a E=>sq<|bS E H (wn rfl) rfl rfl rfl rfl rfl fun R w a H E=>al E H rfl rfl rfl rfl gO fun S w a H E=>nt<|wp_seq<|dwc [(0,0),(1,0),(2,0),(3,0),(5,0),(6,0),(8,0),(4,0),(7,0),(9,1),(10,1),(11,0),(12,0),(13,0),(14,2),(15,2)] [1,2] [] H (by kernel_rfl) (fun _ _ _ h=>False.elim h.2) fun w W0 hI H=>fn 7 E rfl fun a E=>fbn E [b,c] rfl (wn rfl) rfl rfl rfl rfl mm1 rfl U73 rfl fE fun a E=>?_
 refine fb E rfl (wn rfl) rfl rfl rfl rfl m0 rfl U2 rfl fun a E=>bY rfl<|lb E H 1 rfl rfl rfl rfl rfl rfl rfl U2 rfl fun a E=>nt<|?_
 refine ⟨⟨_,_,H,(aB mm1 (aB mm2 (aL))),(aM)⟩,?_⟩
 refine bY rfl<|bd hm fun T t hm=>cF E rfl rfl rfl rfl rfl KZ (Lm (x1:=(⟨d,e⟩:bK)) H f g t)<|?_
 rintro _ w ⟨U,V,W,rfl,H⟩ a E
 refine nt<|?_
 refine ⟨⟨_,_,H,(aB mm2 (aB mm3 (aL))),(aM)⟩,?_⟩
 refine fn 3 E rfl fun a E=>bO rfl<|have H:=H.thaw (i:=0) rfl;have H:=H.frs [1,1,2] rfl;bd hm fun K u hm=>cF E rfl rfl rfl rfl rfl Vc (vL H (t3 f) (t3 g) mm1 mm2 m0 u)<|?_
 rintro _ w ⟨L,M,N,O,P,Q,X,Y,rfl,H⟩ a E
 refine nt<|bO rfl<|bA (i:=1) E H (wn rfl) rfl rfl rfl rfl rfl rfl bV rfl (bD H m0 mm1 mm2 mm3 mm4 mm5) fun w H=>nt<|bP<|?_
 clear hI
 refine aC<|wp_ret<|dT E rfl (dD (i:=1) (us:=(bC K.1 L M N O P Q)) H rfl rfl rfl U48 rfl bV)<|have H:=H.drs [1,1];?_
 cases hm
 exact X8 ⟨rfl,H.reads (aA m0 (aA mm1 (aA mm2 (aA mm3 (aA mm4 (aA mm5 (aA mm6 (aA (t1 mm6) (fun r hr=>(t3 (t8 hr)))))))))))⟩

def qZ(b:aH×(List aK)×(List aD))(c:(List ((Int)×aH))):Option (aH×(List aK)×(List aD)×(List ((Int)×aH))):=
  some (b.1,b.2.1,b.2.2,c)
def nU(b:aH×(List aK)×(List aD))(c:List ((Int)×aH))(x20:aU)(e:Bool):Option (aH×(List aK)×(List aD)×(List ((Int)×aH))):=
  if e=true then ((mpt (kyI .i64) c x20.Id b.1).bind fun d=>qZ b d) else (qZ b c)
def rA(c:List ((Int)×aH))(x20:aU)(d:List aK)(e:List aD)(f:Bool):Option (aH×(List aK)×(List aD)×(List ((Int)×aH))):=
  if f=true then ((dZ 2).bind fun g=>some (g,d,e,c)) else ((yZ d e x20).bind fun b=>if (x20.Id != 0)=true then (if (b.1.Err != 131)=true then (nU b c x20 (b.1.Err != 132)) else (nU b c x20 false)) else (nU b c x20 false))
def vM(b:List ((Int)×aH))(x20:aU)(c:List aK)(d:List aD)(e:Bool)(f:Int)(g:Int)(i:Bool)(j:Int)(k:(List cP))(l:(List aF))(m:(List aJ))(n:(List bL))(o:(List oC))(p:(List Int)):Option (aH×(List aK)×(List aD)×(List ((Int)×aH))):=
  if e=true then (some ((⟨f,g,i,j,k,(⟨l,m⟩:aR),n,o,p⟩:aH),c,d,b)) else (if (x20.Id != 0)=true then (rA b x20 c d ((b.length:Int) == 512)) else (rA b x20 c d false))
def zA(d:List aK)(e:List aD)(c:List ((Int)×aH))(x20:aU):Option (aH×(List aK)×(List aD)×(List ((Int)×aH))):=
  (y4 (kyI .i64) c x20.Id qG).bind fun b=>vM c x20 d e b.2 b.1.Err b.1.At b.1.Yes b.1.Epoch b.1.Results b.1.Store.Nodes b.1.Store.Turns b.1.Events b.1.Mounts b.1.Wounded
theorem Aj{o f:Nat}{O P I J L M p q s t u x:Value}{c0:List aK}{c1:List aD}{y:List ((Int)×aH)}{x20:aU}(H:Sep w (Blk o 75 [p,q,s,t,O,P,.map (some f),u,x]::cG Tryz.prog 2 (kyI .i64) bJ true f y::Fo) rs)(b7:rSl bB O c0 ∈ rs)(b8:rSl aO P c1 ∈ rs){r:aH×(List aK)×(List aD)×(List ((Int)×aH))}(hm:zA c0 c1 y x20=some r) :
    Calls Tryz.prog 37 [pt o 0,.agg (aS x20 I J L M).toArray,.func (.func 34) #[] #[]].toArray w (Ret fun v w'=>∃ f9 g0 g1 g2 g3 g4 g5 f3,.agg (bC r.1 f9 g0 g1 g2 g3 g4).toArray=v∧Sep w' (Blk o 75 [p,q,s,t,g5,f3,.map (some f),u,x]::cG Tryz.prog 2 (kyI .i64) bJ true f r.2.2.2::Fo) (rSl bF f9 r.1.Results::rSl aE g0 r.1.Store.Nodes::rSl aI g1 r.1.Store.Turns::rSl aX g2 r.1.Events::rSl bM g3 r.1.Mounts::rSl (kI .i64) g4 r.1.Wounded::rSl bB g5 r.2.1::rSl aO f3 r.2.2.1::rs)):=by
 unfold zA at hm
 refine ent Tryz.func37 rfl Tryz.ntmps37 rfl rfl fun a E=>sq<|bS E H (wn rfl) rfl rfl rfl rfl rfl fun l w a H E=>al E H rfl rfl rfl rfl gO fun z w a H E=>nt<|wp_seq<|aV (fun a w=>∃ c9 X Y Z b0 b1 b2 d0 b3 b4 b5 b6 d1 d2 d3 d4 d5 d6 g,Env 59 a [(0,pt o 0),(2,.func (.func 34) #[] #[]),(4,pt l 0),(6,pt z 0),(7,pt c9 0),(8,.bool d0)]∧Sep w (Blk o 75 [p,q,s,t,O,P,.map (some f),u,x]::Blk l 37 (aS x20 I J L M)::Blk z 48 bN::Blk c9 48 [.int .i64 b3,.int .i64 b4,.bool b5,.int .i64 b6,X,Y,Z,b0,b1,b2]::cG Tryz.prog 2 (kyI .i64) bJ true f y::Fo) g∧(∀ r,r ∈ rs→r ∈ g)∧rSl bF X d1 ∈ g∧rSl aE Y d2 ∈ g∧rSl aI Z d3 ∈ g∧rSl aX b0 d4 ∈ g∧rSl bM b1 d5 ∈ g∧rSl (kI .i64) b2 d6 ∈ g∧vM y x20 c0 c1 d0 b3 b4 b5 b6 d1 d2 d3 d4 d5 d6=some r) ?_ ?_
 ·refine bd hm fun i3 c2 hm=>?_
  have hI:eD [Blk l 37 (aS x20 I J L M),Blk o 75 [p,q,s,t,O,P,.map (some f),u,x]] [] { w with drawn:=w.drawn+1 }:=⟨_,_,H.kept (Kp.drawn _ w _),(aB mm1 (aB mm2 (aL))),(aM)⟩
  refine mA _ (.go 0 0 (.go 1 0 (.go 2 0 (.go 3 0 (.go 4 0 (.go 5 0 (.alt 6 (.go 7 0 (.go 8 0 (.go 9 0 (.go 10 1 (.go 11 1 (.go 12 2 .nil)))))) 10 (.go 6 1 (.go 7 0 (.go 8 0 (.go 9 0 (.go 11 1 (.go 12 2 .nil))))))))))))) [12] mH (by kernel_rfl) (fun _ _ _ h=>False.elim h.2) hI<|have H:=H.kept (Kp.drawn _ w (w.drawn+1));?_
  generalize ({ w with drawn:=w.drawn+1 }:World)=w at H hI ⊢
  replace hI:∃ W,eD [Blk l 37 (aS x20 I J L M),Blk o 75 [p,q,s,t,O,P,.map (some f),u,x]] [] W:=⟨_,hI⟩
  obtain ⟨W0,hI⟩:=hI
  refine aZ E rfl (wn rfl) rfl rfl (fun w hW=>(bE E rfl rfl)) fun a E=>aZ E rfl (wn rfl) rfl rfl (fun w hW=>(vX E rfl rfl)) fun a E=>aZ E rfl (wn rfl) rfl rfl (fun w hW=>lA E rfl rfl (v:=pt o 6) (Z6 _ _)) fun a E=>aZ E rfl (wn rfl) rfl rfl (fun w hW=>fC E rfl rfl (mB mm1 rfl U68 rfl w hW)) fun a E=>aZ E rfl (wn rfl) rfl rfl (fun w hW=>lA E rfl rfl (v:=pt l 1) (Z5 _ _)) fun a E=>aZ E rfl (wn rfl) rfl rfl (fun w hW=>fC E rfl rfl (mB m0 rfl U2 rfl w hW)) fun a E=>?_
  refine mU rfl rfl ?_ ?_
  ·refine oE (i:=3) (K:=(kyI .i64)) E H (wn rfl) rfl rfl rfl rfl rfl rfl (eS U2) U68 y8 J5 c2 fun i4 a H E=>?_
   obtain ⟨i5,i6,i7,i8,i9,j0,rfl,h⟩:=lD H;clear H;have H:=h
   refine nt<|?_
   refine ⟨⟨_,_,H,(aB mm1 (aB mm2 (aL))),(aM)⟩,?_⟩
   refine aZ E rfl (wn rfl) rfl rfl (fun w hW=>(bE E rfl rfl)) fun a E=>aZ E rfl (wn rfl) rfl rfl (fun w hW=>(dF E rfl rfl rfl)) fun a E=>aZ E rfl (wn rfl) rfl rfl (fun w hW=>(dF E rfl rfl rfl)) fun a E=>cN rfl<|al E H rfl rfl rfl rfl gO fun j1 w a H E=>nt<|?_
   refine ⟨⟨_,_,H,(aB mm2 (aB mm3 (aL))),(aM)⟩,?_⟩
   refine cN rfl<|bA (i:=0) E H (wn rfl) rfl rfl rfl rfl rfl rfl bV rfl (bD H mm5 mm4 mm3 mm2 mm1 m0) fun w H=>nt<|?_
   refine ⟨⟨_,_,H,(aB mm2 (aB mm3 (aL))),(aM)⟩,?_⟩
   refine cX rfl<|pr 1 E rfl fun a E=>nt<|eL<|?_
   clear hI
   exact aC<|have H:=H.frs [4,1,2,3,4] rfl;X19 ⟨E.to rfl,H,(Y7 Y0),mm5,mm4,mm3,mm2,mm1,m0,hm⟩
  ·refine al E H rfl rfl rfl rfl gO fun j2 w a H E=>nt<|?_
   refine ⟨⟨_,_,H,(aB mm2 (aB mm3 (aL))),(aM)⟩,?_⟩
   refine cN rfl<|oE (i:=4) (K:=(kyI .i64)) E H (wn rfl) rfl rfl rfl rfl rfl rfl (eS U2) U68 y8 J5 c2 fun j3 a H E=>?_
   obtain ⟨j4,j5,j6,j7,j8,j9,rfl,h⟩:=lD H;clear H;have H:=h
   refine nt<|?_
   refine ⟨⟨_,_,H,(aB mm2 (aB mm3 (aL))),(aM)⟩,?_⟩
   refine aZ E rfl (wn rfl) rfl rfl (fun w hW=>(bE E rfl rfl)) fun a E=>aZ E rfl (wn rfl) rfl rfl (fun w hW=>(dF E rfl rfl rfl)) fun a E=>aZ E rfl (wn rfl) rfl rfl (fun w hW=>(dF E rfl rfl rfl)) fun a E=>cN rfl<|bA (i:=0) E H (wn rfl) rfl rfl rfl rfl rfl rfl bV rfl (bD H mm5 mm4 mm3 mm2 mm1 m0) fun w H=>nt<|?_
   refine ⟨⟨_,_,H,(aB mm2 (aB mm3 (aL))),(aM)⟩,?_⟩
   refine cX rfl<|pr 1 E rfl fun a E=>nt<|eL<|?_
   clear hI
   exact aC<|have H:=H.frs [4,1,2,3,4] rfl;X19 ⟨E.to rfl,H,(Y7 Y0),mm5,mm4,mm3,mm2,mm1,m0,hm⟩
 ·clear E H hm
  rintro a w ⟨c9,X,Y,Z,b0,b1,b2,d0,b3,b4,b5,b6,d1,d2,d3,d4,d5,d6,g,E,H,N,d7,d8,d9,e0,e1,e2,hm⟩
  unfold vM at hm
  refine sq<|pr 1 E rfl fun a E=>nt<|wif E hm rfl (fun hm=>?_) fun hm=>?_
  ·refine sq<|sv E rfl rfl rfl (cC (i:=3) (us:=[.int .i64 b3,.int .i64 b4,.bool b5,.int .i64 b6,X,Y,Z,b0,b1,b2]) E H rfl rfl rfl rfl U48 rfl bV) fun a E=>bA (i:=2) E H (wn rfl) rfl rfl rfl rfl rfl rfl bV rfl (bD H d7 d8 d9 e0 e1 e2) fun w H=>nt<|wp_ret<|aP<|dT E rfl (dD (i:=2) (us:=[.int .i64 b3,.int .i64 b4,.bool b5,.int .i64 b6,X,Y,Z,b0,b1,b2]) H rfl rfl rfl U48 rfl bV)<|have H:=H.drs [1,1,1];?_
   cases hm
   exact X8 ⟨rfl,H.reads (aA d7 (aA d8 (aA d9 (aA e0 (aA e1 (aA e2 (aA (N _ b7) (aA (N _ b8) (N)))))))))⟩
  ·refine wp_skip<|aC<|wp_seq<|aV (fun a w=>∃ e3 b9,Env 59 a [(0,pt o 0),(2,.func (.func 34) #[] #[]),(4,pt l 0),(6,pt z 0),(32,.bool e3)]∧Sep w (Blk o 75 [p,q,s,t,O,P,.map (some f),u,x]::Blk l 37 (aS x20 I J L M)::Blk z 48 bN::cG Tryz.prog 2 (kyI .i64) bJ true f y::Fo) b9∧(∀ r,r ∈ rs→r ∈ b9)∧rA y x20 c0 c1 e3=some r) ?_ ?_
   ·refine wp_region_lit<|pr 1 E rfl fun a E=>lb E H 1 rfl rfl rfl rfl rfl rfl rfl U2 rfl fun a E=>pr 2 E rfl fun a E=>cs hm (fun k hm=>?_) fun k hm=>?_
    ·exact pk 3 E (kc 25 rfl k) rfl fun a E=>aQ E (ws' (d:=25) E rfl rfl rfl rfl k) rfl rfl (cD (i:=0) E H rfl rfl rfl rfl U68 rfl) fun a E=>aQ E (ws' (d:=25) E rfl rfl rfl rfl k) rfl rfl (E4 (i:=4) E H rfl rfl rfl U68) fun a E=>pk 2 E (kc 25 rfl k) rfl fun a E=>nt<|have H:=H.drop 3;⟨_,_,E.to rfl,H,N,hm⟩
    ·exact pk 7 E (kc 25 rfl k) rfl fun a E=>nt<|have H:=H.drop 3;⟨_,_,E.to rfl,H,N,hm⟩
   ·clear E H hm
    rintro a w ⟨e3,b9,E,H,j,hm⟩
    unfold rA at hm
    refine wif E hm rfl (fun hm=>?_) fun hm=>?_
    ·refine sq<|bd hm fun g6 f4 hm=>cF E rfl rfl rfl rfl rfl xN (eI H f4)<|?_
     rintro _ w ⟨g7,g8,g9,i0,i1,i2,rfl,H⟩ a E
     refine bA (i:=2) E H (wn rfl) rfl rfl rfl rfl rfl rfl bV rfl (bD H m0 mm1 mm2 mm3 mm4 mm5) fun w H=>nt<|wp_ret<|aP<|dT E rfl (dD (i:=2) (us:=(bC g6 g7 g8 g9 i0 i1 i2)) H rfl rfl rfl U48 rfl bV)<|have H:=H.drs [1,1];?_
     cases hm
     exact X8 ⟨rfl,H.reads (aA m0 (aA mm1 (aA mm2 (aA mm3 (aA mm4 (aA mm5 (aA (t6 (j _ b7)) (aA (t6 (j _ b8)) (fun r hr=>(t6 (j r hr)))))))))))⟩
    ·refine wp_skip<|aC<|sq<|pr 2 E rfl fun a E=>sv E rfl rfl rfl (cC (i:=1) (us:=(aS x20 I J L M)) E H rfl rfl rfl rfl U37 rfl F3) fun a E=>bd hm fun b f5 hm=>aW E (wn rfl) rfl rfl (bR E rfl rfl rfl (KY _)) (Ai H (j _ b7) (j _ b8) f5)<|?_
     rintro _ w ⟨A,B,C,D,F,G,c3,c4,rfl,H⟩ a E
     refine al E H rfl rfl rfl rfl gO fun c5 w a H E=>bA (i:=0) E H (wn rfl) rfl rfl rfl rfl rfl rfl bV rfl (bD H m0 mm1 mm2 mm3 mm4 mm5) fun w H=>nt<|aV (fun a w=>∃ e4 e,Env 59 a [(6,pt z 0),(9,pt c5 0)]∧Sep w (Blk z 48 bN::Blk c5 48 (bC b.1 A B C D F G)::Blk o 75 [p,q,s,t,c3,c4,.map (some f),u,x]::cG Tryz.prog 2 (kyI .i64) bJ true f e4::Fo) e∧(∀ r,r ∈ rs→r ∈ e)∧rSl bF A b.1.Results ∈ e∧rSl aE B b.1.Store.Nodes ∈ e∧rSl aI C b.1.Store.Turns ∈ e∧rSl aX D b.1.Events ∈ e∧rSl bM F b.1.Mounts ∈ e∧rSl (kI .i64) G b.1.Wounded ∈ e∧rSl bB c3 b.2.1 ∈ e∧rSl aO c4 b.2.2 ∈ e∧qZ b e4=some r) ?_ ?_
     ·refine aV (fun a w=>∃ e5 c,Env 59 a [(0,pt o 0),(4,pt l 0),(6,pt z 0),(9,pt c5 0),(50,.bool e5)]∧Sep w (Blk o 75 [p,q,s,t,c3,c4,.map (some f),u,x]::Blk l 37 (aS x20 I J L M)::Blk z 48 bN::Blk c5 48 (bC b.1 A B C D F G)::cG Tryz.prog 2 (kyI .i64) bJ true f y::Fo) c∧(∀ r,r ∈ rs→r ∈ c)∧rSl bB c3 b.2.1 ∈ c∧rSl aO c4 b.2.2 ∈ c∧rSl bF A b.1.Results ∈ c∧rSl aE B b.1.Store.Nodes ∈ c∧rSl aI C b.1.Store.Turns ∈ c∧rSl aX D b.1.Events ∈ c∧rSl bM F b.1.Mounts ∈ c∧rSl (kI .i64) G b.1.Wounded ∈ c∧nU b y x20 e5=some r) ?_ ?_
      ·refine wp_region_lit<|pr 1 E rfl fun a E=>lb E H 2 rfl rfl rfl rfl rfl rfl rfl U2 rfl fun a E=>pr 2 E rfl fun a E=>cs hm (fun m hm=>?_) fun m hm=>?_
       ·refine pk 1 E (kc 41 rfl m) rfl fun a E=>aQ E (ws' (d:=41) E rfl rfl rfl rfl m) rfl rfl (cD (i:=0) E H rfl rfl rfl rfl U41 rfl) fun a E=>pk 3 E (kc 41 rfl m) rfl fun a E=>cs hm (fun n hm=>?_) fun n hm=>?_
        ·exact pk 1 E (kc 46 rfl n) rfl fun a E=>aQ E (ws' (d:=46) E rfl rfl rfl rfl n) rfl rfl (cD (i:=0) E H rfl rfl rfl rfl U41 rfl) fun a E=>pk 2 E (kc 46 rfl n) rfl fun a E=>nt<|have H:=H.frs [4,1,4,4,4] rfl;⟨_,_,E.to rfl,H,(Y8 j),mm6,(t1 mm6),m0,mm1,mm2,mm3,mm4,mm5,hm⟩
        ·exact pk 4 E (kc 46 rfl n) rfl fun a E=>nt<|have H:=H.frs [4,1,4,4,4] rfl;⟨_,_,E.to rfl,H,(Y8 j),mm6,(t1 mm6),m0,mm1,mm2,mm3,mm4,mm5,hm⟩
       ·exact pk 9 E (kc 41 rfl m) rfl fun a E=>nt<|have H:=H.frs [4,1,4,4,4] rfl;⟨_,_,E.to rfl,H,(Y8 j),mm6,(t1 mm6),m0,mm1,mm2,mm3,mm4,mm5,hm⟩
      ·clear E H hm
       rintro a w ⟨e5,c,E,H,c6,c7,c8,Q,R,S,T,U,V,hm⟩
       unfold nU at hm
       refine wif E hm rfl (fun hm=>?_) fun hm=>?_
       ·refine dw [(0,0),(1,0),(2,0),(3,0),(4,0),(5,0),(6,0),(7,2)] [0,1,3] [] H (by kernel_rfl) (fun _ _ _ h=>False.elim h.2) fun w W0 hI H=>fn 3 E rfl fun a E=>fb E rfl (wn rfl) rfl rfl rfl rfl m0 rfl U68 rfl fun a E=>fn 1 E rfl fun a E=>fb E rfl (wn rfl) rfl rfl rfl rfl mm1 rfl U2 rfl fun a E=>fbn E (bC b.1 A B C D F G) rfl (wn rfl) rfl rfl rfl rfl mm2 rfl U48 rfl bV fun a E=>bO rfl<|bd hm fun k0 f2 hm=>B6 (i:=4) (K:=(kyI .i64)) (v:=b.1) (cs:=[.int .i64 b.1.Err,.int .i64 b.1.At,.bool b.1.Yes,.int .i64 b.1.Epoch,A,B,C,D,F,G]) E H (wn rfl) rfl rfl rfl rfl rfl rfl (eS U2) U68 f2 (fun ok hr=>(oF (hr _ Q) (hr _ R) (hr _ S) (hr _ T) (hr _ U) (hr _ V))) fun w H=>?_
        refine nt<|bP<|?_
        clear hI
        exact aC<|have H:=H.drop 1;have H:=H.frs [3,1,3,3] rfl;⟨_,_,E.to rfl,H,c6,Q,R,S,T,U,V,c7,c8,hm⟩
       ·exact wp_skip<|aC<|have H:=H.drop 1;have H:=H.frs [3,1,3,3] rfl;⟨_,_,E.to rfl,H,c6,Q,R,S,T,U,V,c7,c8,hm⟩
     ·clear E H hm
      rintro a w ⟨e4,e,E,H,f6,e6,e7,e8,e9,f0,f1,f7,f8,hm⟩
      unfold qZ at hm
      refine sq<|sv E rfl rfl rfl (cC (i:=1) (us:=(bC b.1 A B C D F G)) E H rfl rfl rfl rfl U48 rfl bV) fun a E=>bA (i:=0) E H (wn rfl) rfl rfl rfl rfl rfl rfl bV rfl (bD H e6 e7 e8 e9 f0 f1) fun w H=>nt<|wp_ret<|dT E rfl (dD (i:=0) (us:=(bC b.1 A B C D F G)) H rfl rfl rfl U48 rfl bV)<|have H:=H.drs [0,0];?_
      cases hm
      exact X8 ⟨rfl,H.reads (aA e6 (aA e7 (aA e8 (aA e9 (aA f0 (aA f1 (aA f7 (aA f8 (f6)))))))))⟩

def C4(x1:aK)(x3:Int)(b:Int):Option Bool:=
  if (x1.Session == x3)=true then (some (x1.Num == b)) else (some (false))
theorem Gw{x1:aK}{c e:Nat}{x3 f:Int}(H:Sep w (Blk c 2 [.int .i64 x3]::Blk e 2 [.int .i64 f]::Fo) rs){r:Bool}(hm:C4 x1 x3 f=some r) :
    Calls Tryz.prog 231 [.agg (dX x1).toArray,pt c 0,pt e 0].toArray w (Ret fun v w'=>.bool r=v∧Sep w' (Blk c 2 [.int .i64 x3]::Blk e 2 [.int .i64 f]::Fo) (rs)):=by
 unfold C4 at hm
 refine ent Tryz.func231 rfl Tryz.ntmps231 rfl rfl fun a E=>sq<|bS E H (wn rfl) rfl rfl rfl rfl rfl fun g w a H E=>pr 1 E rfl fun a E=>nx<|pr 1 E rfl fun a E=>lb E H 0 rfl rfl rfl rfl rfl rfl rfl U2 rfl fun a E=>lb E H 1 rfl rfl rfl rfl rfl rfl rfl U2 rfl fun a E=>pr 2 E rfl fun a E=>cs hm (fun b hm=>?_) fun b hm=>?_
 ·refine pk 1 E (kc 9 rfl b) rfl fun a E=>aQ E (ws' (d:=9) E rfl rfl rfl rfl b) rfl rfl (cD (i:=0) E H rfl rfl rfl rfl U2 rfl) fun a E=>aQ E (ws' (d:=9) E rfl rfl rfl rfl b) rfl rfl (cD (i:=2) E H rfl rfl rfl rfl U2 rfl) fun a E=>pk 3 E (kc 9 rfl b) rfl fun a E=>nt<|wp_ret<|aY E rfl rfl<|have H:=H.drop 0;?_
  cases hm
  exact ⟨rfl,H.reads Y0⟩
 ·refine pk 6 E (kc 9 rfl b) rfl fun a E=>nt<|wp_ret<|aY E rfl rfl<|have H:=H.drop 0;?_
  cases hm
  exact ⟨rfl,H.reads Y0⟩

def fJ(c:List aK)(d:Int)(e:Int):Nat→Int→Option Int
  | 0,_=>none
  | i+1,b=>
    if (decide (b < (c.length:Int)))=true then ((idx c b).bind fun f=>(C4 f d e).bind fun g=>if g=true then (some (b)) else (fJ c d e i (IntKind.i64.wrap (b+1)))) else (some ((-1)))
def jP(b:List aK)(c:Int)(d:Int):Option Int:=
  fJ b c d (((b.length:Int) - 0:Int).toNat+1) 0
theorem wK{l:Value}{d:List aK}{e f:Nat}{g i:Int}(H:Sep w (Blk e 2 [.int .i64 g]::Blk f 2 [.int .i64 i]::Fo) rs)(k:rSl bB l d ∈ rs){r:Int}(hm:jP d g i=some r) :
    Calls Tryz.prog 230 [l,.func (.func 231) #[] #[pt e 0,pt f 0]].toArray w (Ret fun v w'=>.int .i64 r=v∧Sep w' (Blk e 2 [.int .i64 g]::Blk f 2 [.int .i64 i]::Fo) (rs)):=by
 unfold jP at hm
 refine ent Tryz.func230 rfl Tryz.ntmps230 rfl rfl fun a E=>sq<|pr 1 E rfl fun a E=>nt<|wp_seq<|sq<|pr 1 E rfl fun a E=>sv E rfl rfl rfl (cV E H rfl rfl k U70) fun a E=>pr 1 E rfl fun a E=>?_
 refine nt<|wp_block<|bX (fun c a w=>∃ m j,Env 19 a [(0,l),(1,.func (.func 231) #[] #[pt e 0,pt f 0]),(7,.int .i64 (d.length:Int)),(8,.int .i64 m)]∧Sep w (Blk e 2 [.int .i64 g]::Blk f 2 [.int .i64 i]::Fo) j∧(∀ r,r ∈ rs→r ∈ j)∧fJ d g i c m=some r) (((d.length:Int) - 0:Int).toNat+1) ?_ ?_
 ·exact ⟨_,_,E.to rfl,H,Y0,hm⟩
 ·clear E H hm
  rintro c a w ⟨m,j,E,H,b,hm⟩
  cases c with
  | zero=>exact (bU hm rfl).elim
  | succ c=>
   unfold fJ at hm
   refine sq<|pr 1 E rfl fun a E=>nt<|wp_seq<|wif E hm rfl (fun hm=>?_) fun hm=>?_
   ·refine wp_skip<|aC<|wp_seq<|wp_block<|sq<|pr 2 E rfl fun a E=>nx<|pr 3 E rfl fun a E=>bd hm fun p n hm=>?_
    refine dR E H (wn rfl) rfl rfl rfl rfl rfl (b _ k) U70 sO n fun q13 a H E=>ldf jJ E H rfl rfl rfl rfl rfl m0 U35 rfl sO fun a E=>bd hm fun q o hm=>aW E (wn rfl) rfl rfl (bR E rfl rfl rfl (HI _)) (Gw H o)<|?_
    rintro _ w ⟨rfl,H⟩ a E
    refine nt<|wif E hm rfl (fun hm=>?_) fun hm=>?_
    ·refine sq<|pr 2 E rfl fun a E=>nt<|wp_ret<|bW<|aP<|aP<|bW<|aP<|?_
     refine aY E rfl rfl<|?_
     cases hm
     exact ⟨rfl,H.reads (Y1 b)⟩
    ·exact wp_skip<|bZ<|aC<|wp_region_lit<|pr 2 E rfl fun a E=>nt<|⟨c,Nat.lt_succ_self c,_,_,E.to rfl,H,(Y1 b),hm⟩
   ·refine wp_exit<|bG<|bG<|dN<|aC<|sq<|pr 1 E rfl fun a E=>nt<|wp_ret<|?_
    refine aY E rfl rfl<|?_
    cases hm
    exact ⟨rfl,H.reads b⟩

def A4(x1:bK)(c:Int)(d:Int):Option Int:=
  (jP x1.Watches c d).bind fun b=>some (b)
theorem Ak{x1:bK}{c g:Value}{d e:Int}(H:Sep w (Fo) rs)(f:rSl bB c x1.Watches ∈ rs){r:Int}(hm:A4 x1 d e=some r) :
    Calls Tryz.prog 162 [.agg #[c,g],.int .i64 d,.int .i64 e].toArray w (Ret fun v w'=>.int .i64 r=v∧Sep w' (Fo) (rs)):=by
 unfold A4 at hm
 refine ent Tryz.func162 rfl Tryz.ntmps162 rfl rfl fun a E=>sq<|bS E H (wn rfl) rfl rfl rfl rfl rfl fun k w a H E=>bS E H (wn rfl) rfl rfl rfl rfl rfl fun l w a H E=>bS E H (wn rfl) rfl rfl rfl rfl rfl fun i w a H E=>pr 1 E rfl fun a E=>nx<|pr 1 E rfl fun a E=>lb E H 2 rfl rfl rfl rfl rfl rfl rfl U70 rfl fun a E=>?_
 refine sv E rfl rfl rfl (kJ E rfl rfl rfl) fun a E=>have H:=H.frs [2,1,2] rfl;bd hm fun j b hm=>xk E rfl rfl rfl rfl rfl Pm (wK H f b) fun w H a E=>pr 1 E rfl fun a E=>nt<|wp_ret<|aY E rfl rfl<|have H:=H.drs [0,0,0];?_
 cases hm
 exact ⟨rfl,H.reads Y0⟩

def G2(x1:bK)(d:Int)(e:Int):Option (bK×Int):=
  (rI x1).bind fun c=>if (!c)=true then (some ((⟨[],[]⟩:bK),1)) else ((A4 x1 d e).bind fun b=>if (decide (b < 0))=true then (some (x1,62)) else ((ck (x1.Watches.length ≤ LIM)).bind fun f=>(ck (0 ≤ b∧b < x1.Watches.length∧IntKind.i64.wrap (b+1)=b+1)).bind fun g=>some ((⟨x1.Watches.eraseIdx b.toNat,x1.Sessions⟩:bK),0)))
theorem V9{x1:bK}{e d:Value}{n o:Int}(H:Sep w (Fo) rs)(b:rSl bB e x1.Watches ∈ rs)(c:rSl aO d x1.Sessions ∈ rs){r:bK×Int}(hm:G2 x1 n o=some r) :
    Calls Tryz.prog 90 [.agg #[e,d],.int .i64 n,.int .i64 o].toArray w (Ret fun v w'=>∃ p q,.tuple #[.agg #[p,q],.int .i64 r.2]=v∧Sep w' (Fo) (rSl bB p r.1.Watches::rSl aO q r.1.Sessions::rs)):=by
 unfold G2 at hm
 refine ent Tryz.func90 rfl Tryz.ntmps90 rfl rfl fun a E=>sq<|bS E H (wn rfl) rfl rfl rfl rfl rfl fun y w a H E=>al E H rfl rfl rfl rfl S8 fun z w a H E=>pr 1 E rfl fun a E=>nt<|wp_seq<|sq<|sv E rfl rfl rfl (cC (i:=1) (us:=[e,d]) E H rfl rfl rfl rfl U73 rfl fE) fun a E=>?_
 refine bd hm fun t j hm=>xk E rfl rfl rfl rfl rfl Jd (s3 H b c j) fun w H a E=>pr 1 E rfl fun a E=>nt<|wif E hm rfl (fun hm=>?_) fun hm=>?_
 ·refine sq<|sv E rfl rfl rfl (cL E rfl (E.evs rfl) (v:=.agg #[.slice none 0 0,.slice none 0 0]) (by kernel_rfl)) fun a E=>bA (i:=0) E H (wn rfl) rfl rfl rfl rfl rfl rfl fE rfl rfl fun w H=>pr 1 E rfl fun a E=>nt<|wp_ret<|aP<|uN E rfl (dD (i:=0) (us:=[.slice none 0 0,.slice none 0 0]) H rfl rfl rfl U73 rfl fE) (rvT rfl)<|have H:=H.nilSl bB;?_
  refine have H:=H.nilSl aO;have H:=H.drs [0,0];?_
  cases hm
  exact ⟨_,_,rfl,H.reads (aA mm1 (aA m0 (fun r hr=>(t2 hr))))⟩
 ·refine wp_skip<|aC<|sq<|sv E rfl rfl rfl (cC (i:=1) (us:=[e,d]) E H rfl rfl rfl rfl U73 rfl fE) fun a E=>pr 2 E rfl fun a E=>bd hm fun f k hm=>xk E rfl rfl rfl rfl rfl Xe (Ak H b k) fun w H a E=>pr 1 E rfl fun a E=>nt<|?_
  refine wp_seq<|sq<|pr 2 E rfl fun a E=>nt<|wif E hm rfl (fun hm=>?_) fun hm=>?_
  ·refine sq<|sv E rfl rfl rfl (cC (i:=1) (us:=[e,d]) E H rfl rfl rfl rfl U73 rfl fE) fun a E=>bA (i:=0) E H (wn rfl) rfl rfl rfl rfl rfl rfl fE rfl (hY H b c) fun w H=>pr 1 E rfl fun a E=>nt<|wp_ret<|aP<|uN E rfl (dD (i:=0) (us:=[e,d]) H rfl rfl rfl U73 rfl fE) (rvT rfl)<|have H:=H.drs [0,0];?_
   cases hm
   exact ⟨_,_,rfl,H.reads (aA b (aA c (fun r hr=>hr)))⟩
  ·refine wp_skip<|aC<|sq<|pr 1 E rfl fun a E=>lb E H 1 rfl rfl rfl rfl rfl rfl rfl U70 rfl fun a E=>bk hm fun l hm=>aW E (wn rfl) rfl rfl (cB E rfl rfl (Jh _)) (gD H b l) fun u w H a E=>pr 3 E rfl fun a E=>bk hm fun m hm=>?_
   refine aW E (wn rfl) rfl rfl (cB E rfl rfl (HJ _)) (Wa.delete_c (ix:=0) H rfl m) fun x w H a E=>pr 1 E rfl fun a E=>?_
   obtain ⟨q20,g,rfl⟩:=H.rowform (i:=0) rfl
   refine bA (i:=2) E H (wn rfl) rfl rfl rfl rfl rfl rfl Pr rfl rfl fun w H=>nx<|sv E rfl rfl rfl (cC (i:=2) (us:=[(.slice q20 (x1.Watches.eraseIdx f.toNat).length g),d]) E H rfl rfl rfl rfl U73 rfl fE) fun a E=>?_
   obtain ⟨q22,s,rfl⟩:=H.slform c
   refine bA (i:=1) E H (wn rfl) rfl rfl rfl rfl rfl rfl fE rfl rfl fun w H=>pr 1 E rfl fun a E=>nt<|wp_ret<|uN E rfl (dD (i:=1) (us:=[(.slice q20 (x1.Watches.eraseIdx f.toNat).length g),(.slice q22 x1.Sessions.length s)]) H rfl rfl rfl U73 rfl fE) (rvT rfl)<|have H:=H.thaw (i:=0) rfl;have H:=H.drs [0,0];?_
   cases hm
   exact ⟨_,_,rfl,H.reads (aA m0 (aA (t1 c) (fun r hr=>(t1 hr))))⟩

def sV(c:List aK)(d:List aD)(e:Int)(f:(List aK))(g:(List aD)):Option (aH×(List aK)×(List aD)):=
  (nT c d (⟨f,g⟩:bK) ([]:List bL) e).bind fun b=>some (b.1,b.2.1,b.2.2)
def vN(c:List aK)(d:List aD)(x20:aU):Option (aH×(List aK)×(List aD)):=
  (G2 (⟨c,d⟩:bK) x20.Watch.Session x20.Watch.Num).bind fun b=>sV c d b.2 b.1.Watches b.1.Sessions
theorem R5{f:Nat}{c d B C D F g j k l m n o:Value}{p:List aK}{q:List aD}{x20:aU}(H:Sep w (Blk f 75 [g,j,k,l,c,d,m,n,o]::Fo) rs)(s:rSl bB c p ∈ rs)(t:rSl aO d q ∈ rs){r:aH×(List aK)×(List aD)}(hm:vN p q x20=some r) :
    Calls Tryz.prog 33 [pt f 0,.agg (aS x20 B C D F).toArray].toArray w (Ret fun v w'=>∃ P Q R S T U V K,.agg (bC r.1 P Q R S T U).toArray=v∧Sep w' (Blk f 75 [g,j,k,l,V,K,m,n,o]::Fo) (rSl bF P r.1.Results::rSl aE Q r.1.Store.Nodes::rSl aI R r.1.Store.Turns::rSl aX S r.1.Events::rSl bM T r.1.Mounts::rSl (kI .i64) U r.1.Wounded::rSl bB V r.2.1::rSl aO K r.2.2::rs)):=by
 unfold vN at hm
 refine ent Tryz.func33 rfl Tryz.ntmps33 rfl rfl fun a E=>sq<|bS E H (wn rfl) rfl rfl rfl rfl rfl fun e w a H E=>al E H rfl rfl rfl rfl gO fun L w a H E=>nt<|aV (fun a w=>∃ G x y I z A b,Env 25 a [(0,pt f 0),(4,pt L 0),(5,pt G 0),(6,.int .i64 I)]∧Sep w (Blk f 75 [g,j,k,l,c,d,m,n,o]::Blk L 48 bN::Blk G 73 [x,y]::Fo) b∧(∀ r,r ∈ rs→r ∈ b)∧rSl bB x z ∈ b∧rSl aO y A ∈ b∧sV p q I z A=some r) ?_ ?_
 ·refine bd hm fun b4 J hm=>?_
  have hI:eD [Blk e 37 (aS x20 B C D F),Blk f 75 [g,j,k,l,c,d,m,n,o]] [] { w with drawn:=w.drawn+1 }:=⟨_,_,H.kept (Kp.drawn _ w _),(aB mm1 (aB mm2 (aL))),(aM)⟩
  refine mA _ (.go 0 0 (.go 1 0 (.go 2 0 (.go 3 0 (.go 4 0 (.go 5 0 (.go 6 0 (.go 7 0 (.go 8 0 (.go 9 0 (.alt 10 (.go 11 0 (.go 12 0 (.go 13 0 (.go 14 1 (.go 15 1 (.go 16 2 .nil)))))) 14 (.go 10 1 (.go 11 0 (.go 12 0 (.go 13 0 (.go 15 1 (.go 16 2 .nil))))))))))))))))) [16] mH (by kernel_rfl) (fun _ _ _ h=>False.elim h.2) hI<|have H:=H.kept (Kp.drawn _ w (w.drawn+1));?_
  generalize ({ w with drawn:=w.drawn+1 }:World)=w at H hI ⊢
  replace hI:∃ W,eD [Blk e 37 (aS x20 B C D F),Blk f 75 [g,j,k,l,c,d,m,n,o]] [] W:=⟨_,hI⟩
  obtain ⟨W0,hI⟩:=hI
  refine aZ E rfl (wn rfl) rfl rfl (fun w hW=>(bE E rfl rfl)) fun a E=>aZ E rfl (wn rfl) rfl rfl (fun w hW=>(vX E rfl rfl)) fun a E=>aZ E rfl (wn rfl) rfl rfl (fun w hW=>lA E rfl rfl (v:=pt f 4) (La _ _)) fun a E=>aZ E rfl (wn rfl) rfl rfl (fun w hW=>fC E rfl rfl (y0 (us:=[c,d]) mm1 rfl U73 rfl fE w hW)) fun a E=>aZ E rfl (wn rfl) rfl rfl (fun w hW=>lA E rfl rfl (v:=pt e 12) (Bh _ _)) fun a E=>aZ E rfl (wn rfl) rfl rfl (fun w hW=>lA E rfl rfl (v:=pt e 12) (Fe _ _)) fun a E=>aZ E rfl (wn rfl) rfl rfl (fun w hW=>fC E rfl rfl (mB m0 rfl U2 rfl w hW)) fun a E=>aZ E rfl (wn rfl) rfl rfl (fun w hW=>lA E rfl rfl (v:=pt e 12) (Bh _ _)) fun a E=>aZ E rfl (wn rfl) rfl rfl (fun w hW=>lA E rfl rfl (v:=pt e 13) (Kz _ _)) fun a E=>?_
  refine aZ E rfl (wn rfl) rfl rfl (fun w hW=>fC E rfl rfl (mB m0 rfl U2 rfl w hW)) fun a E=>?_
  refine mU rfl rfl ?_ ?_
  ·refine cF E rfl rfl rfl rfl rfl CZ (V9 (x1:=(⟨p,q⟩:bK)) H s t J)<|?_
   rintro _ w ⟨b5,b6,rfl,H⟩ a E
   refine nt<|?_
   refine ⟨⟨_,_,H,(aB mm1 (aB mm2 (aL))),(aM)⟩,?_⟩
   refine aZ E rfl (wn rfl) rfl rfl (fun w hW=>(bE E rfl rfl)) fun a E=>aZ E rfl (wn rfl) rfl rfl (fun w hW=>(dF E rfl rfl rfl)) fun a E=>aZ E rfl (wn rfl) rfl rfl (fun w hW=>(dF E rfl rfl rfl)) fun a E=>cN rfl<|al E H rfl rfl rfl rfl S8 fun b7 w a H E=>nt<|?_
   refine ⟨⟨_,_,H,(aB mm2 (aB mm3 (aL))),(aM)⟩,?_⟩
   refine cN rfl<|bA (i:=0) E H (wn rfl) rfl rfl rfl rfl rfl rfl fE rfl (hY H m0 mm1) fun w H=>nt<|?_
   refine ⟨⟨_,_,H,(aB mm2 (aB mm3 (aL))),(aM)⟩,?_⟩
   refine cX rfl<|pr 1 E rfl fun a E=>nt<|eL<|?_
   clear hI
   exact aC<|have H:=H.drop 2;have H:=H.frs [0,1,2] rfl;X7 ⟨E.to rfl,H,(Y2 Y0),m0,mm1,hm⟩
  ·refine al E H rfl rfl rfl rfl S8 fun b8 w a H E=>nt<|?_
   refine ⟨⟨_,_,H,(aB mm2 (aB mm3 (aL))),(aM)⟩,?_⟩
   refine cN rfl<|cF E rfl rfl rfl rfl rfl CZ (V9 (x1:=(⟨p,q⟩:bK)) H s t J)<|?_
   rintro _ w ⟨b9,c0,rfl,H⟩ a E
   refine nt<|?_
   refine ⟨⟨_,_,H,(aB mm2 (aB mm3 (aL))),(aM)⟩,?_⟩
   refine aZ E rfl (wn rfl) rfl rfl (fun w hW=>(bE E rfl rfl)) fun a E=>aZ E rfl (wn rfl) rfl rfl (fun w hW=>(dF E rfl rfl rfl)) fun a E=>aZ E rfl (wn rfl) rfl rfl (fun w hW=>(dF E rfl rfl rfl)) fun a E=>cN rfl<|bA (i:=0) E H (wn rfl) rfl rfl rfl rfl rfl rfl fE rfl (hY H m0 mm1) fun w H=>nt<|?_
   refine ⟨⟨_,_,H,(aB mm2 (aB mm3 (aL))),(aM)⟩,?_⟩
   refine cX rfl<|pr 1 E rfl fun a E=>nt<|eL<|?_
   clear hI
   exact aC<|have H:=H.drop 2;have H:=H.frs [0,1,2] rfl;X7 ⟨E.to rfl,H,(Y2 Y0),m0,mm1,hm⟩
 ·clear E H hm
  rintro a w ⟨G,x,y,I,z,A,b,E,H,u,M,N,hm⟩
  unfold sV at hm
  refine sq<|pr 1 E rfl fun a E=>sv E rfl rfl rfl (cC (i:=2) (us:=[x,y]) E H rfl rfl rfl rfl U73 rfl fE) fun a E=>pr 1 E rfl fun a E=>have H:=H.nilSl aX;bd hm fun X O hm=>cF E rfl rfl rfl rfl rfl Vc (vL (x20:=(⟨z,A⟩:bK)) H (t1 (u _ s)) (t1 (u _ t)) (t1 M) (t1 N) m0 O)<|?_
  rintro _ w ⟨Y,Z,b0,b1,b2,b3,c1,c2,rfl,H⟩ a E
  refine bA (i:=1) E H (wn rfl) rfl rfl rfl rfl rfl rfl bV rfl (bD H m0 mm1 mm2 mm3 mm4 mm5) fun w H=>nt<|wp_ret<|dT E rfl (dD (i:=1) (us:=(bC X.1 Y Z b0 b1 b2 b3)) H rfl rfl rfl U48 rfl bV)<|have H:=H.drs [1,1];?_
  cases hm
  exact X8 ⟨rfl,H.reads (aA m0 (aA mm1 (aA mm2 (aA mm3 (aA mm4 (aA mm5 (aA mm6 (aA (t1 mm6) (fun r hr=>(t1 (t8 (u r hr))))))))))))⟩

def pB(b:aH×(List aK)×(List aD))(c:(List ((Int)×aH))):Option (aH×(List aK)×(List aD)×(List ((Int)×aH))):=
  some (b.1,b.2.1,b.2.2,c)
def lW(b:aH×(List aK)×(List aD))(c:List ((Int)×aH))(x20:aU)(e:Bool):Option (aH×(List aK)×(List aD)×(List ((Int)×aH))):=
  if e=true then ((mpt (kyI .i64) c x20.Id b.1).bind fun d=>pB b d) else (pB b c)
def pC(c:List ((Int)×aH))(x20:aU)(d:List aK)(e:List aD)(f:Bool):Option (aH×(List aK)×(List aD)×(List ((Int)×aH))):=
  if f=true then ((dZ 2).bind fun g=>some (g,d,e,c)) else ((vN d e x20).bind fun b=>if (x20.Id != 0)=true then (if (b.1.Err != 131)=true then (lW b c x20 (b.1.Err != 132)) else (lW b c x20 false)) else (lW b c x20 false))
def tJ(b:List ((Int)×aH))(x20:aU)(c:List aK)(d:List aD)(e:Bool)(f:Int)(g:Int)(i:Bool)(j:Int)(k:(List cP))(l:(List aF))(m:(List aJ))(n:(List bL))(o:(List oC))(p:(List Int)):Option (aH×(List aK)×(List aD)×(List ((Int)×aH))):=
  if e=true then (some ((⟨f,g,i,j,k,(⟨l,m⟩:aR),n,o,p⟩:aH),c,d,b)) else (if (x20.Id != 0)=true then (pC b x20 c d ((b.length:Int) == 512)) else (pC b x20 c d false))
def wL(d:List aK)(e:List aD)(c:List ((Int)×aH))(x20:aU):Option (aH×(List aK)×(List aD)×(List ((Int)×aH))):=
  (y4 (kyI .i64) c x20.Id qG).bind fun b=>tJ c x20 d e b.2 b.1.Err b.1.At b.1.Yes b.1.Epoch b.1.Results b.1.Store.Nodes b.1.Store.Turns b.1.Events b.1.Mounts b.1.Wounded
theorem T8{o f:Nat}{O P I J L M p q s t u x:Value}{c0:List aK}{c1:List aD}{y:List ((Int)×aH)}{x20:aU}(H:Sep w (Blk o 75 [p,q,s,t,O,P,.map (some f),u,x]::cG Tryz.prog 2 (kyI .i64) bJ true f y::Fo) rs)(b7:rSl bB O c0 ∈ rs)(b8:rSl aO P c1 ∈ rs){r:aH×(List aK)×(List aD)×(List ((Int)×aH))}(hm:wL c0 c1 y x20=some r) :
    Calls Tryz.prog 37 [pt o 0,.agg (aS x20 I J L M).toArray,.func (.func 33) #[] #[]].toArray w (Ret fun v w'=>∃ f9 g0 g1 g2 g3 g4 g5 f3,.agg (bC r.1 f9 g0 g1 g2 g3 g4).toArray=v∧Sep w' (Blk o 75 [p,q,s,t,g5,f3,.map (some f),u,x]::cG Tryz.prog 2 (kyI .i64) bJ true f r.2.2.2::Fo) (rSl bF f9 r.1.Results::rSl aE g0 r.1.Store.Nodes::rSl aI g1 r.1.Store.Turns::rSl aX g2 r.1.Events::rSl bM g3 r.1.Mounts::rSl (kI .i64) g4 r.1.Wounded::rSl bB g5 r.2.1::rSl aO f3 r.2.2.1::rs)):=by
 unfold wL at hm
 refine ent Tryz.func37 rfl Tryz.ntmps37 rfl rfl fun a E=>sq<|bS E H (wn rfl) rfl rfl rfl rfl rfl fun l w a H E=>al E H rfl rfl rfl rfl gO fun z w a H E=>nt<|wp_seq<|aV (fun a w=>∃ c9 X Y Z b0 b1 b2 d0 b3 b4 b5 b6 d1 d2 d3 d4 d5 d6 g,Env 59 a [(0,pt o 0),(2,.func (.func 33) #[] #[]),(4,pt l 0),(6,pt z 0),(7,pt c9 0),(8,.bool d0)]∧Sep w (Blk o 75 [p,q,s,t,O,P,.map (some f),u,x]::Blk l 37 (aS x20 I J L M)::Blk z 48 bN::Blk c9 48 [.int .i64 b3,.int .i64 b4,.bool b5,.int .i64 b6,X,Y,Z,b0,b1,b2]::cG Tryz.prog 2 (kyI .i64) bJ true f y::Fo) g∧(∀ r,r ∈ rs→r ∈ g)∧rSl bF X d1 ∈ g∧rSl aE Y d2 ∈ g∧rSl aI Z d3 ∈ g∧rSl aX b0 d4 ∈ g∧rSl bM b1 d5 ∈ g∧rSl (kI .i64) b2 d6 ∈ g∧tJ y x20 c0 c1 d0 b3 b4 b5 b6 d1 d2 d3 d4 d5 d6=some r) ?_ ?_
 ·refine bd hm fun i3 c2 hm=>?_
  have hI:eD [Blk l 37 (aS x20 I J L M),Blk o 75 [p,q,s,t,O,P,.map (some f),u,x]] [] { w with drawn:=w.drawn+1 }:=⟨_,_,H.kept (Kp.drawn _ w _),(aB mm1 (aB mm2 (aL))),(aM)⟩
  refine mA _ (.go 0 0 (.go 1 0 (.go 2 0 (.go 3 0 (.go 4 0 (.go 5 0 (.alt 6 (.go 7 0 (.go 8 0 (.go 9 0 (.go 10 1 (.go 11 1 (.go 12 2 .nil)))))) 10 (.go 6 1 (.go 7 0 (.go 8 0 (.go 9 0 (.go 11 1 (.go 12 2 .nil))))))))))))) [12] mH (by kernel_rfl) (fun _ _ _ h=>False.elim h.2) hI<|have H:=H.kept (Kp.drawn _ w (w.drawn+1));?_
  generalize ({ w with drawn:=w.drawn+1 }:World)=w at H hI ⊢
  replace hI:∃ W,eD [Blk l 37 (aS x20 I J L M),Blk o 75 [p,q,s,t,O,P,.map (some f),u,x]] [] W:=⟨_,hI⟩
  obtain ⟨W0,hI⟩:=hI
  refine aZ E rfl (wn rfl) rfl rfl (fun w hW=>(bE E rfl rfl)) fun a E=>aZ E rfl (wn rfl) rfl rfl (fun w hW=>(vX E rfl rfl)) fun a E=>aZ E rfl (wn rfl) rfl rfl (fun w hW=>lA E rfl rfl (v:=pt o 6) (Z6 _ _)) fun a E=>aZ E rfl (wn rfl) rfl rfl (fun w hW=>fC E rfl rfl (mB mm1 rfl U68 rfl w hW)) fun a E=>aZ E rfl (wn rfl) rfl rfl (fun w hW=>lA E rfl rfl (v:=pt l 1) (Z5 _ _)) fun a E=>aZ E rfl (wn rfl) rfl rfl (fun w hW=>fC E rfl rfl (mB m0 rfl U2 rfl w hW)) fun a E=>?_
  refine mU rfl rfl ?_ ?_
  ·refine oE (i:=3) (K:=(kyI .i64)) E H (wn rfl) rfl rfl rfl rfl rfl rfl (eS U2) U68 y8 J5 c2 fun i4 a H E=>?_
   obtain ⟨i5,i6,i7,i8,i9,j0,rfl,h⟩:=lD H;clear H;have H:=h
   refine nt<|?_
   refine ⟨⟨_,_,H,(aB mm1 (aB mm2 (aL))),(aM)⟩,?_⟩
   refine aZ E rfl (wn rfl) rfl rfl (fun w hW=>(bE E rfl rfl)) fun a E=>aZ E rfl (wn rfl) rfl rfl (fun w hW=>(dF E rfl rfl rfl)) fun a E=>aZ E rfl (wn rfl) rfl rfl (fun w hW=>(dF E rfl rfl rfl)) fun a E=>cN rfl<|al E H rfl rfl rfl rfl gO fun j1 w a H E=>nt<|?_
   refine ⟨⟨_,_,H,(aB mm2 (aB mm3 (aL))),(aM)⟩,?_⟩
   refine cN rfl<|bA (i:=0) E H (wn rfl) rfl rfl rfl rfl rfl rfl bV rfl (bD H mm5 mm4 mm3 mm2 mm1 m0) fun w H=>nt<|?_
   refine ⟨⟨_,_,H,(aB mm2 (aB mm3 (aL))),(aM)⟩,?_⟩
   refine cX rfl<|pr 1 E rfl fun a E=>nt<|eL<|?_
   clear hI
   exact aC<|have H:=H.frs [4,1,2,3,4] rfl;X19 ⟨E.to rfl,H,(Y7 Y0),mm5,mm4,mm3,mm2,mm1,m0,hm⟩
  ·refine al E H rfl rfl rfl rfl gO fun j2 w a H E=>nt<|?_
   refine ⟨⟨_,_,H,(aB mm2 (aB mm3 (aL))),(aM)⟩,?_⟩
   refine cN rfl<|oE (i:=4) (K:=(kyI .i64)) E H (wn rfl) rfl rfl rfl rfl rfl rfl (eS U2) U68 y8 J5 c2 fun j3 a H E=>?_
   obtain ⟨j4,j5,j6,j7,j8,j9,rfl,h⟩:=lD H;clear H;have H:=h
   refine nt<|?_
   refine ⟨⟨_,_,H,(aB mm2 (aB mm3 (aL))),(aM)⟩,?_⟩
   refine aZ E rfl (wn rfl) rfl rfl (fun w hW=>(bE E rfl rfl)) fun a E=>aZ E rfl (wn rfl) rfl rfl (fun w hW=>(dF E rfl rfl rfl)) fun a E=>aZ E rfl (wn rfl) rfl rfl (fun w hW=>(dF E rfl rfl rfl)) fun a E=>cN rfl<|bA (i:=0) E H (wn rfl) rfl rfl rfl rfl rfl rfl bV rfl (bD H mm5 mm4 mm3 mm2 mm1 m0) fun w H=>nt<|?_
   refine ⟨⟨_,_,H,(aB mm2 (aB mm3 (aL))),(aM)⟩,?_⟩
   refine cX rfl<|pr 1 E rfl fun a E=>nt<|eL<|?_
   clear hI
   exact aC<|have H:=H.frs [4,1,2,3,4] rfl;X19 ⟨E.to rfl,H,(Y7 Y0),mm5,mm4,mm3,mm2,mm1,m0,hm⟩
 ·clear E H hm
  rintro a w ⟨c9,X,Y,Z,b0,b1,b2,d0,b3,b4,b5,b6,d1,d2,d3,d4,d5,d6,g,E,H,N,d7,d8,d9,e0,e1,e2,hm⟩
  unfold tJ at hm
  refine sq<|pr 1 E rfl fun a E=>nt<|wif E hm rfl (fun hm=>?_) fun hm=>?_
  ·refine sq<|sv E rfl rfl rfl (cC (i:=3) (us:=[.int .i64 b3,.int .i64 b4,.bool b5,.int .i64 b6,X,Y,Z,b0,b1,b2]) E H rfl rfl rfl rfl U48 rfl bV) fun a E=>bA (i:=2) E H (wn rfl) rfl rfl rfl rfl rfl rfl bV rfl (bD H d7 d8 d9 e0 e1 e2) fun w H=>nt<|wp_ret<|aP<|dT E rfl (dD (i:=2) (us:=[.int .i64 b3,.int .i64 b4,.bool b5,.int .i64 b6,X,Y,Z,b0,b1,b2]) H rfl rfl rfl U48 rfl bV)<|have H:=H.drs [1,1,1];?_
   cases hm
   exact X8 ⟨rfl,H.reads (aA d7 (aA d8 (aA d9 (aA e0 (aA e1 (aA e2 (aA (N _ b7) (aA (N _ b8) (N)))))))))⟩
  ·refine wp_skip<|aC<|wp_seq<|aV (fun a w=>∃ e3 b9,Env 59 a [(0,pt o 0),(2,.func (.func 33) #[] #[]),(4,pt l 0),(6,pt z 0),(32,.bool e3)]∧Sep w (Blk o 75 [p,q,s,t,O,P,.map (some f),u,x]::Blk l 37 (aS x20 I J L M)::Blk z 48 bN::cG Tryz.prog 2 (kyI .i64) bJ true f y::Fo) b9∧(∀ r,r ∈ rs→r ∈ b9)∧pC y x20 c0 c1 e3=some r) ?_ ?_
   ·refine wp_region_lit<|pr 1 E rfl fun a E=>lb E H 1 rfl rfl rfl rfl rfl rfl rfl U2 rfl fun a E=>pr 2 E rfl fun a E=>cs hm (fun k hm=>?_) fun k hm=>?_
    ·exact pk 3 E (kc 25 rfl k) rfl fun a E=>aQ E (ws' (d:=25) E rfl rfl rfl rfl k) rfl rfl (cD (i:=0) E H rfl rfl rfl rfl U68 rfl) fun a E=>aQ E (ws' (d:=25) E rfl rfl rfl rfl k) rfl rfl (E4 (i:=4) E H rfl rfl rfl U68) fun a E=>pk 2 E (kc 25 rfl k) rfl fun a E=>nt<|have H:=H.drop 3;⟨_,_,E.to rfl,H,N,hm⟩
    ·exact pk 7 E (kc 25 rfl k) rfl fun a E=>nt<|have H:=H.drop 3;⟨_,_,E.to rfl,H,N,hm⟩
   ·clear E H hm
    rintro a w ⟨e3,b9,E,H,j,hm⟩
    unfold pC at hm
    refine wif E hm rfl (fun hm=>?_) fun hm=>?_
    ·refine sq<|bd hm fun g6 f4 hm=>cF E rfl rfl rfl rfl rfl xN (eI H f4)<|?_
     rintro _ w ⟨g7,g8,g9,i0,i1,i2,rfl,H⟩ a E
     refine bA (i:=2) E H (wn rfl) rfl rfl rfl rfl rfl rfl bV rfl (bD H m0 mm1 mm2 mm3 mm4 mm5) fun w H=>nt<|wp_ret<|aP<|dT E rfl (dD (i:=2) (us:=(bC g6 g7 g8 g9 i0 i1 i2)) H rfl rfl rfl U48 rfl bV)<|have H:=H.drs [1,1];?_
     cases hm
     exact X8 ⟨rfl,H.reads (aA m0 (aA mm1 (aA mm2 (aA mm3 (aA mm4 (aA mm5 (aA (t6 (j _ b7)) (aA (t6 (j _ b8)) (fun r hr=>(t6 (j r hr)))))))))))⟩
    ·refine wp_skip<|aC<|sq<|pr 2 E rfl fun a E=>sv E rfl rfl rfl (cC (i:=1) (us:=(aS x20 I J L M)) E H rfl rfl rfl rfl U37 rfl F3) fun a E=>bd hm fun b f5 hm=>aW E (wn rfl) rfl rfl (bR E rfl rfl rfl (LD _)) (R5 H (j _ b7) (j _ b8) f5)<|?_
     rintro _ w ⟨A,B,C,D,F,G,c3,c4,rfl,H⟩ a E
     refine al E H rfl rfl rfl rfl gO fun c5 w a H E=>bA (i:=0) E H (wn rfl) rfl rfl rfl rfl rfl rfl bV rfl (bD H m0 mm1 mm2 mm3 mm4 mm5) fun w H=>nt<|aV (fun a w=>∃ e4 e,Env 59 a [(6,pt z 0),(9,pt c5 0)]∧Sep w (Blk z 48 bN::Blk c5 48 (bC b.1 A B C D F G)::Blk o 75 [p,q,s,t,c3,c4,.map (some f),u,x]::cG Tryz.prog 2 (kyI .i64) bJ true f e4::Fo) e∧(∀ r,r ∈ rs→r ∈ e)∧rSl bF A b.1.Results ∈ e∧rSl aE B b.1.Store.Nodes ∈ e∧rSl aI C b.1.Store.Turns ∈ e∧rSl aX D b.1.Events ∈ e∧rSl bM F b.1.Mounts ∈ e∧rSl (kI .i64) G b.1.Wounded ∈ e∧rSl bB c3 b.2.1 ∈ e∧rSl aO c4 b.2.2 ∈ e∧pB b e4=some r) ?_ ?_
     ·refine aV (fun a w=>∃ e5 c,Env 59 a [(0,pt o 0),(4,pt l 0),(6,pt z 0),(9,pt c5 0),(50,.bool e5)]∧Sep w (Blk o 75 [p,q,s,t,c3,c4,.map (some f),u,x]::Blk l 37 (aS x20 I J L M)::Blk z 48 bN::Blk c5 48 (bC b.1 A B C D F G)::cG Tryz.prog 2 (kyI .i64) bJ true f y::Fo) c∧(∀ r,r ∈ rs→r ∈ c)∧rSl bB c3 b.2.1 ∈ c∧rSl aO c4 b.2.2 ∈ c∧rSl bF A b.1.Results ∈ c∧rSl aE B b.1.Store.Nodes ∈ c∧rSl aI C b.1.Store.Turns ∈ c∧rSl aX D b.1.Events ∈ c∧rSl bM F b.1.Mounts ∈ c∧rSl (kI .i64) G b.1.Wounded ∈ c∧lW b y x20 e5=some r) ?_ ?_
      ·refine wp_region_lit<|pr 1 E rfl fun a E=>lb E H 2 rfl rfl rfl rfl rfl rfl rfl U2 rfl fun a E=>pr 2 E rfl fun a E=>cs hm (fun m hm=>?_) fun m hm=>?_
       ·refine pk 1 E (kc 41 rfl m) rfl fun a E=>aQ E (ws' (d:=41) E rfl rfl rfl rfl m) rfl rfl (cD (i:=0) E H rfl rfl rfl rfl U41 rfl) fun a E=>pk 3 E (kc 41 rfl m) rfl fun a E=>cs hm (fun n hm=>?_) fun n hm=>?_
        ·exact pk 1 E (kc 46 rfl n) rfl fun a E=>aQ E (ws' (d:=46) E rfl rfl rfl rfl n) rfl rfl (cD (i:=0) E H rfl rfl rfl rfl U41 rfl) fun a E=>pk 2 E (kc 46 rfl n) rfl fun a E=>nt<|have H:=H.frs [4,1,4,4,4] rfl;⟨_,_,E.to rfl,H,(Y8 j),mm6,(t1 mm6),m0,mm1,mm2,mm3,mm4,mm5,hm⟩
        ·exact pk 4 E (kc 46 rfl n) rfl fun a E=>nt<|have H:=H.frs [4,1,4,4,4] rfl;⟨_,_,E.to rfl,H,(Y8 j),mm6,(t1 mm6),m0,mm1,mm2,mm3,mm4,mm5,hm⟩
       ·exact pk 9 E (kc 41 rfl m) rfl fun a E=>nt<|have H:=H.frs [4,1,4,4,4] rfl;⟨_,_,E.to rfl,H,(Y8 j),mm6,(t1 mm6),m0,mm1,mm2,mm3,mm4,mm5,hm⟩
      ·clear E H hm
       rintro a w ⟨e5,c,E,H,c6,c7,c8,Q,R,S,T,U,V,hm⟩
       unfold lW at hm
       refine wif E hm rfl (fun hm=>?_) fun hm=>?_
       ·refine dw [(0,0),(1,0),(2,0),(3,0),(4,0),(5,0),(6,0),(7,2)] [0,1,3] [] H (by kernel_rfl) (fun _ _ _ h=>False.elim h.2) fun w W0 hI H=>fn 3 E rfl fun a E=>fb E rfl (wn rfl) rfl rfl rfl rfl m0 rfl U68 rfl fun a E=>fn 1 E rfl fun a E=>fb E rfl (wn rfl) rfl rfl rfl rfl mm1 rfl U2 rfl fun a E=>fbn E (bC b.1 A B C D F G) rfl (wn rfl) rfl rfl rfl rfl mm2 rfl U48 rfl bV fun a E=>bO rfl<|bd hm fun k0 f2 hm=>B6 (i:=4) (K:=(kyI .i64)) (v:=b.1) (cs:=[.int .i64 b.1.Err,.int .i64 b.1.At,.bool b.1.Yes,.int .i64 b.1.Epoch,A,B,C,D,F,G]) E H (wn rfl) rfl rfl rfl rfl rfl rfl (eS U2) U68 f2 (fun ok hr=>(oF (hr _ Q) (hr _ R) (hr _ S) (hr _ T) (hr _ U) (hr _ V))) fun w H=>?_
        refine nt<|bP<|?_
        clear hI
        exact aC<|have H:=H.drop 1;have H:=H.frs [3,1,3,3] rfl;⟨_,_,E.to rfl,H,c6,Q,R,S,T,U,V,c7,c8,hm⟩
       ·exact wp_skip<|aC<|have H:=H.drop 1;have H:=H.frs [3,1,3,3] rfl;⟨_,_,E.to rfl,H,c6,Q,R,S,T,U,V,c7,c8,hm⟩
     ·clear E H hm
      rintro a w ⟨e4,e,E,H,f6,e6,e7,e8,e9,f0,f1,f7,f8,hm⟩
      unfold pB at hm
      refine sq<|sv E rfl rfl rfl (cC (i:=1) (us:=(bC b.1 A B C D F G)) E H rfl rfl rfl rfl U48 rfl bV) fun a E=>bA (i:=0) E H (wn rfl) rfl rfl rfl rfl rfl rfl bV rfl (bD H e6 e7 e8 e9 f0 f1) fun w H=>nt<|wp_ret<|dT E rfl (dD (i:=0) (us:=(bC b.1 A B C D F G)) H rfl rfl rfl U48 rfl bV)<|have H:=H.drs [0,0];?_
      cases hm
      exact X8 ⟨rfl,H.reads (aA e6 (aA e7 (aA e8 (aA e9 (aA f0 (aA f1 (aA f7 (aA f8 (f6)))))))))⟩

def C5(b:(List aD))(c:(List aK)):Option (bK×Int):=
  some ((⟨c,b⟩:bK),0)
def zW(x1:bK)(b:aK)(c:(List aD)):Option (bK×Int):=
  (ck (x1.Watches.length ≤ LIM)).bind fun d=>(ck (x1.Watches.length+([b]:List aK).length ≤ LIM)).bind fun e=>C5 c (x1.Watches ++ ([b]:List aK))
def zX(x1:bK)(c:aK)(d:Bool):Option (bK×Int):=
  if d=true then (some ((⟨[],[]⟩:bK),1)) else ((A4 x1 c.Session c.Num).bind fun e=>if (decide (e ≥ 0))=true then (some (x1,61)) else (if ((x1.Watches.length:Int) == 64)=true then (some (x1,2)) else ((eH x1.Sessions c.Session).bind fun b=>if (!b.2)=true then ((ck (x1.Sessions.length ≤ LIM)).bind fun f=>(ck (0 ≤ b.1∧b.1 ≤ x1.Sessions.length∧x1.Sessions.length ≤ 1000000)).bind fun g=>zW x1 c (x1.Sessions.take b.1.toNat ++ (⟨c.Session,0,[]⟩:aD)::x1.Sessions.drop b.1.toNat)) else (zW x1 c x1.Sessions))))
def O8(x1:bK)(c:aK):Option (bK×Int):=
  (rI x1).bind fun b=>if (!b)=true then (zX x1 c (!b)) else ((s2 c).bind fun d=>zX x1 c (!d))
theorem Cr{x1:bK}{f m:Value}{b:aK}(H:Sep w (Fo) rs)(g:rSl bB f x1.Watches ∈ rs)(j:rSl aO m x1.Sessions ∈ rs){r:bK×Int}(hm:O8 x1 b=some r) :
    Calls Tryz.prog 88 [.agg #[f,m],.agg (dX b).toArray].toArray w (Ret fun v w'=>∃ O P,.tuple #[.agg #[O,P],.int .i64 r.2]=v∧Sep w' (Fo) (rSl bB O r.1.Watches::rSl aO P r.1.Sessions::rs)):=by
 unfold O8 at hm
 refine ent Tryz.func88 rfl Tryz.ntmps88 rfl rfl fun a E=>sq<|bS E H (wn rfl) rfl rfl rfl rfl rfl fun l w a H E=>bS E H (wn rfl) rfl rfl rfl rfl rfl fun o w a H E=>al E H rfl rfl rfl rfl S8 fun z w a H E=>pr 1 E rfl fun a E=>nt<|wp_seq<|wp_block<|aV (fun a w=>∃ A t,Env 59 a [(2,pt l 0),(3,pt o 0),(4,pt z 0),(8,.bool A)]∧Sep w (Blk l 73 [f,m]::Blk o 35 (dX b)::Blk z 73 [.slice none 0 0,.slice none 0 0]::Fo) t∧(∀ r,r ∈ rs→r ∈ t)∧zX x1 b A=some r) ?_ ?_
 ·refine sq<|sv E rfl rfl rfl (cC (i:=2) (us:=[f,m]) E H rfl rfl rfl rfl U73 rfl fE) fun a E=>bd hm fun S J hm=>xk E rfl rfl rfl rfl rfl Jd (s3 H g j J) fun w H a E=>pr 2 E rfl fun a E=>nt<|wif E hm rfl (fun hm=>?_) fun hm=>?_
  ·exact wp_skip<|aC<|have H:=H.frs [0,1,2] rfl;⟨_,_,E.to rfl,H,Y0,hm⟩
  ·exact wp_region_lit<|sv E rfl rfl rfl (cC (i:=1) (us:=(dX b)) E H rfl rfl rfl rfl U35 rfl sO) fun a E=>bd hm fun T K hm=>xk E rfl rfl rfl rfl rfl Xb (V8 H K) fun w H a E=>pr 2 E rfl fun a E=>nt<|have H:=H.frs [0,1,2] rfl;⟨_,_,E.to rfl,H,Y0,hm⟩
 ·clear E H hm
  rintro a w ⟨A,t,E,H,c,hm⟩
  unfold zX at hm
  refine wif E hm rfl (fun hm=>?_) fun hm=>?_
  ·refine sq<|sv E rfl rfl rfl (cL E rfl (E.evs rfl) (v:=.agg #[.slice none 0 0,.slice none 0 0]) (by kernel_rfl)) fun a E=>bA (i:=2) E H (wn rfl) rfl rfl rfl rfl rfl rfl fE rfl rfl fun w H=>pr 1 E rfl fun a E=>nt<|wp_ret<|bW<|aP<|uN E rfl (dD (i:=2) (us:=[.slice none 0 0,.slice none 0 0]) H rfl rfl rfl U73 rfl fE) (rvT rfl)<|?_
   refine have H:=H.nilSl bB;have H:=H.nilSl aO;have H:=H.drs [0,0,0];?_
   cases hm
   exact ⟨_,_,rfl,H.reads (aA mm1 (aA m0 (fun r hr=>(t2 (c r hr)))))⟩
  ·refine sq<|sv E rfl rfl rfl (cC (i:=0) (us:=[f,m]) E H rfl rfl rfl rfl U73 rfl fE) fun a E=>pr 1 E rfl fun a E=>lb E H 1 rfl rfl rfl rfl rfl rfl rfl U2 rfl fun a E=>pr 1 E rfl fun a E=>lb E H 1 rfl rfl rfl rfl rfl rfl rfl U2 rfl fun a E=>bd hm fun X L hm=>xk E rfl rfl rfl rfl rfl Xe (Ak H (c _ g) L) fun w H a E=>pr 2 E rfl fun a E=>?_
   refine nt<|wif E hm rfl (fun hm=>?_) fun hm=>?_
   ·refine sq<|sv E rfl rfl rfl (cC (i:=0) (us:=[f,m]) E H rfl rfl rfl rfl U73 rfl fE) fun a E=>bA (i:=2) E H (wn rfl) rfl rfl rfl rfl rfl rfl fE rfl (hY H (c _ g) (c _ j)) fun w H=>pr 1 E rfl fun a E=>nt<|wp_ret<|bW<|aP<|uN E rfl (dD (i:=2) (us:=[f,m]) H rfl rfl rfl U73 rfl fE) (rvT rfl)<|?_
    refine have H:=H.drs [0,0,0];?_
    cases hm
    exact ⟨_,_,rfl,H.reads (aA (c _ g) (aA (c _ j) (c)))⟩
   ·refine sq<|pr 1 E rfl fun a E=>lb E H 0 rfl rfl rfl rfl rfl rfl rfl U70 rfl fun a E=>sv E rfl rfl rfl (cV E H rfl rfl (c _ g) U70) fun a E=>pr 2 E rfl fun a E=>nt<|wif E hm rfl (fun hm=>?_) fun hm=>?_
    ·refine sq<|sv E rfl rfl rfl (cC (i:=0) (us:=[f,m]) E H rfl rfl rfl rfl U73 rfl fE) fun a E=>bA (i:=2) E H (wn rfl) rfl rfl rfl rfl rfl rfl fE rfl (hY H (c _ g) (c _ j)) fun w H=>pr 1 E rfl fun a E=>nt<|wp_ret<|bW<|aP<|uN E rfl (dD (i:=2) (us:=[f,m]) H rfl rfl rfl U73 rfl fE) (rvT rfl)<|?_
     refine have H:=H.drs [0,0,0];?_
     cases hm
     exact ⟨_,_,rfl,H.reads (aA (c _ g) (aA (c _ j) (c)))⟩
    ·refine wp_skip<|bZ<|aC<|aV (fun a w=>∃ k n p,Env 59 a [(2,pt l 0),(3,pt o 0),(4,pt z 0)]∧Sep w (Blk l 73 [f,k]::Blk o 35 (dX b)::Blk z 73 [.slice none 0 0,.slice none 0 0]::Fo) p∧(∀ r,r ∈ rs→r ∈ p)∧rSl aO k n ∈ p∧zW x1 b n=some r) ?_ ?_
     ·refine sq<|pr 1 E rfl fun a E=>lb E H 0 rfl rfl rfl rfl rfl rfl rfl U71 rfl fun a E=>pr 1 E rfl fun a E=>lb E H 1 rfl rfl rfl rfl rfl rfl rfl U2 rfl fun a E=>bd hm fun Y M hm=>xk E rfl rfl rfl rfl rfl Po (iY H (c _ j) M) fun w H a E=>pr 5 E rfl fun a E=>nx<|?_
      refine pr 2 E rfl fun a E=>nt<|wif E hm rfl (fun hm=>?_) fun hm=>?_
      ·refine bk hm fun B hm=>bk hm fun C hm=>?_
       have hI:eD [Blk l 73 [f,m],Blk o 35 (dX b)] [] { w with drawn:=w.drawn+1 }:=⟨_,_,H.kept (Kp.drawn _ w _),(aB m0 (aB mm1 (aL))),(aM)⟩
       refine mA _ (.go 0 0 (.go 1 0 (.go 3 0 (.go 4 0 (.go 5 0 (.go 6 0 (.alt 2 (.go 7 1 (.go 8 1 (.go 9 2 (.go 10 2 .nil)))) 7 (.go 2 1 (.go 8 1 (.go 9 2 (.go 10 2 .nil))))))))))) [9,10] mH (by kernel_rfl) (fun _ _ _ h=>False.elim h.2) hI<|have H:=H.kept (Kp.drawn _ w (w.drawn+1));?_
       generalize ({ w with drawn:=w.drawn+1 }:World)=w at H hI ⊢
       replace hI:∃ W,eD [Blk l 73 [f,m],Blk o 35 (dX b)] [] W:=⟨_,hI⟩
       obtain ⟨W0,hI⟩:=hI
       refine aZ E rfl (wn rfl) rfl rfl (fun w hW=>lA E rfl rfl (v:=pt l 1) (Sa _ _)) fun a E=>aZ E rfl (wn rfl) rfl rfl (fun w hW=>fC E rfl rfl (mB m0 rfl U71 rfl w hW)) fun a E=>aZ E rfl (wn rfl) rfl rfl (fun w hW=>(bE E rfl rfl)) fun a E=>aZ E rfl (wn rfl) rfl rfl (fun w hW=>lA E rfl rfl (v:=pt o 0) (Fe _ _)) fun a E=>aZ E rfl (wn rfl) rfl rfl (fun w hW=>fC E rfl rfl (mB mm1 rfl U2 rfl w hW)) fun a E=>aZ E rfl (wn rfl) rfl rfl (fun w hW=>(cL E rfl (E.evs rfl) (v:=.agg #[.int .i64 b.Session,.int .i64 0,.slice none 0 0]) (by kernel_rfl))) fun a E=>?_
       refine mU rfl rfl ?_ ?_
       ·refine aW E (wn rfl) rfl rfl (cB E rfl rfl (Jg _)) (fH H (c _ j) B) fun Z w H a E=>nt<|?_
        refine ⟨⟨_,_,H,(aB mm1 (aB mm2 (aL))),(aM)⟩,?_⟩
        refine cN rfl<|hJ (e:=215) (d:=aO) (cs:=[.int .i64 b.Session,.int .i64 0,.slice none 0 0]) (xs:=[(⟨b.Session,0,[]⟩:aD)]) E H (wn rfl) rfl rfl rfl (E.evs rfl) (by kernel_rfl) rfl rfl (fun ok hr=>(Rows.single (d:=aO) (cs:=[.int .i64 b.Session,.int .i64 0,.slice none 0 0]) (x:=(⟨b.Session,0,[]⟩:aD)) (lC (Sl.nil _ _ _)))) fun b0 w a H E=>nt<|?_
        refine ⟨⟨_,_,H,(aB mm2 (aB mm3 (aL))),(aM)⟩,?_⟩
        refine cN rfl<|aW E (wn rfl) rfl rfl (cB E rfl rfl (Ps _)) (Se.insert_a (ix:=1) (iu:=0) H rfl rfl (by decide) C) fun b1 w H a E=>nt<|?_
        refine ⟨⟨_,_,H,(aB mm2 (aB mm3 (aL))),(aM)⟩,?_⟩
        refine cX rfl<|pr 1 E rfl fun a E=>nt<|cX rfl<|?_
        obtain ⟨q92,b2,rfl⟩:=H.rowform (i:=1) rfl
        refine bA (i:=2) E H (wn rfl) rfl rfl rfl rfl rfl rfl Lc rfl rfl fun w H=>nt<|eL<|?_
        clear hI
        exact aC<|have H:=H.thaw (i:=1) rfl;have H:=H.drop 0;X3 ⟨E.to rfl,H,(Y1 c),m0,hm⟩
       ·refine hJ (e:=215) (d:=aO) (cs:=[.int .i64 b.Session,.int .i64 0,.slice none 0 0]) (xs:=[(⟨b.Session,0,[]⟩:aD)]) E H (wn rfl) rfl rfl rfl (E.evs rfl) (by kernel_rfl) rfl rfl (fun ok hr=>(Rows.single (d:=aO) (cs:=[.int .i64 b.Session,.int .i64 0,.slice none 0 0]) (x:=(⟨b.Session,0,[]⟩:aD)) (lC (Sl.nil _ _ _)))) fun b3 w a H E=>nt<|?_
        refine ⟨⟨_,_,H,(aB mm1 (aB mm2 (aL))),(aM)⟩,?_⟩
        refine cN rfl<|aW E (wn rfl) rfl rfl (cB E rfl rfl (Jg _)) (fH H (c _ j) B) fun b4 w H a E=>nt<|?_
        refine ⟨⟨_,_,H,(aB mm2 (aB mm3 (aL))),(aM)⟩,?_⟩
        refine cN rfl<|aW E (wn rfl) rfl rfl (cB E rfl rfl (Ps _)) (Se.insert_a (ix:=0) (iu:=1) H rfl rfl (by decide) C) fun U w H a E=>nt<|?_
        refine ⟨⟨_,_,H,(aB mm2 (aB mm3 (aL))),(aM)⟩,?_⟩
        refine cX rfl<|pr 1 E rfl fun a E=>nt<|cX rfl<|?_
        obtain ⟨q101,V,rfl⟩:=H.rowform (i:=0) rfl
        refine bA (i:=2) E H (wn rfl) rfl rfl rfl rfl rfl rfl Lc rfl rfl fun w H=>nt<|eL<|?_
        clear hI
        exact aC<|have H:=H.thaw (i:=0) rfl;have H:=H.drop 0;X3 ⟨E.to rfl,H,(Y1 c),m0,hm⟩
      ·exact wp_skip<|aC<|X3 ⟨E.to rfl,H,c,(c _ j),hm⟩
     ·clear E H hm
      rintro a w ⟨k,n,p,E,H,q,D,hm⟩
      unfold zW at hm
      refine aV (fun a w=>∃ u y s,Env 59 a [(2,pt l 0),(4,pt z 0)]∧Sep w (Blk l 73 [u,k]::Blk z 73 [.slice none 0 0,.slice none 0 0]::Row 35 bB u y::Fo) s∧(∀ r,r ∈ rs→r ∈ s)∧rSl aO k n ∈ s∧C5 n y=some r) ?_ ?_
      ·refine bk hm fun F hm=>bk hm fun G hm=>?_
       have hI:eD [Blk l 73 [f,k],Blk o 35 (dX b)] [] { w with drawn:=w.drawn+1 }:=⟨_,_,H.kept (Kp.drawn _ w _),(aB m0 (aB mm1 (aL))),(aM)⟩
       refine mA _ (.go 0 0 (.go 1 0 (.go 3 0 (.alt 2 (.go 4 1 (.go 5 1 (.go 6 2 (.go 7 2 .nil)))) 4 (.go 2 1 (.go 5 1 (.go 6 2 (.go 7 2 .nil)))))))) [6,7] mH (by kernel_rfl) (fun _ _ _ h=>False.elim h.2) hI<|have H:=H.kept (Kp.drawn _ w (w.drawn+1));?_
       generalize ({ w with drawn:=w.drawn+1 }:World)=w at H hI ⊢
       replace hI:∃ W,eD [Blk l 73 [f,k],Blk o 35 (dX b)] [] W:=⟨_,hI⟩
       obtain ⟨W0,hI⟩:=hI
       refine aZ E rfl (wn rfl) rfl rfl (fun w hW=>lA E rfl rfl (v:=pt l 0) (Rz _ _)) fun a E=>aZ E rfl (wn rfl) rfl rfl (fun w hW=>fC E rfl rfl (mB m0 rfl U70 rfl w hW)) fun a E=>aZ E rfl (wn rfl) rfl rfl (fun w hW=>fC E rfl rfl (y0 (us:=(dX b)) mm1 rfl U35 rfl sO w hW)) fun a E=>?_
       refine mU rfl rfl ?_ ?_
       ·refine aW E (wn rfl) rfl rfl (cB E rfl rfl (Jh _)) (gD H (q _ g) F) fun b5 w H a E=>nt<|?_
        refine ⟨⟨_,_,H,(aB mm1 (aB mm2 (aL))),(aM)⟩,?_⟩
        refine cN rfl<|sM (e:=35) (d:=bB) (cs:=[.int .i64 b.Session,.int .i64 b.Num,.string b.Path,.bool b.Deep]) (xs:=[b]) E H (wn rfl) rfl rfl rfl (E.evs rfl) (by kernel_rfl) rfl (fun ok hr=>(Rows.single (d:=bB) (cs:=[.int .i64 b.Session,.int .i64 b.Num,.string b.Path,.bool b.Deep]) (x:=b) B7)) fun b6 w a H E=>nt<|?_
        refine ⟨⟨_,_,H,(aB mm1 (aB mm2 (aL))),(aM)⟩,?_⟩
        refine cN rfl<|eK (i:=0) E H (wn rfl) rfl rfl rfl rfl rfl rfl (lB m0) U70 Pq rfl G rfl fun b7 w a H E=>nt<|?_
        refine ⟨⟨_,_,H,(aB mm1 (aB mm2 (aL))),(aM)⟩,?_⟩
        refine cX rfl<|pr 1 E rfl fun a E=>nt<|cX rfl<|?_
        obtain ⟨q54,b8,rfl⟩:=H.rowform (i:=0) rfl
        refine bA (i:=1) E H (wn rfl) rfl rfl rfl rfl rfl rfl Pr rfl rfl fun w H=>nt<|eL<|?_
        clear hI
        exact aC<|have H:=H.drop 2;have H:=H.frs [0,2,2] rfl;X3 ⟨E.to rfl,H,(Y1 q),(t1 D),hm⟩
       ·refine sM (e:=35) (d:=bB) (cs:=[.int .i64 b.Session,.int .i64 b.Num,.string b.Path,.bool b.Deep]) (xs:=[b]) E H (wn rfl) rfl rfl rfl (E.evs rfl) (by kernel_rfl) rfl (fun ok hr=>(Rows.single (d:=bB) (cs:=[.int .i64 b.Session,.int .i64 b.Num,.string b.Path,.bool b.Deep]) (x:=b) B7)) fun b9 w a H E=>nt<|?_
        refine ⟨⟨_,_,H,(aB m0 (aB mm1 (aL))),(aM)⟩,?_⟩
        refine cN rfl<|aW E (wn rfl) rfl rfl (cB E rfl rfl (Jh _)) (gD H (t1 (q _ g)) F) fun c0 w H a E=>nt<|?_
        refine ⟨⟨_,_,H,(aB mm1 (aB mm2 (aL))),(aM)⟩,?_⟩
        refine cN rfl<|eK (i:=0) E H (wn rfl) rfl rfl rfl rfl rfl rfl (lB m0) U70 Pq rfl G rfl fun c1 w a H E=>nt<|?_
        refine ⟨⟨_,_,H,(aB mm1 (aB mm2 (aL))),(aM)⟩,?_⟩
        refine cX rfl<|pr 1 E rfl fun a E=>nt<|cX rfl<|?_
        obtain ⟨q63,c2,rfl⟩:=H.rowform (i:=0) rfl
        refine bA (i:=1) E H (wn rfl) rfl rfl rfl rfl rfl rfl Pr rfl rfl fun w H=>nt<|eL<|?_
        clear hI
        exact aC<|have H:=H.drop 2;have H:=H.frs [0,2,2] rfl;X3 ⟨E.to rfl,H,(Y1 q),(t1 D),hm⟩
      ·clear E H hm
       rintro a w ⟨u,y,s,E,H,N,I,hm⟩
       unfold C5 at hm
       refine sq<|sv E rfl rfl rfl (cC (i:=0) (us:=[u,k]) E H rfl rfl rfl rfl U73 rfl fE) fun a E=>?_
       obtain ⟨q25,Q,rfl⟩:=H.rowform (i:=2) rfl
       obtain ⟨q27,R,rfl⟩:=H.slform I
       refine bA (i:=1) E H (wn rfl) rfl rfl rfl rfl rfl rfl fE rfl rfl fun w H=>pr 1 E rfl fun a E=>nt<|wp_ret<|uN E rfl (dD (i:=1) (us:=[(.slice q25 y.length Q),(.slice q27 n.length R)]) H rfl rfl rfl U73 rfl fE) (rvT rfl)<|have H:=H.thaw (i:=2) rfl;have H:=H.drs [0,0];?_
       cases hm
       exact ⟨_,_,rfl,H.reads (aA m0 (aA (t1 I) (fun r hr=>(t1 (N r hr)))))⟩

def uM(c:List aK)(d:List aD)(e:Int)(f:(List aK))(g:(List aD)):Option (aH×(List aK)×(List aD)):=
  (nT c d (⟨f,g⟩:bK) ([]:List bL) e).bind fun b=>some (b.1,b.2.1,b.2.2)
def yB(c:List aK)(d:List aD)(x20:aU):Option (aH×(List aK)×(List aD)):=
  (O8 (⟨c,d⟩:bK) x20.Watch).bind fun b=>uM c d b.2 b.1.Watches b.1.Sessions
theorem W7{e:Nat}{c d A B C D f g j k l m n:Value}{o:List aK}{p:List aD}{x20:aU}(H:Sep w (Blk e 75 [f,g,j,k,c,d,l,m,n]::Fo) rs)(q:rSl bB c o ∈ rs)(s:rSl aO d p ∈ rs){r:aH×(List aK)×(List aD)}(hm:yB o p x20=some r) :
    Calls Tryz.prog 32 [pt e 0,.agg (aS x20 A B C D).toArray].toArray w (Ret fun v w'=>∃ P Q R S T U V K,.agg (bC r.1 P Q R S T U).toArray=v∧Sep w' (Blk e 75 [f,g,j,k,V,K,l,m,n]::Fo) (rSl bF P r.1.Results::rSl aE Q r.1.Store.Nodes::rSl aI R r.1.Store.Turns::rSl aX S r.1.Events::rSl bM T r.1.Mounts::rSl (kI .i64) U r.1.Wounded::rSl bB V r.2.1::rSl aO K r.2.2::rs)):=by
 unfold yB at hm
 refine ent Tryz.func32 rfl Tryz.ntmps32 rfl rfl fun a E=>sq<|bS E H (wn rfl) rfl rfl rfl rfl rfl fun F w a H E=>al E H rfl rfl rfl rfl gO fun L w a H E=>nt<|aV (fun a w=>∃ G u x I y z b,Env 21 a [(0,pt e 0),(4,pt L 0),(5,pt G 0),(6,.int .i64 I)]∧Sep w (Blk e 75 [f,g,j,k,c,d,l,m,n]::Blk L 48 bN::Blk G 73 [u,x]::Fo) b∧(∀ r,r ∈ rs→r ∈ b)∧rSl bB u y ∈ b∧rSl aO x z ∈ b∧uM o p I y z=some r) ?_ ?_
 ·refine bd hm fun b4 J hm=>?_
  have hI:eD [Blk F 37 (aS x20 A B C D),Blk e 75 [f,g,j,k,c,d,l,m,n]] [] { w with drawn:=w.drawn+1 }:=⟨_,_,H.kept (Kp.drawn _ w _),(aB mm1 (aB mm2 (aL))),(aM)⟩
  refine mA _ (.go 0 0 (.go 1 0 (.go 2 0 (.go 3 0 (.go 4 0 (.go 5 0 (.alt 6 (.go 7 0 (.go 8 0 (.go 9 0 (.go 10 1 (.go 11 1 (.go 12 2 .nil)))))) 10 (.go 6 1 (.go 7 0 (.go 8 0 (.go 9 0 (.go 11 1 (.go 12 2 .nil))))))))))))) [12] mH (by kernel_rfl) (fun _ _ _ h=>False.elim h.2) hI<|have H:=H.kept (Kp.drawn _ w (w.drawn+1));?_
  generalize ({ w with drawn:=w.drawn+1 }:World)=w at H hI ⊢
  replace hI:∃ W,eD [Blk F 37 (aS x20 A B C D),Blk e 75 [f,g,j,k,c,d,l,m,n]] [] W:=⟨_,hI⟩
  obtain ⟨W0,hI⟩:=hI
  refine aZ E rfl (wn rfl) rfl rfl (fun w hW=>(bE E rfl rfl)) fun a E=>aZ E rfl (wn rfl) rfl rfl (fun w hW=>(vX E rfl rfl)) fun a E=>aZ E rfl (wn rfl) rfl rfl (fun w hW=>lA E rfl rfl (v:=pt e 4) (La _ _)) fun a E=>aZ E rfl (wn rfl) rfl rfl (fun w hW=>fC E rfl rfl (y0 (us:=[c,d]) mm1 rfl U73 rfl fE w hW)) fun a E=>aZ E rfl (wn rfl) rfl rfl (fun w hW=>lA E rfl rfl (v:=pt F 12) (Bh _ _)) fun a E=>aZ E rfl (wn rfl) rfl rfl (fun w hW=>fC E rfl rfl (y0 (us:=(dX x20.Watch)) m0 rfl U35 rfl sO w hW)) fun a E=>?_
  refine mU rfl rfl ?_ ?_
  ·refine cF E rfl rfl rfl rfl rfl DA (Cr (x1:=(⟨o,p⟩:bK)) H q s J)<|?_
   rintro _ w ⟨b5,b6,rfl,H⟩ a E
   refine nt<|?_
   refine ⟨⟨_,_,H,(aB mm1 (aB mm2 (aL))),(aM)⟩,?_⟩
   refine aZ E rfl (wn rfl) rfl rfl (fun w hW=>(bE E rfl rfl)) fun a E=>aZ E rfl (wn rfl) rfl rfl (fun w hW=>(dF E rfl rfl rfl)) fun a E=>aZ E rfl (wn rfl) rfl rfl (fun w hW=>(dF E rfl rfl rfl)) fun a E=>cN rfl<|al E H rfl rfl rfl rfl S8 fun b7 w a H E=>nt<|?_
   refine ⟨⟨_,_,H,(aB mm2 (aB mm3 (aL))),(aM)⟩,?_⟩
   refine cN rfl<|bA (i:=0) E H (wn rfl) rfl rfl rfl rfl rfl rfl fE rfl (hY H m0 mm1) fun w H=>nt<|?_
   refine ⟨⟨_,_,H,(aB mm2 (aB mm3 (aL))),(aM)⟩,?_⟩
   refine cX rfl<|pr 1 E rfl fun a E=>nt<|eL<|?_
   clear hI
   exact aC<|have H:=H.drop 2;have H:=H.frs [0,1,2] rfl;X7 ⟨E.to rfl,H,(Y2 Y0),m0,mm1,hm⟩
  ·refine al E H rfl rfl rfl rfl S8 fun b8 w a H E=>nt<|?_
   refine ⟨⟨_,_,H,(aB mm2 (aB mm3 (aL))),(aM)⟩,?_⟩
   refine cN rfl<|cF E rfl rfl rfl rfl rfl DA (Cr (x1:=(⟨o,p⟩:bK)) H q s J)<|?_
   rintro _ w ⟨b9,c0,rfl,H⟩ a E
   refine nt<|?_
   refine ⟨⟨_,_,H,(aB mm2 (aB mm3 (aL))),(aM)⟩,?_⟩
   refine aZ E rfl (wn rfl) rfl rfl (fun w hW=>(bE E rfl rfl)) fun a E=>aZ E rfl (wn rfl) rfl rfl (fun w hW=>(dF E rfl rfl rfl)) fun a E=>aZ E rfl (wn rfl) rfl rfl (fun w hW=>(dF E rfl rfl rfl)) fun a E=>cN rfl<|bA (i:=0) E H (wn rfl) rfl rfl rfl rfl rfl rfl fE rfl (hY H m0 mm1) fun w H=>nt<|?_
   refine ⟨⟨_,_,H,(aB mm2 (aB mm3 (aL))),(aM)⟩,?_⟩
   refine cX rfl<|pr 1 E rfl fun a E=>nt<|eL<|?_
   clear hI
   exact aC<|have H:=H.drop 2;have H:=H.frs [0,1,2] rfl;X7 ⟨E.to rfl,H,(Y2 Y0),m0,mm1,hm⟩
 ·clear E H hm
  rintro a w ⟨G,u,x,I,y,z,b,E,H,t,M,N,hm⟩
  unfold uM at hm
  refine sq<|pr 1 E rfl fun a E=>sv E rfl rfl rfl (cC (i:=2) (us:=[u,x]) E H rfl rfl rfl rfl U73 rfl fE) fun a E=>pr 1 E rfl fun a E=>have H:=H.nilSl aX;bd hm fun X O hm=>cF E rfl rfl rfl rfl rfl Vc (vL (x20:=(⟨y,z⟩:bK)) H (t1 (t _ q)) (t1 (t _ s)) (t1 M) (t1 N) m0 O)<|?_
  rintro _ w ⟨Y,Z,b0,b1,b2,b3,c1,c2,rfl,H⟩ a E
  refine bA (i:=1) E H (wn rfl) rfl rfl rfl rfl rfl rfl bV rfl (bD H m0 mm1 mm2 mm3 mm4 mm5) fun w H=>nt<|wp_ret<|dT E rfl (dD (i:=1) (us:=(bC X.1 Y Z b0 b1 b2 b3)) H rfl rfl rfl U48 rfl bV)<|have H:=H.drs [1,1];?_
  cases hm
  exact X8 ⟨rfl,H.reads (aA m0 (aA mm1 (aA mm2 (aA mm3 (aA mm4 (aA mm5 (aA mm6 (aA (t1 mm6) (fun r hr=>(t1 (t8 (t r hr))))))))))))⟩

def pD(b:aH×(List aK)×(List aD))(c:(List ((Int)×aH))):Option (aH×(List aK)×(List aD)×(List ((Int)×aH))):=
  some (b.1,b.2.1,b.2.2,c)
def lX(b:aH×(List aK)×(List aD))(c:List ((Int)×aH))(x20:aU)(e:Bool):Option (aH×(List aK)×(List aD)×(List ((Int)×aH))):=
  if e=true then ((mpt (kyI .i64) c x20.Id b.1).bind fun d=>pD b d) else (pD b c)
def pE(c:List ((Int)×aH))(x20:aU)(d:List aK)(e:List aD)(f:Bool):Option (aH×(List aK)×(List aD)×(List ((Int)×aH))):=
  if f=true then ((dZ 2).bind fun g=>some (g,d,e,c)) else ((yB d e x20).bind fun b=>if (x20.Id != 0)=true then (if (b.1.Err != 131)=true then (lX b c x20 (b.1.Err != 132)) else (lX b c x20 false)) else (lX b c x20 false))
def tK(b:List ((Int)×aH))(x20:aU)(c:List aK)(d:List aD)(e:Bool)(f:Int)(g:Int)(i:Bool)(j:Int)(k:(List cP))(l:(List aF))(m:(List aJ))(n:(List bL))(o:(List oC))(p:(List Int)):Option (aH×(List aK)×(List aD)×(List ((Int)×aH))):=
  if e=true then (some ((⟨f,g,i,j,k,(⟨l,m⟩:aR),n,o,p⟩:aH),c,d,b)) else (if (x20.Id != 0)=true then (pE b x20 c d ((b.length:Int) == 512)) else (pE b x20 c d false))
def wM(d:List aK)(e:List aD)(c:List ((Int)×aH))(x20:aU):Option (aH×(List aK)×(List aD)×(List ((Int)×aH))):=
  (y4 (kyI .i64) c x20.Id qG).bind fun b=>tK c x20 d e b.2 b.1.Err b.1.At b.1.Yes b.1.Epoch b.1.Results b.1.Store.Nodes b.1.Store.Turns b.1.Events b.1.Mounts b.1.Wounded
theorem T9{o f:Nat}{O P I J L M p q s t u x:Value}{c0:List aK}{c1:List aD}{y:List ((Int)×aH)}{x20:aU}(H:Sep w (Blk o 75 [p,q,s,t,O,P,.map (some f),u,x]::cG Tryz.prog 2 (kyI .i64) bJ true f y::Fo) rs)(b7:rSl bB O c0 ∈ rs)(b8:rSl aO P c1 ∈ rs){r:aH×(List aK)×(List aD)×(List ((Int)×aH))}(hm:wM c0 c1 y x20=some r) :
    Calls Tryz.prog 37 [pt o 0,.agg (aS x20 I J L M).toArray,.func (.func 32) #[] #[]].toArray w (Ret fun v w'=>∃ f9 g0 g1 g2 g3 g4 g5 f3,.agg (bC r.1 f9 g0 g1 g2 g3 g4).toArray=v∧Sep w' (Blk o 75 [p,q,s,t,g5,f3,.map (some f),u,x]::cG Tryz.prog 2 (kyI .i64) bJ true f r.2.2.2::Fo) (rSl bF f9 r.1.Results::rSl aE g0 r.1.Store.Nodes::rSl aI g1 r.1.Store.Turns::rSl aX g2 r.1.Events::rSl bM g3 r.1.Mounts::rSl (kI .i64) g4 r.1.Wounded::rSl bB g5 r.2.1::rSl aO f3 r.2.2.1::rs)):=by
 unfold wM at hm
 refine ent Tryz.func37 rfl Tryz.ntmps37 rfl rfl fun a E=>sq<|bS E H (wn rfl) rfl rfl rfl rfl rfl fun l w a H E=>al E H rfl rfl rfl rfl gO fun z w a H E=>nt<|wp_seq<|aV (fun a w=>∃ c9 X Y Z b0 b1 b2 d0 b3 b4 b5 b6 d1 d2 d3 d4 d5 d6 g,Env 59 a [(0,pt o 0),(2,.func (.func 32) #[] #[]),(4,pt l 0),(6,pt z 0),(7,pt c9 0),(8,.bool d0)]∧Sep w (Blk o 75 [p,q,s,t,O,P,.map (some f),u,x]::Blk l 37 (aS x20 I J L M)::Blk z 48 bN::Blk c9 48 [.int .i64 b3,.int .i64 b4,.bool b5,.int .i64 b6,X,Y,Z,b0,b1,b2]::cG Tryz.prog 2 (kyI .i64) bJ true f y::Fo) g∧(∀ r,r ∈ rs→r ∈ g)∧rSl bF X d1 ∈ g∧rSl aE Y d2 ∈ g∧rSl aI Z d3 ∈ g∧rSl aX b0 d4 ∈ g∧rSl bM b1 d5 ∈ g∧rSl (kI .i64) b2 d6 ∈ g∧tK y x20 c0 c1 d0 b3 b4 b5 b6 d1 d2 d3 d4 d5 d6=some r) ?_ ?_
 ·refine bd hm fun i3 c2 hm=>?_
  have hI:eD [Blk l 37 (aS x20 I J L M),Blk o 75 [p,q,s,t,O,P,.map (some f),u,x]] [] { w with drawn:=w.drawn+1 }:=⟨_,_,H.kept (Kp.drawn _ w _),(aB mm1 (aB mm2 (aL))),(aM)⟩
  refine mA _ (.go 0 0 (.go 1 0 (.go 2 0 (.go 3 0 (.go 4 0 (.go 5 0 (.alt 6 (.go 7 0 (.go 8 0 (.go 9 0 (.go 10 1 (.go 11 1 (.go 12 2 .nil)))))) 10 (.go 6 1 (.go 7 0 (.go 8 0 (.go 9 0 (.go 11 1 (.go 12 2 .nil))))))))))))) [12] mH (by kernel_rfl) (fun _ _ _ h=>False.elim h.2) hI<|have H:=H.kept (Kp.drawn _ w (w.drawn+1));?_
  generalize ({ w with drawn:=w.drawn+1 }:World)=w at H hI ⊢
  replace hI:∃ W,eD [Blk l 37 (aS x20 I J L M),Blk o 75 [p,q,s,t,O,P,.map (some f),u,x]] [] W:=⟨_,hI⟩
  obtain ⟨W0,hI⟩:=hI
  refine aZ E rfl (wn rfl) rfl rfl (fun w hW=>(bE E rfl rfl)) fun a E=>aZ E rfl (wn rfl) rfl rfl (fun w hW=>(vX E rfl rfl)) fun a E=>aZ E rfl (wn rfl) rfl rfl (fun w hW=>lA E rfl rfl (v:=pt o 6) (Z6 _ _)) fun a E=>aZ E rfl (wn rfl) rfl rfl (fun w hW=>fC E rfl rfl (mB mm1 rfl U68 rfl w hW)) fun a E=>aZ E rfl (wn rfl) rfl rfl (fun w hW=>lA E rfl rfl (v:=pt l 1) (Z5 _ _)) fun a E=>aZ E rfl (wn rfl) rfl rfl (fun w hW=>fC E rfl rfl (mB m0 rfl U2 rfl w hW)) fun a E=>?_
  refine mU rfl rfl ?_ ?_
  ·refine oE (i:=3) (K:=(kyI .i64)) E H (wn rfl) rfl rfl rfl rfl rfl rfl (eS U2) U68 y8 J5 c2 fun i4 a H E=>?_
   obtain ⟨i5,i6,i7,i8,i9,j0,rfl,h⟩:=lD H;clear H;have H:=h
   refine nt<|?_
   refine ⟨⟨_,_,H,(aB mm1 (aB mm2 (aL))),(aM)⟩,?_⟩
   refine aZ E rfl (wn rfl) rfl rfl (fun w hW=>(bE E rfl rfl)) fun a E=>aZ E rfl (wn rfl) rfl rfl (fun w hW=>(dF E rfl rfl rfl)) fun a E=>aZ E rfl (wn rfl) rfl rfl (fun w hW=>(dF E rfl rfl rfl)) fun a E=>cN rfl<|al E H rfl rfl rfl rfl gO fun j1 w a H E=>nt<|?_
   refine ⟨⟨_,_,H,(aB mm2 (aB mm3 (aL))),(aM)⟩,?_⟩
   refine cN rfl<|bA (i:=0) E H (wn rfl) rfl rfl rfl rfl rfl rfl bV rfl (bD H mm5 mm4 mm3 mm2 mm1 m0) fun w H=>nt<|?_
   refine ⟨⟨_,_,H,(aB mm2 (aB mm3 (aL))),(aM)⟩,?_⟩
   refine cX rfl<|pr 1 E rfl fun a E=>nt<|eL<|?_
   clear hI
   exact aC<|have H:=H.frs [4,1,2,3,4] rfl;X19 ⟨E.to rfl,H,(Y7 Y0),mm5,mm4,mm3,mm2,mm1,m0,hm⟩
  ·refine al E H rfl rfl rfl rfl gO fun j2 w a H E=>nt<|?_
   refine ⟨⟨_,_,H,(aB mm2 (aB mm3 (aL))),(aM)⟩,?_⟩
   refine cN rfl<|oE (i:=4) (K:=(kyI .i64)) E H (wn rfl) rfl rfl rfl rfl rfl rfl (eS U2) U68 y8 J5 c2 fun j3 a H E=>?_
   obtain ⟨j4,j5,j6,j7,j8,j9,rfl,h⟩:=lD H;clear H;have H:=h
   refine nt<|?_
   refine ⟨⟨_,_,H,(aB mm2 (aB mm3 (aL))),(aM)⟩,?_⟩
   refine aZ E rfl (wn rfl) rfl rfl (fun w hW=>(bE E rfl rfl)) fun a E=>aZ E rfl (wn rfl) rfl rfl (fun w hW=>(dF E rfl rfl rfl)) fun a E=>aZ E rfl (wn rfl) rfl rfl (fun w hW=>(dF E rfl rfl rfl)) fun a E=>cN rfl<|bA (i:=0) E H (wn rfl) rfl rfl rfl rfl rfl rfl bV rfl (bD H mm5 mm4 mm3 mm2 mm1 m0) fun w H=>nt<|?_
   refine ⟨⟨_,_,H,(aB mm2 (aB mm3 (aL))),(aM)⟩,?_⟩
   refine cX rfl<|pr 1 E rfl fun a E=>nt<|eL<|?_
   clear hI
   exact aC<|have H:=H.frs [4,1,2,3,4] rfl;X19 ⟨E.to rfl,H,(Y7 Y0),mm5,mm4,mm3,mm2,mm1,m0,hm⟩
 ·clear E H hm
  rintro a w ⟨c9,X,Y,Z,b0,b1,b2,d0,b3,b4,b5,b6,d1,d2,d3,d4,d5,d6,g,E,H,N,d7,d8,d9,e0,e1,e2,hm⟩
  unfold tK at hm
  refine sq<|pr 1 E rfl fun a E=>nt<|wif E hm rfl (fun hm=>?_) fun hm=>?_
  ·refine sq<|sv E rfl rfl rfl (cC (i:=3) (us:=[.int .i64 b3,.int .i64 b4,.bool b5,.int .i64 b6,X,Y,Z,b0,b1,b2]) E H rfl rfl rfl rfl U48 rfl bV) fun a E=>bA (i:=2) E H (wn rfl) rfl rfl rfl rfl rfl rfl bV rfl (bD H d7 d8 d9 e0 e1 e2) fun w H=>nt<|wp_ret<|aP<|dT E rfl (dD (i:=2) (us:=[.int .i64 b3,.int .i64 b4,.bool b5,.int .i64 b6,X,Y,Z,b0,b1,b2]) H rfl rfl rfl U48 rfl bV)<|have H:=H.drs [1,1,1];?_
   cases hm
   exact X8 ⟨rfl,H.reads (aA d7 (aA d8 (aA d9 (aA e0 (aA e1 (aA e2 (aA (N _ b7) (aA (N _ b8) (N)))))))))⟩
  ·refine wp_skip<|aC<|wp_seq<|aV (fun a w=>∃ e3 b9,Env 59 a [(0,pt o 0),(2,.func (.func 32) #[] #[]),(4,pt l 0),(6,pt z 0),(32,.bool e3)]∧Sep w (Blk o 75 [p,q,s,t,O,P,.map (some f),u,x]::Blk l 37 (aS x20 I J L M)::Blk z 48 bN::cG Tryz.prog 2 (kyI .i64) bJ true f y::Fo) b9∧(∀ r,r ∈ rs→r ∈ b9)∧pE y x20 c0 c1 e3=some r) ?_ ?_
   ·refine wp_region_lit<|pr 1 E rfl fun a E=>lb E H 1 rfl rfl rfl rfl rfl rfl rfl U2 rfl fun a E=>pr 2 E rfl fun a E=>cs hm (fun k hm=>?_) fun k hm=>?_
    ·exact pk 3 E (kc 25 rfl k) rfl fun a E=>aQ E (ws' (d:=25) E rfl rfl rfl rfl k) rfl rfl (cD (i:=0) E H rfl rfl rfl rfl U68 rfl) fun a E=>aQ E (ws' (d:=25) E rfl rfl rfl rfl k) rfl rfl (E4 (i:=4) E H rfl rfl rfl U68) fun a E=>pk 2 E (kc 25 rfl k) rfl fun a E=>nt<|have H:=H.drop 3;⟨_,_,E.to rfl,H,N,hm⟩
    ·exact pk 7 E (kc 25 rfl k) rfl fun a E=>nt<|have H:=H.drop 3;⟨_,_,E.to rfl,H,N,hm⟩
   ·clear E H hm
    rintro a w ⟨e3,b9,E,H,j,hm⟩
    unfold pE at hm
    refine wif E hm rfl (fun hm=>?_) fun hm=>?_
    ·refine sq<|bd hm fun g6 f4 hm=>cF E rfl rfl rfl rfl rfl xN (eI H f4)<|?_
     rintro _ w ⟨g7,g8,g9,i0,i1,i2,rfl,H⟩ a E
     refine bA (i:=2) E H (wn rfl) rfl rfl rfl rfl rfl rfl bV rfl (bD H m0 mm1 mm2 mm3 mm4 mm5) fun w H=>nt<|wp_ret<|aP<|dT E rfl (dD (i:=2) (us:=(bC g6 g7 g8 g9 i0 i1 i2)) H rfl rfl rfl U48 rfl bV)<|have H:=H.drs [1,1];?_
     cases hm
     exact X8 ⟨rfl,H.reads (aA m0 (aA mm1 (aA mm2 (aA mm3 (aA mm4 (aA mm5 (aA (t6 (j _ b7)) (aA (t6 (j _ b8)) (fun r hr=>(t6 (j r hr)))))))))))⟩
    ·refine wp_skip<|aC<|sq<|pr 2 E rfl fun a E=>sv E rfl rfl rfl (cC (i:=1) (us:=(aS x20 I J L M)) E H rfl rfl rfl rfl U37 rfl F3) fun a E=>bd hm fun b f5 hm=>aW E (wn rfl) rfl rfl (bR E rfl rfl rfl (LE _)) (W7 H (j _ b7) (j _ b8) f5)<|?_
     rintro _ w ⟨A,B,C,D,F,G,c3,c4,rfl,H⟩ a E
     refine al E H rfl rfl rfl rfl gO fun c5 w a H E=>bA (i:=0) E H (wn rfl) rfl rfl rfl rfl rfl rfl bV rfl (bD H m0 mm1 mm2 mm3 mm4 mm5) fun w H=>nt<|aV (fun a w=>∃ e4 e,Env 59 a [(6,pt z 0),(9,pt c5 0)]∧Sep w (Blk z 48 bN::Blk c5 48 (bC b.1 A B C D F G)::Blk o 75 [p,q,s,t,c3,c4,.map (some f),u,x]::cG Tryz.prog 2 (kyI .i64) bJ true f e4::Fo) e∧(∀ r,r ∈ rs→r ∈ e)∧rSl bF A b.1.Results ∈ e∧rSl aE B b.1.Store.Nodes ∈ e∧rSl aI C b.1.Store.Turns ∈ e∧rSl aX D b.1.Events ∈ e∧rSl bM F b.1.Mounts ∈ e∧rSl (kI .i64) G b.1.Wounded ∈ e∧rSl bB c3 b.2.1 ∈ e∧rSl aO c4 b.2.2 ∈ e∧pD b e4=some r) ?_ ?_
     ·refine aV (fun a w=>∃ e5 c,Env 59 a [(0,pt o 0),(4,pt l 0),(6,pt z 0),(9,pt c5 0),(50,.bool e5)]∧Sep w (Blk o 75 [p,q,s,t,c3,c4,.map (some f),u,x]::Blk l 37 (aS x20 I J L M)::Blk z 48 bN::Blk c5 48 (bC b.1 A B C D F G)::cG Tryz.prog 2 (kyI .i64) bJ true f y::Fo) c∧(∀ r,r ∈ rs→r ∈ c)∧rSl bB c3 b.2.1 ∈ c∧rSl aO c4 b.2.2 ∈ c∧rSl bF A b.1.Results ∈ c∧rSl aE B b.1.Store.Nodes ∈ c∧rSl aI C b.1.Store.Turns ∈ c∧rSl aX D b.1.Events ∈ c∧rSl bM F b.1.Mounts ∈ c∧rSl (kI .i64) G b.1.Wounded ∈ c∧lX b y x20 e5=some r) ?_ ?_
      ·refine wp_region_lit<|pr 1 E rfl fun a E=>lb E H 2 rfl rfl rfl rfl rfl rfl rfl U2 rfl fun a E=>pr 2 E rfl fun a E=>cs hm (fun m hm=>?_) fun m hm=>?_
       ·refine pk 1 E (kc 41 rfl m) rfl fun a E=>aQ E (ws' (d:=41) E rfl rfl rfl rfl m) rfl rfl (cD (i:=0) E H rfl rfl rfl rfl U41 rfl) fun a E=>pk 3 E (kc 41 rfl m) rfl fun a E=>cs hm (fun n hm=>?_) fun n hm=>?_
        ·exact pk 1 E (kc 46 rfl n) rfl fun a E=>aQ E (ws' (d:=46) E rfl rfl rfl rfl n) rfl rfl (cD (i:=0) E H rfl rfl rfl rfl U41 rfl) fun a E=>pk 2 E (kc 46 rfl n) rfl fun a E=>nt<|have H:=H.frs [4,1,4,4,4] rfl;⟨_,_,E.to rfl,H,(Y8 j),mm6,(t1 mm6),m0,mm1,mm2,mm3,mm4,mm5,hm⟩
        ·exact pk 4 E (kc 46 rfl n) rfl fun a E=>nt<|have H:=H.frs [4,1,4,4,4] rfl;⟨_,_,E.to rfl,H,(Y8 j),mm6,(t1 mm6),m0,mm1,mm2,mm3,mm4,mm5,hm⟩
       ·exact pk 9 E (kc 41 rfl m) rfl fun a E=>nt<|have H:=H.frs [4,1,4,4,4] rfl;⟨_,_,E.to rfl,H,(Y8 j),mm6,(t1 mm6),m0,mm1,mm2,mm3,mm4,mm5,hm⟩
      ·clear E H hm
       rintro a w ⟨e5,c,E,H,c6,c7,c8,Q,R,S,T,U,V,hm⟩
       unfold lX at hm
       refine wif E hm rfl (fun hm=>?_) fun hm=>?_
       ·refine dw [(0,0),(1,0),(2,0),(3,0),(4,0),(5,0),(6,0),(7,2)] [0,1,3] [] H (by kernel_rfl) (fun _ _ _ h=>False.elim h.2) fun w W0 hI H=>fn 3 E rfl fun a E=>fb E rfl (wn rfl) rfl rfl rfl rfl m0 rfl U68 rfl fun a E=>fn 1 E rfl fun a E=>fb E rfl (wn rfl) rfl rfl rfl rfl mm1 rfl U2 rfl fun a E=>fbn E (bC b.1 A B C D F G) rfl (wn rfl) rfl rfl rfl rfl mm2 rfl U48 rfl bV fun a E=>bO rfl<|bd hm fun k0 f2 hm=>B6 (i:=4) (K:=(kyI .i64)) (v:=b.1) (cs:=[.int .i64 b.1.Err,.int .i64 b.1.At,.bool b.1.Yes,.int .i64 b.1.Epoch,A,B,C,D,F,G]) E H (wn rfl) rfl rfl rfl rfl rfl rfl (eS U2) U68 f2 (fun ok hr=>(oF (hr _ Q) (hr _ R) (hr _ S) (hr _ T) (hr _ U) (hr _ V))) fun w H=>?_
        refine nt<|bP<|?_
        clear hI
        exact aC<|have H:=H.drop 1;have H:=H.frs [3,1,3,3] rfl;⟨_,_,E.to rfl,H,c6,Q,R,S,T,U,V,c7,c8,hm⟩
       ·exact wp_skip<|aC<|have H:=H.drop 1;have H:=H.frs [3,1,3,3] rfl;⟨_,_,E.to rfl,H,c6,Q,R,S,T,U,V,c7,c8,hm⟩
     ·clear E H hm
      rintro a w ⟨e4,e,E,H,f6,e6,e7,e8,e9,f0,f1,f7,f8,hm⟩
      unfold pD at hm
      refine sq<|sv E rfl rfl rfl (cC (i:=1) (us:=(bC b.1 A B C D F G)) E H rfl rfl rfl rfl U48 rfl bV) fun a E=>bA (i:=0) E H (wn rfl) rfl rfl rfl rfl rfl rfl bV rfl (bD H e6 e7 e8 e9 f0 f1) fun w H=>nt<|wp_ret<|dT E rfl (dD (i:=0) (us:=(bC b.1 A B C D F G)) H rfl rfl rfl U48 rfl bV)<|have H:=H.drs [0,0];?_
      cases hm
      exact X8 ⟨rfl,H.reads (aA e6 (aA e7 (aA e8 (aA e9 (aA f0 (aA f1 (aA f7 (aA f8 (f6)))))))))⟩

def rB(c:List cE):Nat→(List ByteArray)→Int→Option (List ByteArray)
  | 0,_,_=>none
  | f+1,b,d=>
    if (decide (d < (c.length:Int)))=true then ((idx c d).bind fun e=>(ck (b.length+([e.Part.Dir]:List ByteArray).length ≤ LIM)).bind fun g=>rB c f (b ++ ([e.Part.Dir]:List ByteArray)) (IntKind.i64.wrap (d+1))) else ((ck (b.length ≤ 1000000)).bind fun i=>(ck ((tB b).length ≤ 1000000)).bind fun j=>some (oY (tB b)))
def vO(b:List cE):Option (List ByteArray):=
  rB b (((b.length:Int) - 0:Int).toNat+1) [] 0
theorem Al{l:Value}{c:List cE}(H:Sep w (Fo) rs)(k:rSl cA l c ∈ rs){r:(List ByteArray)}(hm:vO c=some r) :
    Calls Tryz.prog 65 [l].toArray w (Ret fun v w'=>∃ u,u=v∧Sep w' (Row 9 kS u r::Fo) (rs)):=by
 unfold vO at hm
 refine ent Tryz.func65 rfl Tryz.ntmps65 rfl rfl fun a E=>sq<|pr 1 E rfl fun a E=>nx<|pr 1 E rfl fun a E=>nt<|wp_seq<|sq<|pr 1 E rfl fun a E=>?_
 refine sv E rfl rfl rfl (cV E H rfl rfl k U26) fun a E=>pr 1 E rfl fun a E=>nt<|wp_block<|bX (fun b a w=>∃ m n o f,Env 23 a [(3,m),(6,l),(7,.int .i64 (c.length:Int)),(8,.int .i64 o)]∧Sep w (Row 9 kS m n::Fo) f∧(∀ r,r ∈ rs→r ∈ f)∧rB c b n o=some r) (((c.length:Int) - 0:Int).toNat+1) ?_ ?_
 ·exact have H:=H.nilRow 9 kS;X4 ⟨E.to rfl,H,Y0,hm⟩
 ·clear E H hm
  rintro b a w ⟨m,n,o,f,E,H,g,hm⟩
  cases b with
  | zero=>exact (bU hm rfl).elim
  | succ b=>
   unfold rB at hm
   refine sq<|pr 1 E rfl fun a E=>nt<|wp_seq<|wif E hm rfl (fun hm=>?_) fun hm=>?_
   ·refine wp_skip<|aC<|wp_seq<|wp_block<|sq<|bd hm fun j p hm=>dR E H (wn rfl) rfl rfl rfl rfl rfl (g _ k) U26 F4 p fun q11 a H E=>ldf wB E H rfl rfl rfl rfl rfl m0 U87 rfl F4 fun a E=>al E H rfl rfl rfl rfl Pj fun y w a H E=>?_
    refine bA (i:=0) E H (wn rfl) rfl rfl rfl rfl rfl rfl F4 rfl rfl fun w H=>nt<|wp_region_lit<|pr 3 E rfl fun a E=>lb E H 0 rfl rfl rfl rfl rfl rfl rfl U9 rfl fun a E=>sM (e:=9) (d:=kS) (cs:=[.string j.Part.Dir]) (xs:=[j.Part.Dir]) E H (wn rfl) rfl rfl rfl (E.evs rfl) (by kernel_rfl) rfl (fun ok hr=>(Rows.single (d:=kS) (cs:=[.string j.Part.Dir]) (x:=j.Part.Dir) rfl)) fun z w a H E=>bk hm fun q hm=>eK (i:=1) E H (wn rfl) rfl rfl rfl rfl rfl rfl (lB m0) U33 Pf rfl q rfl fun A w a H E=>pr 1 E rfl fun a E=>?_
    exact wpList_nil<|bZ<|aC<|wp_region_lit<|pr 2 E rfl fun a E=>nt<|have H:=H.drop 0;⟨b,Nat.lt_succ_self b,X4 ⟨E.to rfl,H,(Y2 g),hm⟩⟩
   ·refine wp_exit<|bG<|bG<|dN<|aC<|sq<|pr 1 E rfl fun a E=>bk hm fun s hm=>cF E rfl rfl rfl rfl rfl HK (Zr (ix:=0) H rfl s)<|?_
    rintro _ w ⟨rfl,H⟩ a E
    refine nx<|pr 1 E rfl fun a E=>bk hm fun t hm=>aW E (wn rfl) rfl rfl (cB E rfl rfl (HL _)) (Zs (ix:=0) H rfl t) fun B w H a E=>pr 1 E rfl fun a E=>nt<|wp_ret<|aY E rfl rfl<|?_
    cases hm
    exact ⟨_,rfl,H.reads g⟩

def xE(b:List aG)(d:ByteArray):Option Int:=
  (qD b d).bind fun c=>if (decide (c ≥ 0))=true then ((idx b c).bind fun e=>some (e.State)) else (some (3))
theorem Iw{c:Value}{d:List aG}{e:ByteArray}(H:Sep w (Fo) rs)(b:rSl aT c d ∈ rs){r:Int}(hm:xE d e=some r) :
    Calls Tryz.prog 124 [c,.string e].toArray w (Ret fun v w'=>.int .i64 r=v∧Sep w' (Fo) (rs)):=by
 unfold xE at hm
 refine ent Tryz.func124 rfl Tryz.ntmps124 rfl rfl fun a E=>sq<|pr 1 E rfl fun a E=>nt<|wp_seq<|sq<|pr 2 E rfl fun a E=>bd hm fun j f hm=>xk E rfl rfl rfl rfl rfl Ds (wD H b f) fun w H a E=>?_
 refine pr 1 E rfl fun a E=>nx<|pr 2 E rfl fun a E=>nt<|wif E hm rfl (fun hm=>?_) fun hm=>?_
 ·refine sq<|pr 2 E rfl fun a E=>bd hm fun i g hm=>dR E H (wn rfl) rfl rfl rfl rfl rfl b U32 iK g fun q9 a H E=>have H:=H.derive1 m0 (rAt (kI .i64) (q9.add 2) i.State) (fun ok h=>y6 h);pr 1 E rfl fun a E=>sv E rfl rfl rfl (qT E H rfl rfl m0 U3 rfl) fun a E=>pr 1 E rfl fun a E=>nt<|?_
  refine wp_ret<|aP<|aY E rfl rfl<|?_
  cases hm
  exact ⟨rfl,H.reads (Y2 Y0)⟩
 ·refine wp_skip<|aC<|sq<|pr 1 E rfl fun a E=>nt<|wp_ret<|aY E rfl rfl<|?_
  cases hm
  exact ⟨rfl,H.reads Y0⟩

def pF(d:ByteArray)(e:List aG)(b:Int):Option Bool:=
  (xE e d).bind fun c=>some (c == b)
theorem L2{s:ByteArray}{n d b:Nat}{o e f g i j k l m:Value}{t:List aG}{c:Int}(H:Sep w (Blk n 28 [pt d 0]::Blk d 75 [e,f,o,g,i,j,k,l,m]::Blk b 3 [.int .i64 c]::Fo) rs)(p:rSl aT o t ∈ rs){r:Bool}(hm:pF s t c=some r) :
    Calls Tryz.prog 123 [.string s,pt n 0,pt b 0].toArray w (Ret fun v w'=>.bool r=v∧Sep w' (Blk n 28 [pt d 0]::Blk d 75 [e,f,o,g,i,j,k,l,m]::Blk b 3 [.int .i64 c]::Fo) (rs)):=by
 unfold pF at hm
 refine ent Tryz.func123 rfl Tryz.ntmps123 rfl rfl fun a E=>sq<|pr 1 E rfl fun a E=>nt<|wp_seq<|dw [(0,0),(1,0),(2,0),(3,0),(4,0),(6,0),(5,1),(7,0),(8,2)] [0,1,2] [] H (by kernel_rfl) (fun _ _ _ h=>False.elim h.2) fun w W0 hI H=>fb E rfl (wn rfl) rfl rfl rfl rfl m0 rfl U28 rfl fun a E=>fn 2 E rfl fun a E=>fb E rfl (wn rfl) rfl rfl rfl rfl mm1 rfl U32 rfl fun a E=>?_
 refine fn 1 E rfl fun a E=>fb E rfl (wn rfl) rfl rfl rfl rfl mm2 rfl U3 rfl fun a E=>bY rfl<|bd hm fun u q hm=>xk E rfl rfl rfl rfl rfl HO (Iw H p q) fun w H a E=>nt<|?_
 refine ⟨⟨_,_,H,(aB m0 (aB mm1 (aB mm2 (aL)))),(aM)⟩,?_⟩
 refine fn 1 E rfl fun a E=>bO rfl<|pr 1 E rfl fun a E=>nt<|bP<|?_
 clear hI
 refine aC<|wp_ret<|aY E rfl rfl<|?_
 cases hm
 exact ⟨rfl,H.reads Y0⟩

def dI(e:List ByteArray)(c:List aG)(d:Int):Nat→Int→Option Int
  | 0,_=>none
  | i+1,b=>
    if (decide (b < (e.length:Int)))=true then ((idx e b).bind fun f=>(pF f c d).bind fun g=>if g=true then (some (b)) else (dI e c d i (IntKind.i64.wrap (b+1)))) else (some ((-1)))
def iO(b:List ByteArray)(c:List aG)(d:Int):Option Int:=
  dI b c d (((b.length:Int) - 0:Int).toNat+1) 0
theorem q4{z y i j k l m n o p:Value}{q:List ByteArray}{s f c:Nat}{t:List aG}{d:Int}(H:Sep w (Blk s 28 [pt f 0]::Blk f 75 [i,j,y,k,l,m,n,o,p]::Blk c 3 [.int .i64 d]::Fo) rs)(u:rSl kS z q ∈ rs)(A:rSl aT y t ∈ rs){r:Int}(hm:iO q t d=some r) :
    Calls Tryz.prog 119 [z,.func (.func 123) #[] #[pt s 0,pt c 0]].toArray w (Ret fun v w'=>.int .i64 r=v∧Sep w' (Blk s 28 [pt f 0]::Blk f 75 [i,j,y,k,l,m,n,o,p]::Blk c 3 [.int .i64 d]::Fo) (rs)):=by
 unfold iO at hm
 refine ent Tryz.func119 rfl Tryz.ntmps119 rfl rfl fun a E=>sq<|pr 1 E rfl fun a E=>nt<|wp_seq<|sq<|pr 1 E rfl fun a E=>sv E rfl rfl rfl (cV E H rfl rfl u U33) fun a E=>pr 1 E rfl fun a E=>?_
 refine nt<|wp_block<|bX (fun g a w=>∃ x e,Env 19 a [(0,z),(1,.func (.func 123) #[] #[pt s 0,pt c 0]),(7,.int .i64 (q.length:Int)),(8,.int .i64 x)]∧Sep w (Blk s 28 [pt f 0]::Blk c 3 [.int .i64 d]::Blk f 75 [i,j,y,k,l,m,n,o,p]::Fo) e∧(∀ r,r ∈ rs→r ∈ e)∧dI q t d g x=some r) (((q.length:Int) - 0:Int).toNat+1) ?_ ?_
 ·exact have H:=H.frs [1,2,2] rfl;⟨_,_,E.to rfl,H,Y0,hm⟩
 ·clear E H hm
  rintro g a w ⟨x,e,E,H,b,hm⟩
  cases g with
  | zero=>exact (bU hm rfl).elim
  | succ g=>
   unfold dI at hm
   refine sq<|pr 1 E rfl fun a E=>nt<|wp_seq<|wif E hm rfl (fun hm=>?_) fun hm=>?_
   ·refine wp_skip<|aC<|wp_seq<|wp_block<|sq<|pr 2 E rfl fun a E=>nx<|pr 3 E rfl fun a E=>bd hm fun D B hm=>?_
    refine dR E H (wn rfl) rfl rfl rfl rfl rfl (b _ u) U33 sz9 B fun q40 a H E=>sv E rfl rfl rfl (qT E H rfl rfl m0 U9 rfl) fun a E=>have H:=H.frs [1,2,2] rfl;bd hm fun F C hm=>aW E (wn rfl) rfl rfl (bR E rfl rfl rfl (HN _)) (L2 H (t1 (b _ A)) C)<|?_
    rintro _ w ⟨rfl,H⟩ a E
    refine nt<|wif E hm rfl (fun hm=>?_) fun hm=>?_
    ·refine sq<|pr 2 E rfl fun a E=>nt<|wp_ret<|bW<|aP<|aP<|bW<|aP<|?_
     refine aY E rfl rfl<|?_
     cases hm
     exact ⟨rfl,H.reads (Y1 b)⟩
    ·exact wp_skip<|bZ<|aC<|wp_region_lit<|pr 2 E rfl fun a E=>nt<|have H:=H.frs [1,2,2] rfl;⟨g,Nat.lt_succ_self g,_,_,E.to rfl,H,(Y1 b),hm⟩
   ·refine wp_exit<|bG<|bG<|dN<|aC<|sq<|pr 1 E rfl fun a E=>nt<|wp_ret<|?_
    refine aY E rfl rfl<|have H:=H.frs [1,2,2] rfl;?_
    cases hm
    exact ⟨rfl,H.reads b⟩

def gS(e:List ByteArray)(b:List aG)(c:Int):Option Bool:=
  (iO e b c).bind fun d=>some (decide (d ≥ 0))
theorem yM{u o e f g i j k l m:Value}{x:List ByteArray}{p d b:Nat}{n:List aG}{c:Int}(H:Sep w (Blk p 28 [pt d 0]::Blk d 75 [e,f,o,g,i,j,k,l,m]::Blk b 3 [.int .i64 c]::Fo) rs)(q:rSl kS u x ∈ rs)(s:rSl aT o n ∈ rs){r:Bool}(hm:gS x n c=some r) :
    Calls Tryz.prog 66 [u,.func (.func 123) #[] #[pt p 0,pt b 0]].toArray w (Ret fun v w'=>.bool r=v∧Sep w' (Blk p 28 [pt d 0]::Blk d 75 [e,f,o,g,i,j,k,l,m]::Blk b 3 [.int .i64 c]::Fo) (rs)):=by
 unfold gS at hm
 refine ent Tryz.func66 rfl Tryz.ntmps66 rfl rfl fun a E=>sq<|pr 1 E rfl fun a E=>nx<|pr 2 E rfl fun a E=>bd hm fun y t hm=>xk E rfl rfl rfl rfl rfl Pu (q4 H q s t) fun w H a E=>pr 2 E rfl fun a E=>nt<|?_
 refine wp_ret<|aY E rfl rfl<|?_
 cases hm
 exact ⟨rfl,H.reads Y0⟩

def nV(x1:Int)(d:List ByteArray)(b:List aG):Option Bool:=
  (gS d b x1).bind fun c=>some (c)
theorem x6{x1:Int}{n o c:Nat}{p b d e f g i j k l:Value}{u:List ByteArray}{m:List aG}(H:Sep w (Blk n 33 [p]::Blk o 28 [pt c 0]::Blk c 75 [d,e,b,f,g,i,j,k,l]::Fo) rs)(q:rSl kS p u ∈ rs)(s:rSl aT b m ∈ rs){r:Bool}(hm:nV x1 u m=some r) :
    Calls Tryz.prog 122 [.int .i64 x1,pt n 0,pt o 0].toArray w (Ret fun v w'=>.bool r=v∧Sep w' (Blk n 33 [p]::Blk o 28 [pt c 0]::Blk c 75 [d,e,b,f,g,i,j,k,l]::Fo) (rs)):=by
 unfold nV at hm
 refine ent Tryz.func122 rfl Tryz.ntmps122 rfl rfl fun a E=>sq<|bS E H (wn rfl) rfl rfl rfl rfl rfl fun x w a H E=>pr 1 E rfl fun a E=>nx<|lb E H 1 rfl rfl rfl rfl rfl rfl rfl U33 rfl fun a E=>sv E rfl rfl rfl (kJ E rfl rfl rfl) fun a E=>have H:=H.frs [1,1,3,3] rfl;bd hm fun y t hm=>?_
 refine xk E rfl rfl rfl rfl rfl Vd (yM H q s t) fun w H a E=>pr 1 E rfl fun a E=>nt<|wp_ret<|aY E rfl rfl<|have H:=H.drop 2;have H:=H.frs [1,1,2] rfl;?_
 cases hm
 exact ⟨rfl,H.reads Y0⟩

def mN(c:List aG)(b:List ByteArray):Option Int:=
  (nV 3 b c).bind fun d=>if d=true then (some (132)) else ((nV 2 b c).bind fun e=>if e=true then (some (131)) else (some (0)))
theorem B2{o:Nat}{p d e f g i j k l m:Value}{t:List aG}{n:List ByteArray}(H:Sep w (Blk o 75 [e,f,p,g,i,j,k,l,m]::Fo) rs)(c:rSl aT p t ∈ rs)(b:rSl kS d n ∈ rs){r:Int}(hm:mN t n=some r) :
    Calls Tryz.prog 69 [pt o 0,d].toArray w (Ret fun v w'=>.int .i64 r=v∧Sep w' (Blk o 75 [e,f,p,g,i,j,k,l,m]::Fo) (rs)):=by
 unfold mN at hm
 refine ent Tryz.func69 rfl Tryz.ntmps69 rfl rfl fun a E=>sq<|bS E H (wn rfl) rfl rfl rfl rfl rfl fun u w a H E=>?_
 obtain ⟨q34,x,rfl⟩:=H.slform b
 refine bS E H (wn rfl) rfl rfl rfl rfl rfl fun y w a H E=>pr 1 E rfl fun a E=>nx<|sv E rfl rfl rfl (kJ E rfl rfl rfl) fun a E=>pr 1 E rfl fun a E=>nt<|wp_seq<|wp_block<|sq<|?_
 refine pr 1 E rfl fun a E=>bd hm fun z q hm=>aW E (wn rfl) rfl rfl (bR E rfl rfl rfl (Xf _)) (x6 H b c q)<|?_
 rintro _ w ⟨rfl,H⟩ a E
 refine pr 1 E rfl fun a E=>nt<|wif E hm rfl (fun hm=>?_) fun hm=>?_
 ·refine sq<|pr 1 E rfl fun a E=>nt<|wp_ret<|bW<|aP<|aY E rfl rfl<|have H:=H.drs [0,0];?_
  cases hm
  exact ⟨rfl,H.reads Y0⟩
 ·refine sq<|pr 1 E rfl fun a E=>bd hm fun A s hm=>aW E (wn rfl) rfl rfl (bR E rfl rfl rfl (Xf _)) (x6 H b c s)<|?_
  rintro _ w ⟨rfl,H⟩ a E
  refine pr 1 E rfl fun a E=>nt<|wif E hm rfl (fun hm=>?_) fun hm=>?_
  ·refine sq<|pr 1 E rfl fun a E=>nt<|wp_ret<|bW<|aP<|aY E rfl rfl<|have H:=H.drs [0,0];?_
   cases hm
   exact ⟨rfl,H.reads Y0⟩
  ·refine wp_skip<|bZ<|aC<|sq<|pr 1 E rfl fun a E=>nt<|wp_ret<|aY E rfl rfl<|have H:=H.drs [0,0];?_
   cases hm
   exact ⟨rfl,H.reads Y0⟩

def C6(x1:aN)(b:ByteArray):Option Bool:=
  some (sEq x1.Dir b)
theorem Gx{x1:aN}{b:Nat}{c:ByteArray}(H:Sep w (Blk b 9 [.string c]::Fo) rs){r:Bool}(hm:C6 x1 c=some r) :
    Calls Tryz.prog 121 [.agg (pX x1).toArray,pt b 0].toArray w (Ret fun v w'=>.bool r=v∧Sep w' (Blk b 9 [.string c]::Fo) (rs)):=by
 unfold C6 at hm
 refine ent Tryz.func121 rfl Tryz.ntmps121 rfl rfl fun a E=>sq<|bS E H (wn rfl) rfl rfl rfl rfl rfl fun d w a H E=>pr 1 E rfl fun a E=>nx<|pr 1 E rfl fun a E=>lb E H 0 rfl rfl rfl rfl rfl rfl rfl U9 rfl fun a E=>lb E H 1 rfl rfl rfl rfl rfl rfl rfl U9 rfl fun a E=>pr 2 E rfl fun a E=>?_
 refine nt<|wp_ret<|aY E rfl rfl<|have H:=H.drop 0;?_
 cases hm
 exact ⟨rfl,H.reads Y0⟩

end Go.Cb
