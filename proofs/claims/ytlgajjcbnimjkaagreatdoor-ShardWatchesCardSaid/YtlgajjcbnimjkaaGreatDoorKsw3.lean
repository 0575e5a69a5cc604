/- Functions of the program, walked: each comes to its plain function. -/
import Derived.Test.YtlgajjcbnimjkaaGreatDoorKsw2
import Derived.Test.YtlgajjcbnimjkaaGreatDoorExsw
import Derived.Test.YtlgajjcbnimjkaaGreatDoorS1sw
import Derived.Test.YtlgajjcbnimjkaaGreatDoorSssw
import Derived.Test.YtlgajjcbnimjkaaGreatDoorStsw
set_option linter.unusedVariables false
set_option linter.unusedSimpArgs false
set_option maxRecDepth 20000
set_option maxHeartbeats 1000000
namespace Go.Cb
open Go.Proofs Go.RowKit
variable {w:World} {Fo:List Ob} {rs:List Rp}

def pF(b:(List aM))(c:List ((Int)×bJ))(d:(List aF))(e:(List aI))(f:(List aJ))(g:(List aC)):Option (aE×(List aF)×(List aI)×(List aM)×(List aJ)×(List aC)×(List ((Int)×bJ))):=
  some ((⟨0,0,false,0,[],(⟨[],[]⟩:aW),[],[],[]⟩:aE),d,e,b,f,g,c)
def pG(c:(List aM))(d:List ((Int)×bJ))(i:List aF)(j:List aI)(e:List aJ)(f:List aC)(k:(List cH))(g:Bool):Option (aE×(List aF)×(List aI)×(List aM)×(List aJ)×(List aC)×(List ((Int)×bJ))):=
  if g=true then ((oY i j e f k).bind fun b=>pF c d b.2.1 b.2.2.1 b.2.2.2.1 b.2.2.2.2) else (pF c d i j e f)
def pH(g:List aF)(i:List aI)(b:List aJ)(c:List aC)(j:(List cH))(k:List aM)(d:List ((Int)×bJ))(l:Bool)(x20:aV)(m:Bool)(n:Bool):Option (aE×(List aF)×(List aI)×(List aM)×(List aJ)×(List aC)×(List ((Int)×bJ))):=
  if n=true then ((eH 2).bind fun o=>some (o,g,i,k,b,c,d)) else (if l=true then (some ((⟨0,0,false,0,[],(⟨[],[]⟩:aW),[],[],[]⟩:aE),g,i,k,b,c,d)) else ((mpt (kyI .i64) d x20.Txn (⟨true,[],(⟨0,0,false,0,[],(⟨[],[]⟩:aW),[],[],[]⟩:aE)⟩:bJ)).bind fun e=>(L4 k x20.Txn).bind fun f=>if x20.Yes=true then (pG f e g i b c j m) else (pG f e g i b c j false)))
def pI(i:List aF)(j:List aI)(c:List aJ)(d:List aC)(e:(List cH))(k:List aM)(b:List ((Int)×bJ))(f:Bool)(x20:aV)(g:Bool)(l:Bool)(m:Bool):Option (aE×(List aF)×(List aI)×(List aM)×(List aJ)×(List aC)×(List ((Int)×bJ))):=
  if m=true then ((eH 62).bind fun n=>some (n,i,j,k,c,d,b)) else (if (!l)=true then (pH i j c d e k b f x20 g ((b.length:Int) == 128)) else (pH i j c d e k b f x20 g false))
def tR(j:List aF)(k:List aI)(c:List aJ)(d:List aC)(l:List aM)(e:List ((Int)×bJ))(x20:aV)(b:Bool)(f:Bool)(g:(List cH))(m:Int)(n:Int)(i:Bool)(o:Int)(p:(List cR))(q:(List aF))(s:(List aI))(t:(List bK))(u:(List oB))(v:(List Int)):Option (aE×(List aF)×(List aI)×(List aM)×(List aJ)×(List aC)×(List ((Int)×bJ))):=
  if (!b)=true then (pI j k c d g l e f x20 i b x20.Yes) else (pI j k c d g l e f x20 i b false)
def wP(f:List aF)(g:List aI)(i:List aM)(d:List aJ)(e:List aC)(c:List ((Int)×bJ))(x20:aV):Option (aE×(List aF)×(List aI)×(List aM)×(List aJ)×(List aC)×(List ((Int)×bJ))):=
  (K5 (kyI .i64) c x20.Txn O4).bind fun b=>tR f g d e i c x20 b.2 b.1.over_ b.1.pieces_ b.1.a_.Err b.1.a_.At b.1.a_.Yes b.1.a_.Epoch b.1.a_.Results b.1.a_.Store.Nodes b.1.a_.Store.Turns b.1.a_.Events b.1.a_.Mounts b.1.a_.Wounded
theorem U7{m e:Nat}{b2 b3 c1 z A M N O P n o p:Value}{d2:List aF}{d3:List aI}{d4:List aM}{Q:List aJ}{R:List aC}{B:List ((Int)×bJ)}{x20:aV}(H:Sep w (Blk m 82 [b2,b3,n,c1,z,A,o,.map (some e),p]::cC Tryz.prog 2 (kyI .i64) cW true e B::Fo) rs)(G:rSl aG b2 d2 ∈ rs)(I:rSl aK b3 d3 ∈ rs)(V:rSl bG c1 d4 ∈ rs)(J:rSl aY z Q ∈ rs)(L:rSl aO A R ∈ rs)(g0:x4 Tryz.prog ∈ rs){r:aE×(List aF)×(List aI)×(List aM)×(List aJ)×(List aC)×(List ((Int)×bJ))}(hm:wP d2 d3 d4 Q R B x20=some r) :
    Calls Tryz.prog 15 [pt m 0,.agg (aS x20 M N O P).toArray].toArray w (Ret fun v w'=>∃ g9 i0 i1 i2 i3 i4 i5 f0 f1 f2 f3,.agg (bA r.1 g9 i0 i1 i2 i3 i4).toArray=v∧Sep w' (Blk m 82 [i5,f0,n,f1,f2,f3,o,.map (some e),p]::cC Tryz.prog 2 (kyI .i64) cW true e r.2.2.2.2.2.2::Fo) (rSl bE g9 r.1.Results::rSl aG i0 r.1.Store.Nodes::rSl aK i1 r.1.Store.Turns::rSl aU i2 r.1.Events::rSl bN i3 r.1.Mounts::rSl (kI .i64) i4 r.1.Wounded::rSl aG i5 r.2.1::rSl aK f0 r.2.2.1::rSl bG f1 r.2.2.2.1::rSl aY f2 r.2.2.2.2.1::rSl aO f3 r.2.2.2.2.2.1::rs)):=by
 unfold wP at hm
 refine ent Tryz.func15 rfl Tryz.ntmps15 rfl rfl fun a E=>sq<|bS E H (wn rfl) rfl rfl rfl rfl rfl fun q w a H E=>al E H rfl rfl rfl rfl iO fun l w a H E=>nt<|aT (fun a w=>∃ s t b4 b5 b6 b7 b8 b9 c0 C u S T D U f4 f5 f6 f7 f8 f9 X,Env 70 a [(0,pt m 0),(3,pt q 0),(4,pt l 0),(5,pt s 0),(6,.bool c0)]∧Sep w (Blk m 82 [b2,b3,n,c1,z,A,o,.map (some e),p]::Blk q 43 (aS x20 M N O P)::Blk l 36 bO::Blk s 100 [.bool C,t,.int .i64 S,.int .i64 T,.bool D,.int .i64 U,b4,b5,b6,b7,b8,b9]::cC Tryz.prog 2 (kyI .i64) cW true e B::Fo) X∧(∀ r,r ∈ rs→r ∈ X)∧rSl cF t u ∈ X∧tR d2 d3 Q R d4 B x20 c0 C u S T D U f4 f5 f6 f7 f8 f9=some r) ?_ ?_
 ·refine bd hm fun j4 d1 hm=>?_
  have hI:eK [Blk q 43 (aS x20 M N O P),Blk m 82 [b2,b3,n,c1,z,A,o,.map (some e),p]] [] { w with drawn:=w.drawn+1 }:=⟨_,_,H.kept (Kp.drawn _ w _),(aB mm1 (aB mm2 (aL))),(aN)⟩
  refine lZ _ (.go 0 0 (.go 1 0 (.go 2 0 (.go 3 0 (.go 4 0 (.go 5 0 (.alt 6 (.go 7 0 (.go 8 0 (.go 9 0 (.go 10 1 (.go 11 1 (.go 12 2 .nil)))))) 10 (.go 6 1 (.go 7 0 (.go 8 0 (.go 9 0 (.go 11 1 (.go 12 2 .nil))))))))))))) [12] mI (by kernel_rfl) (fun _ _ _ h=>False.elim h.2) hI<|have H:=H.kept (Kp.drawn _ w (w.drawn+1));?_
  generalize ({ w with drawn:=w.drawn+1 }:World)=w at H hI ⊢
  replace hI:∃ W,eK [Blk q 43 (aS x20 M N O P),Blk m 82 [b2,b3,n,c1,z,A,o,.map (some e),p]] [] W:=⟨_,hI⟩
  obtain ⟨W0,hI⟩:=hI
  refine aZ E rfl (wn rfl) rfl rfl (fun w hW=>(bD E rfl rfl)) fun a E=>aZ E rfl (wn rfl) rfl rfl (fun w hW=>(wE E rfl rfl)) fun a E=>aZ E rfl (wn rfl) rfl rfl (fun w hW=>lB E rfl rfl (v:=pt m 7) (Lh _ _)) fun a E=>aZ E rfl (wn rfl) rfl rfl (fun w hW=>gK E rfl rfl (mE mm1 rfl U80 rfl w hW)) fun a E=>aZ E rfl (wn rfl) rfl rfl (fun w hW=>lB E rfl rfl (v:=pt q 2) (Ft _ _)) fun a E=>aZ E rfl (wn rfl) rfl rfl (fun w hW=>gK E rfl rfl (mE m0 rfl U2 rfl w hW)) fun a E=>?_
  refine mS rfl rfl ?_ ?_
  ·refine oD (i:=3) (K:=(kyI .i64)) E H (wn rfl) rfl rfl rfl rfl rfl rfl (fD U2) U80 Fz Js d1 fun j5 a H E=>?_
   obtain ⟨j6,j7,j8,j9,k0,k1,k2,rfl,h⟩:=E5 H;clear H;have H:=h
   refine nt<|?_
   refine ⟨⟨_,_,H,(aB mm1 (aB mm2 (aL))),(aN)⟩,?_⟩
   refine aZ E rfl (wn rfl) rfl rfl (fun w hW=>(bD E rfl rfl)) fun a E=>aZ E rfl (wn rfl) rfl rfl (fun w hW=>(dK E rfl rfl rfl)) fun a E=>aZ E rfl (wn rfl) rfl rfl (fun w hW=>(dK E rfl rfl rfl)) fun a E=>cP rfl<|al E H rfl rfl rfl rfl Jt fun k3 w a H E=>nt<|?_
   refine ⟨⟨_,_,H,(aB mm2 (aB mm3 (aL))),(aN)⟩,?_⟩
   refine cP rfl<|bC (i:=0) E H (wn rfl) rfl rfl rfl rfl rfl rfl Ju rfl (u9 H mm6 mm5 mm4 mm3 mm2 mm1 m0) fun w H=>nt<|?_
   refine ⟨⟨_,_,H,(aB mm2 (aB mm3 (aL))),(aN)⟩,?_⟩
   refine dA rfl<|pr 1 E rfl fun a E=>nt<|eV<|?_
   clear hI
   exact aD<|have H:=H.frs [4,1,2,3,4] rfl;X22 ⟨E.to rfl,H,(Y8 Y0),mm6,hm⟩
  ·refine al E H rfl rfl rfl rfl Jt fun k4 w a H E=>nt<|?_
   refine ⟨⟨_,_,H,(aB mm2 (aB mm3 (aL))),(aN)⟩,?_⟩
   refine cP rfl<|oD (i:=4) (K:=(kyI .i64)) E H (wn rfl) rfl rfl rfl rfl rfl rfl (fD U2) U80 Fz Js d1 fun k5 a H E=>?_
   obtain ⟨k6,k7,k8,k9,l0,l1,l2,rfl,h⟩:=E5 H;clear H;have H:=h
   refine nt<|?_
   refine ⟨⟨_,_,H,(aB mm2 (aB mm3 (aL))),(aN)⟩,?_⟩
   refine aZ E rfl (wn rfl) rfl rfl (fun w hW=>(bD E rfl rfl)) fun a E=>aZ E rfl (wn rfl) rfl rfl (fun w hW=>(dK E rfl rfl rfl)) fun a E=>aZ E rfl (wn rfl) rfl rfl (fun w hW=>(dK E rfl rfl rfl)) fun a E=>cP rfl<|bC (i:=0) E H (wn rfl) rfl rfl rfl rfl rfl rfl Ju rfl (u9 H mm6 mm5 mm4 mm3 mm2 mm1 m0) fun w H=>nt<|?_
   refine ⟨⟨_,_,H,(aB mm2 (aB mm3 (aL))),(aN)⟩,?_⟩
   refine dA rfl<|pr 1 E rfl fun a E=>nt<|eV<|?_
   clear hI
   exact aD<|have H:=H.frs [4,1,2,3,4] rfl;X22 ⟨E.to rfl,H,(Y8 Y0),mm6,hm⟩
 ·clear E H hm
  rintro a w ⟨s,t,b4,b5,b6,b7,b8,b9,c0,C,u,S,T,D,U,f4,f5,f6,f7,f8,f9,X,E,H,d5,d6,hm⟩
  unfold tR at hm
  refine wp_seq<|wp_block<|aT (fun a w=>∃ d7 Y,Env 70 a [(0,pt m 0),(3,pt q 0),(4,pt l 0),(5,pt s 0),(6,.bool c0),(17,.bool d7)]∧Sep w (Blk m 82 [b2,b3,n,c1,z,A,o,.map (some e),p]::Blk q 43 (aS x20 M N O P)::Blk l 36 bO::Blk s 100 [.bool C,t,.int .i64 S,.int .i64 T,.bool D,.int .i64 U,b4,b5,b6,b7,b8,b9]::cC Tryz.prog 2 (kyI .i64) cW true e B::Fo) Y∧(∀ r,r ∈ rs→r ∈ Y)∧rSl cF t u ∈ Y∧pI d2 d3 Q R u d4 B C x20 D c0 d7=some r) ?_ ?_
  ·refine wp_region_lit<|pr 3 E rfl fun a E=>cs hm (fun x hm=>?_) fun x hm=>?_
   ·exact pk 1 E (kc 20 rfl x) rfl fun a E=>aQ E (ws' (d:=20) E rfl rfl rfl rfl x) rfl rfl (bT (i:=1) E H rfl rfl rfl rfl U4 rfl) fun a E=>pk 2 E (kc 20 rfl x) rfl fun a E=>nt<|⟨_,_,E.to rfl,H,d5,d6,hm⟩
   ·exact pk 4 E (kc 20 rfl x) rfl fun a E=>nt<|⟨_,_,E.to rfl,H,d5,d6,hm⟩
  ·clear E H hm
   rintro a w ⟨d7,Y,E,H,g,d8,hm⟩
   unfold pI at hm
   refine wif E hm rfl (fun hm=>?_) fun hm=>?_
   ·refine sq<|bd hm fun i6 g1 hm=>cJ E rfl rfl rfl rfl rfl xU (eS H g1)<|?_
    rintro _ w ⟨i7,i8,i9,j0,j1,j2,rfl,H⟩ a E
    refine bC (i:=2) E H (wn rfl) rfl rfl rfl rfl rfl rfl bV rfl (bF H m0 mm1 mm2 mm3 mm4 mm5) fun w H=>nt<|wp_ret<|bU<|aP<|eC E rfl (dH (i:=2) (us:=(bA i6 i7 i8 i9 j0 j1 j2)) H rfl rfl rfl U36 rfl bV)<|have H:=H.drs [1,1,1];?_
    cases hm
    exact X11 ⟨rfl,H.reads (aA m0 (aA mm1 (aA mm2 (aA mm3 (aA mm4 (aA mm5 (aA (t6 (g _ G)) (aA (t6 (g _ I)) (aA (t6 (g _ V)) (aA (t6 (g _ J)) (aA (t6 (g _ L)) (fun r hr=>(t6 (g r hr))))))))))))))⟩
   ·refine aT (fun a w=>∃ d9 Z,Env 70 a [(0,pt m 0),(3,pt q 0),(4,pt l 0),(5,pt s 0),(25,.bool d9)]∧Sep w (Blk m 82 [b2,b3,n,c1,z,A,o,.map (some e),p]::Blk q 43 (aS x20 M N O P)::Blk l 36 bO::Blk s 100 [.bool C,t,.int .i64 S,.int .i64 T,.bool D,.int .i64 U,b4,b5,b6,b7,b8,b9]::cC Tryz.prog 2 (kyI .i64) cW true e B::Fo) Z∧(∀ r,r ∈ rs→r ∈ Z)∧rSl cF t u ∈ Z∧pH d2 d3 Q R u d4 B C x20 D d9=some r) ?_ ?_
    ·refine wp_region_lit<|pr 3 E rfl fun a E=>cs hm (fun k hm=>?_) fun k hm=>?_
     ·exact pk 3 E (kc 28 rfl k) rfl fun a E=>aQ E (ws' (d:=28) E rfl rfl rfl rfl k) rfl rfl (bT (i:=0) E H rfl rfl rfl rfl U80 rfl) fun a E=>aQ E (ws' (d:=28) E rfl rfl rfl rfl k) rfl rfl (F2 (i:=4) E H rfl rfl rfl U80) fun a E=>pk 3 E (kc 28 rfl k) rfl fun a E=>nt<|⟨_,_,E.to rfl,H,g,d8,hm⟩
     ·exact pk 8 E (kc 28 rfl k) rfl fun a E=>nt<|⟨_,_,E.to rfl,H,g,d8,hm⟩
    ·clear E H hm
     rintro a w ⟨d9,Z,E,H,b,e0,hm⟩
     unfold pH at hm
     refine wif E hm rfl (fun hm=>?_) fun hm=>?_
     ·refine sq<|bd hm fun j3 g2 hm=>cJ E rfl rfl rfl rfl rfl xU (eS H g2)<|?_
      rintro _ w ⟨g3,g4,g5,g6,g7,g8,rfl,H⟩ a E
      refine bC (i:=2) E H (wn rfl) rfl rfl rfl rfl rfl rfl bV rfl (bF H m0 mm1 mm2 mm3 mm4 mm5) fun w H=>nt<|wp_ret<|bU<|aP<|eC E rfl (dH (i:=2) (us:=(bA j3 g3 g4 g5 g6 g7 g8)) H rfl rfl rfl U36 rfl bV)<|have H:=H.drs [1,1,1];?_
      cases hm
      exact X11 ⟨rfl,H.reads (aA m0 (aA mm1 (aA mm2 (aA mm3 (aA mm4 (aA mm5 (aA (t6 (b _ G)) (aA (t6 (b _ I)) (aA (t6 (b _ V)) (aA (t6 (b _ J)) (aA (t6 (b _ L)) (fun r hr=>(t6 (b r hr))))))))))))))⟩
     ·refine sq<|pr 1 E rfl fun a E=>lb E H 3 rfl rfl rfl rfl rfl rfl rfl U4 rfl fun a E=>pr 1 E rfl fun a E=>nt<|wif E hm rfl (fun hm=>?_) fun hm=>?_
      ·refine sq<|sv E rfl rfl rfl (cN E rfl (E.evs rfl) (v:=.agg bO.toArray) (by kernel_rfl)) fun a E=>bC (i:=2) E H (wn rfl) rfl rfl rfl rfl rfl rfl bV rfl rfl fun w H=>nt<|wp_ret<|bU<|aP<|eC E rfl (dH (i:=2) (us:=bO) H rfl rfl rfl U36 rfl bV)<|have H:=H.nilSl bE;?_
       refine have H:=H.nilSl aG;have H:=H.nilSl aK;have H:=H.nilSl aU;have H:=H.nilSl bN;have H:=H.nilSl (kI .i64);have H:=H.drs [1,1,1];?_
       cases hm
       exact X11 ⟨rfl,H.reads (aA mm5 (aA mm4 (aA mm3 (aA mm2 (aA mm1 (aA m0 (aA (t6 (b _ G)) (aA (t6 (b _ I)) (aA (t6 (b _ V)) (aA (t6 (b _ J)) (aA (t6 (b _ L)) (fun r hr=>(t6 (b r hr))))))))))))))⟩
      ·refine wp_skip<|bY<|aD<|wp_seq<|dw [(0,0),(1,0),(2,0),(3,0),(4,0),(5,0),(6,0),(7,2)] [0,1] [] H (by kernel_rfl) (fun _ _ _ h=>False.elim h.2) fun w W0 hI H=>fn 3 E rfl fun a E=>fb E rfl (wn rfl) rfl rfl rfl rfl m0 rfl U80 rfl fun a E=>fn 1 E rfl fun a E=>fb E rfl (wn rfl) rfl rfl rfl rfl mm1 rfl U2 rfl fun a E=>?_
       refine cB E rfl (wn rfl) rfl rfl (fun w hW=>(cN E rfl (E.evs rfl) (v:=.agg #[.bool true,.slice none 0 0,.int .i64 0,.int .i64 0,.bool false,.int .i64 0,.slice none 0 0,.slice none 0 0,.slice none 0 0,.slice none 0 0,.slice none 0 0,.slice none 0 0]) (by kernel_rfl))) fun a E=>?_
       refine bQ rfl<|bd hm fun b0 e1 hm=>C9 (i:=4) (K:=(kyI .i64)) (v:=(⟨true,[],(⟨0,0,false,0,[],(⟨[],[]⟩:aW),[],[],[]⟩:aE)⟩:bJ)) (cs:=[.bool true,.slice none 0 0,.int .i64 0,.int .i64 0,.bool false,.int .i64 0,.slice none 0 0,.slice none 0 0,.slice none 0 0,.slice none 0 0,.slice none 0 0,.slice none 0 0]) E H (wn rfl) rfl rfl rfl rfl rfl rfl (fD U2) U80 e1 (fun ok hr=>(D3 (Sl.nil _ _ _) (Sl.nil _ _ _) (Sl.nil _ _ _) (Sl.nil _ _ _) (Sl.nil _ _ _) (Sl.nil _ _ _) (Sl.nil _ _ _))) fun w H=>nt<|bR<|?_
       clear hI
       refine aD<|wp_seq<|dw [(0,0),(1,0),(2,0),(3,0),(4,0),(5,0),(6,0),(7,1),(8,2),(9,2),(10,2)] [0,1] [] H (by kernel_rfl) (fun _ _ _ h=>False.elim h.2) fun w W0 hI H=>fn 4 E rfl fun a E=>fb E rfl (wn rfl) rfl rfl rfl rfl m0 rfl U56 rfl fun a E=>fn 1 E rfl fun a E=>fb E rfl (wn rfl) rfl rfl rfl rfl mm1 rfl U2 rfl fun a E=>cE rfl<|bd hm fun j e2 hm=>?_
       refine cJ E rfl rfl rfl rfl rfl LV (Ll H (b _ V) e2)<|?_
       rintro _ w ⟨l3,rfl,H⟩ a E
       refine nt<|?_
       refine ⟨⟨_,_,H,(aB mm1 (aB mm2 (aL))),(aN)⟩,?_⟩
       refine bQ rfl<|pr 1 E rfl fun a E=>nt<|bQ rfl<|pr 1 E rfl fun a E=>nt<|bQ rfl<|?_
       obtain ⟨q111,b1,rfl⟩:=H.rowform (i:=0) rfl
       refine bC (i:=1) E H (wn rfl) rfl rfl rfl rfl rfl rfl EB rfl rfl fun w H=>nt<|bR<|?_
       clear hI
       refine aD<|aT (fun a w=>∃ c2 c3 c4 c5 c6 c7 c8 c9 f,Env 70 a [(4,pt l 0)]∧Sep w (Blk l 36 bO::Blk m 82 [c2,c3,n,(.slice q111 j.length b1),c4,c5,o,.map (some e),p]::cC Tryz.prog 2 (kyI .i64) cW true e b0::Row 89 bG (.slice q111 j.length b1) j::Fo) f∧(∀ r,r ∈ rs→r ∈ f)∧rSl aG c2 c6 ∈ f∧rSl aK c3 c7 ∈ f∧rSl aY c4 c8 ∈ f∧rSl aO c5 c9 ∈ f∧pF j b0 c6 c7 c8 c9=some r) ?_ ?_
       ·refine aT (fun a w=>∃ d0 F,Env 70 a [(0,pt m 0),(4,pt l 0),(5,pt s 0),(64,.bool d0)]∧Sep w (Blk m 82 [b2,b3,n,(.slice q111 j.length b1),z,A,o,.map (some e),p]::Blk l 36 bO::Blk s 100 [.bool C,t,.int .i64 S,.int .i64 T,.bool D,.int .i64 U,b4,b5,b6,b7,b8,b9]::cC Tryz.prog 2 (kyI .i64) cW true e b0::Row 89 bG (.slice q111 j.length b1) j::Fo) F∧(∀ r,r ∈ rs→r ∈ F)∧rSl cF t u ∈ F∧pG j b0 d2 d3 Q R u d0=some r) ?_ ?_
        ·refine wp_region_lit<|pr 1 E rfl fun a E=>lb E H 2 rfl rfl rfl rfl rfl rfl rfl U4 rfl fun a E=>pr 1 E rfl fun a E=>cs hm (fun y hm=>?_) fun y hm=>?_
         ·exact pk 2 E (kc 60 rfl y) rfl fun a E=>aQ E (ws' (d:=60) E rfl rfl rfl rfl y) rfl rfl (bT (i:=4) E H rfl rfl rfl rfl U4 rfl) fun a E=>pk 1 E (kc 60 rfl y) rfl fun a E=>nt<|have H:=H.drop 2;have H:=H.frs [0,4,4,4,4] rfl;⟨_,_,E.to rfl,H,b,e0,hm⟩
         ·exact pk 4 E (kc 60 rfl y) rfl fun a E=>nt<|have H:=H.drop 2;have H:=H.frs [0,4,4,4,4] rfl;⟨_,_,E.to rfl,H,b,e0,hm⟩
        ·clear E H hm
         rintro a w ⟨d0,F,E,H,c,e3,hm⟩
         unfold pG at hm
         refine wif E hm rfl (fun hm=>?_) fun hm=>?_
         ·refine wp_region_lit<|pr 2 E rfl fun a E=>lb E H 2 rfl rfl rfl rfl rfl rfl rfl U40 rfl fun a E=>bd hm fun l4 e4 hm=>cJ E rfl rfl rfl rfl rfl DM (I7 H (c _ G) (c _ I) (c _ J) (c _ L) e3 (c _ g0) e4)<|?_
          rintro _ w ⟨l5,l6,l7,l8,l9,m1,m2,m3,m4,m5,rfl,H⟩ a E
          exact nt<|have H:=H.drop 2;have H:=H.frs [3,3,2,3] rfl;X9 ⟨E.to rfl,H,(Y2 (Y8 c)),mm6,(t1 mm6),(t2 mm6),(t3 mm6),hm⟩
         ·exact wp_skip<|aD<|have H:=H.drop 2;have H:=H.frs [3,3,2,3] rfl;X9 ⟨E.to rfl,H,c,(c _ G),(c _ I),(c _ J),(c _ L),hm⟩
       ·clear E H hm
        rintro a w ⟨c2,c3,c4,c5,c6,c7,c8,c9,f,E,H,e5,e6,e7,e8,e9,hm⟩
        unfold pF at hm
        refine sq<|sv E rfl rfl rfl (cN E rfl (E.evs rfl) (v:=.agg bO.toArray) (by kernel_rfl)) fun a E=>bC (i:=0) E H (wn rfl) rfl rfl rfl rfl rfl rfl bV rfl rfl fun w H=>nt<|wp_ret<|eC E rfl (dH (i:=0) (us:=bO) H rfl rfl rfl U36 rfl bV)<|have H:=H.nilSl bE;have H:=H.nilSl aG;have H:=H.nilSl aK;?_
        refine have H:=H.nilSl aU;have H:=H.nilSl bN;have H:=H.nilSl (kI .i64);have H:=H.thaw (i:=3) rfl;have H:=H.drop 0;?_
        cases hm
        exact X11 ⟨rfl,H.reads (aA mm6 (aA mm5 (aA mm4 (aA mm3 (aA mm2 (aA mm1 (aA (t7 e6) (aA (t7 e7) (aA m0 (aA (t7 e8) (aA (t7 e9) (fun r hr=>(t7 (e5 r hr))))))))))))))⟩

def vE(c:List aH)(e:Int)(f:ByteArray)(g:Bool):Option ((List aH)×Bool):=
  if g=true then (some ([],false)) else ((idx c e).bind fun d=>(u7 c (⟨f,d.Epoch,2⟩:aH)).bind fun b=>some (b.1,b.2))
def D4(b:List aH)(d:ByteArray):Option ((List aH)×Bool):=
  (qL b d).bind fun c=>if (decide (c < 0))=true then (vE b c d true) else ((idx b c).bind fun e=>vE b c d (e.State != 1))
theorem Hf{j:Value}{k:List aH}{f:ByteArray}(H:Sep w (Fo) rs)(c:rSl aR j k ∈ rs){r:(List aH)×Bool}(hm:D4 k f=some r) :
    Calls Tryz.prog 44 [j,.string f].toArray w (Ret fun v w'=>∃ p,.tuple #[p,.bool r.2]=v∧Sep w' (Row 60 aR p r.1::Fo) (rs)):=by
 unfold D4 at hm
 refine ent Tryz.func44 rfl Tryz.ntmps44 rfl rfl fun a E=>sq<|pr 2 E rfl fun a E=>nx<|pr 2 E rfl fun a E=>bd hm fun q s hm=>xk E rfl rfl rfl rfl rfl Ef (wL H c s) fun w H a E=>pr 1 E rfl fun a E=>nt<|?_
 refine wp_seq<|aT (fun a w=>∃ l g,Env 31 a [(0,j),(1,.string f),(6,.int .i64 q),(19,.bool l)]∧Sep w (Fo) g∧(∀ r,r ∈ rs→r ∈ g)∧vE k q f l=some r) ?_ ?_
 ·refine wp_region_lit<|pr 3 E rfl fun a E=>cs hm (fun b hm=>?_) fun b hm=>?_
  ·exact pk 7 E (kc 12 rfl b) rfl fun a E=>nt<|⟨_,_,E.to rfl,H,Y0,hm⟩
  ·exact pk 2 E (kc 12 rfl b) rfl fun a E=>bd hm fun t m hm=>dF E H (ws' (d:=12) E rfl rfl rfl rfl b) rfl rfl rfl rfl rfl c U54 iU m fun q19 a H E=>have H:=H.derive1 m0 (rAt (kI .i64) (q19.add 2) t.State) (fun ok h=>A6 h);pk 1 E (kc 12 rfl b) rfl fun a E=>aQ E (ws' (d:=12) E rfl rfl rfl rfl b) rfl rfl (nB E H rfl rfl m0 U3 rfl) fun a E=>pk 2 E (kc 12 rfl b) rfl fun a E=>nt<|⟨_,_,E.to rfl,H,(Y2 Y0),hm⟩
 ·clear E H hm
  rintro a w ⟨l,g,E,H,e,hm⟩
  unfold vE at hm
  refine wif E hm rfl (fun hm=>?_) fun hm=>?_
  ·refine sq<|pr 2 E rfl fun a E=>nt<|wp_ret<|aP<|iE E rfl rfl rfl<|have H:=H.nilRow 60 aR;?_
   cases hm
   exact ⟨_,rfl,H.reads e⟩
  ·refine wp_skip<|aD<|sq<|pr 4 E rfl fun a E=>bd hm fun i n hm=>dF E H (wn rfl) rfl rfl rfl rfl rfl (e _ c) U54 iU n fun q12 a H E=>have H:=H.derive1 m0 (rAt (kI .i64) (q12.add 1) i.Epoch) (fun ok h=>A5 h);pr 1 E rfl fun a E=>sv E rfl rfl rfl (nB E H rfl rfl m0 U2 rfl) fun a E=>?_
   refine sv E rfl rfl rfl (cN E rfl (E.evs rfl) (v:=.agg #[.string f,.int .i64 i.Epoch,.int .i64 2]) (by kernel_rfl)) fun a E=>bd hm fun u o hm=>cJ E rfl rfl rfl rfl rfl Qe (P6 (x3:=(⟨f,i.Epoch,2⟩:aH)) H (t2 (e _ c)) o)<|?_
   rintro _ w ⟨x,rfl,H⟩ a E
   refine pr 4 E rfl fun a E=>nt<|wp_ret<|iE E rfl rfl rfl<|?_
   cases hm
   exact ⟨_,rfl,H.reads (Y2 e)⟩

def wQ(x1:aH)(b:ByteArray):Option Bool:=
  some (sEq x1.Prefix b)
theorem U8{x1:aH}{b:Nat}{c:ByteArray}(H:Sep w (Blk b 9 [.string c]::Fo) rs){r:Bool}(hm:wQ x1 c=some r) :
    Calls Tryz.prog 109 [.agg (mT x1).toArray,pt b 0].toArray w (Ret fun v w'=>.bool r=v∧Sep w' (Blk b 9 [.string c]::Fo) (rs)):=by
 unfold wQ at hm
 refine ent Tryz.func109 rfl Tryz.ntmps109 rfl rfl fun a E=>sq<|bS E H (wn rfl) rfl rfl rfl rfl rfl fun d w a H E=>pr 1 E rfl fun a E=>nx<|pr 1 E rfl fun a E=>lb E H 0 rfl rfl rfl rfl rfl rfl rfl U9 rfl fun a E=>lb E H 1 rfl rfl rfl rfl rfl rfl rfl U9 rfl fun a E=>pr 2 E rfl fun a E=>?_
 refine nt<|wp_ret<|bB E rfl rfl<|have H:=H.drop 0;?_
 cases hm
 exact ⟨rfl,H.reads Y0⟩

def gG(c:List aH)(d:ByteArray):Nat→Int→Option Int
  | 0,_=>none
  | f+1,b=>
    if (decide (b < (c.length:Int)))=true then ((idx c b).bind fun g=>(wQ g d).bind fun e=>if e=true then (some (b)) else (gG c d f (IntKind.i64.wrap (b+1)))) else (some ((-1)))
def kD(b:List aH)(c:ByteArray):Option Int:=
  gG b c (((b.length:Int) - 0:Int).toNat+1) 0
theorem yD{j:Value}{d:List aH}{e:Nat}{f:ByteArray}(H:Sep w (Blk e 9 [.string f]::Fo) rs)(i:rSl aR j d ∈ rs){r:Int}(hm:kD d f=some r) :
    Calls Tryz.prog 108 [j,.func (.func 109) #[] #[pt e 0]].toArray w (Ret fun v w'=>.int .i64 r=v∧Sep w' (Blk e 9 [.string f]::Fo) (rs)):=by
 unfold kD at hm
 refine ent Tryz.func108 rfl Tryz.ntmps108 rfl rfl fun a E=>sq<|pr 1 E rfl fun a E=>nt<|wp_seq<|sq<|pr 1 E rfl fun a E=>sv E rfl rfl rfl (dB E H rfl rfl i U54) fun a E=>pr 1 E rfl fun a E=>?_
 refine nt<|wp_block<|cA (fun c a w=>∃ k g,Env 19 a [(0,j),(1,.func (.func 109) #[] #[pt e 0]),(7,.int .i64 (d.length:Int)),(8,.int .i64 k)]∧Sep w (Blk e 9 [.string f]::Fo) g∧(∀ r,r ∈ rs→r ∈ g)∧gG d f c k=some r) (((d.length:Int) - 0:Int).toNat+1) ?_ ?_
 ·exact ⟨_,_,E.to rfl,H,Y0,hm⟩
 ·clear E H hm
  rintro c a w ⟨k,g,E,H,b,hm⟩
  cases c with
  | zero=>exact (bW hm rfl).elim
  | succ c=>
   unfold gG at hm
   refine sq<|pr 1 E rfl fun a E=>nt<|wp_seq<|wif E hm rfl (fun hm=>?_) fun hm=>?_
   ·refine wp_skip<|aD<|wp_seq<|wp_block<|sq<|pr 2 E rfl fun a E=>nx<|pr 3 E rfl fun a E=>bd hm fun o l hm=>?_
    refine dF E H (wn rfl) rfl rfl rfl rfl rfl (b _ i) U54 iU l fun q11 a H E=>ldf jL E H rfl rfl rfl rfl rfl m0 U60 rfl iU fun a E=>bd hm fun n m hm=>aX E (wn rfl) rfl rfl (bP E rfl rfl rfl (JF _)) (U8 H m)<|?_
    rintro _ w ⟨rfl,H⟩ a E
    refine nt<|wif E hm rfl (fun hm=>?_) fun hm=>?_
    ·refine sq<|pr 2 E rfl fun a E=>nt<|wp_ret<|bU<|aP<|aP<|bU<|aP<|?_
     refine bB E rfl rfl<|?_
     cases hm
     exact ⟨rfl,H.reads (Y1 b)⟩
    ·exact wp_skip<|bY<|aD<|wp_region_lit<|pr 2 E rfl fun a E=>nt<|⟨c,Nat.lt_succ_self c,_,_,E.to rfl,H,(Y1 b),hm⟩
   ·refine wp_exit<|bH<|bH<|dZ<|aD<|sq<|pr 1 E rfl fun a E=>nt<|wp_ret<|?_
    refine bB E rfl rfl<|?_
    cases hm
    exact ⟨rfl,H.reads b⟩

def qX(c:List aH)(d:ByteArray):Option (aH×Bool):=
  (kD c d).bind fun b=>if (decide (b < 0))=true then (some ((⟨(ByteArray.mk #[]),0,0⟩:aH),false)) else ((idx c b).bind fun e=>some (e,true))
theorem zI{n:Nat}{o c d e f g j k l:Value}{s:List aH}{m:ByteArray}(H:Sep w (Blk n 82 [c,d,o,e,f,g,j,k,l]::Fo) rs)(b:rSl aR o s ∈ rs){r:aH×Bool}(hm:qX s m=some r) :
    Calls Tryz.prog 43 [pt n 0,.string m].toArray w (Ret fun v w'=>.tuple #[.agg (mT r.1).toArray,.bool r.2]=v∧Sep w' (Blk n 82 [c,d,o,e,f,g,j,k,l]::Fo) (rs)):=by
 unfold qX at hm
 refine ent Tryz.func43 rfl Tryz.ntmps43 rfl rfl fun a E=>sq<|bS E H (wn rfl) rfl rfl rfl rfl rfl fun u w a H E=>al E H rfl rfl rfl rfl Gx fun x w a H E=>pr 1 E rfl fun a E=>nx<|pr 3 E rfl fun a E=>lb E H 2 rfl rfl rfl rfl rfl rfl rfl U54 rfl fun a E=>sv E rfl rfl rfl (kH E rfl rfl rfl) fun a E=>?_
 refine have H:=H.frs [2,1,2] rfl;bd hm fun y p hm=>xk E rfl rfl rfl rfl rfl JE (yD H b p) fun w H a E=>pr 1 E rfl fun a E=>nt<|wp_seq<|sq<|pr 2 E rfl fun a E=>nt<|wif E hm rfl (fun hm=>?_) fun hm=>?_
 ·refine sq<|sv E rfl rfl rfl (cN E rfl (E.evs rfl) (v:=.agg Mt.toArray) (by kernel_rfl)) fun a E=>bC (i:=1) E H (wn rfl) rfl rfl rfl rfl rfl rfl iU rfl rfl fun w H=>pr 1 E rfl fun a E=>nt<|wp_ret<|aP<|uX E rfl (dH (i:=1) (us:=Mt) H rfl rfl rfl U60 rfl iU) (rvT rfl)<|have H:=H.drs [0,0];?_
  cases hm
  exact ⟨rfl,H.reads Y0⟩
 ·refine wp_skip<|aD<|sq<|pr 3 E rfl fun a E=>lb E H 2 rfl rfl rfl rfl rfl rfl rfl U54 rfl fun a E=>pr 1 E rfl fun a E=>bd hm fun t q hm=>dF E H (wn rfl) rfl rfl rfl rfl rfl b U54 iU q fun q36 a H E=>ldf jL E H rfl rfl rfl rfl rfl m0 U60 rfl iU fun a E=>?_
  refine bC (i:=1) E H (wn rfl) rfl rfl rfl rfl rfl rfl iU rfl rfl fun w H=>pr 1 E rfl fun a E=>nt<|wp_ret<|uX E rfl (dH (i:=1) (us:=(mT t)) H rfl rfl rfl U60 rfl iU) (rvT rfl)<|have H:=H.drs [0,0];?_
  cases hm
  exact ⟨rfl,H.reads (Y1 Y0)⟩

def wR(x1:aM)(b:List aH)(e:ByteArray):Option Bool:=
  (qL b x1.Dir).bind fun c=>if (decide (c ≥ 0))=true then ((idx b c).bind fun d=>some (sEq d.Prefix e)) else (some (false))
theorem V1{x1:aM}{e f:Nat}{g:Value}{p:List aH}{i:ByteArray}(H:Sep w (Blk e 54 [g]::Blk f 9 [.string i]::Fo) rs)(c:rSl aR g p ∈ rs){r:Bool}(hm:wR x1 p i=some r) :
    Calls Tryz.prog 111 [.agg (qF x1).toArray,pt e 0,pt f 0].toArray w (Ret fun v w'=>.bool r=v∧Sep w' (Blk e 54 [g]::Blk f 9 [.string i]::Fo) (rs)):=by
 unfold wR at hm
 refine ent Tryz.func111 rfl Tryz.ntmps111 rfl rfl fun a E=>sq<|bS E H (wn rfl) rfl rfl rfl rfl rfl fun u w a H E=>pr 1 E rfl fun a E=>nx<|lb E H 1 rfl rfl rfl rfl rfl rfl rfl U54 rfl fun a E=>pr 1 E rfl fun a E=>lb E H 0 rfl rfl rfl rfl rfl rfl rfl U9 rfl fun a E=>bd hm fun x j hm=>?_
 refine xk E rfl rfl rfl rfl rfl Ef (wL H c j) fun w H a E=>pr 1 E rfl fun a E=>nt<|wp_seq<|?_
 obtain ⟨q,H⟩:=H.raw c
 refine dw [(0,0),(1,0),(2,0),(3,0),(4,0),(5,0),(6,0),(7,0),(8,0),(9,0),(10,0),(11,2)] [1,2] [0] H (by kernel_rfl) (fun _ _ _ h=>False.elim h.2) fun w W0 hI H=>fn 3 E rfl fun a E=>cs hm (fun b hm=>?_) fun b hm=>?_
 ·refine fb E rfl (ws' (d:=12) E rfl rfl rfl rfl b) rfl rfl rfl rfl m0 rfl U54 rfl fun a E=>fk 1 E (kc 12 rfl b) rfl fun a E=>bd hm fun s l hm=>?_
  obtain ⟨q15,t,m,n⟩:=sW (P:=Tryz.prog) (k:=.i64) hI (sV (.head _)) U54 iU l
  refine cB E rfl (ws' (d:=12) E rfl rfl rfl rfl b) rfl rfl (fun w hW=>wF E rfl rfl rfl (m w)) fun a E=>?_
  have o:=yX n (fun _ _ _ h=>rB h)
  refine fk 1 E (kc 12 rfl b) rfl fun a E=>fa E rfl (ws' (d:=12) E rfl rfl rfl rfl b) rfl rfl rfl rfl o U9 rfl fun a E=>fb E rfl (ws' (d:=12) E rfl rfl rfl rfl b) rfl rfl rfl rfl mm1 rfl U9 rfl fun a E=>fk 2 E (kc 12 rfl b) rfl fun a E=>bQ rfl<|pr 1 E rfl fun a E=>nt<|bR<|?_
  clear hI
  refine aD<|wp_ret<|bB E rfl rfl<|have H:=H.drop 0;?_
  cases hm
  exact ⟨rfl,H.reads (Y1 Y0)⟩
 ·refine fk 8 E (kc 12 rfl b) rfl fun a E=>bQ rfl<|pr 1 E rfl fun a E=>nt<|bR<|?_
  clear hI
  refine aD<|wp_ret<|bB E rfl rfl<|have H:=H.drop 0;?_
  cases hm
  exact ⟨rfl,H.reads (Y1 Y0)⟩

def gH(c:List aM)(d:List aH)(e:ByteArray):Nat→Int→Option Int
  | 0,_=>none
  | i+1,b=>
    if (decide (b < (c.length:Int)))=true then ((idx c b).bind fun f=>(wR f d e).bind fun g=>if g=true then (some (b)) else (gH c d e i (IntKind.i64.wrap (b+1)))) else (some ((-1)))
def kE(b:List aM)(c:List aH)(d:ByteArray):Option Int:=
  gH b c d (((b.length:Int) - 0:Int).toNat+1) 0
theorem yE{m k:Value}{e:List aM}{f g:Nat}{n:List aH}{i:ByteArray}(H:Sep w (Blk f 54 [k]::Blk g 9 [.string i]::Fo) rs)(l:rSl bG m e ∈ rs)(q:rSl aR k n ∈ rs){r:Int}(hm:kE e n i=some r) :
    Calls Tryz.prog 87 [m,.func (.func 111) #[] #[pt f 0,pt g 0]].toArray w (Ret fun v w'=>.int .i64 r=v∧Sep w' (Blk f 54 [k]::Blk g 9 [.string i]::Fo) (rs)):=by
 unfold kE at hm
 refine ent Tryz.func87 rfl Tryz.ntmps87 rfl rfl fun a E=>sq<|pr 1 E rfl fun a E=>nt<|wp_seq<|sq<|pr 1 E rfl fun a E=>sv E rfl rfl rfl (dB E H rfl rfl l U56) fun a E=>pr 1 E rfl fun a E=>?_
 refine nt<|wp_block<|cA (fun d a w=>∃ j c,Env 19 a [(0,m),(1,.func (.func 111) #[] #[pt f 0,pt g 0]),(7,.int .i64 (e.length:Int)),(8,.int .i64 j)]∧Sep w (Blk f 54 [k]::Blk g 9 [.string i]::Fo) c∧(∀ r,r ∈ rs→r ∈ c)∧gH e n i d j=some r) (((e.length:Int) - 0:Int).toNat+1) ?_ ?_
 ·exact ⟨_,_,E.to rfl,H,Y0,hm⟩
 ·clear E H hm
  rintro d a w ⟨j,c,E,H,b,hm⟩
  cases d with
  | zero=>exact (bW hm rfl).elim
  | succ d=>
   unfold gH at hm
   refine sq<|pr 1 E rfl fun a E=>nt<|wp_seq<|wif E hm rfl (fun hm=>?_) fun hm=>?_
   ·refine wp_skip<|aD<|wp_seq<|wp_block<|sq<|pr 2 E rfl fun a E=>nx<|pr 3 E rfl fun a E=>bd hm fun s o hm=>?_
    refine dF E H (wn rfl) rfl rfl rfl rfl rfl (b _ l) U56 mU o fun q15 a H E=>ldf fN E H rfl rfl rfl rfl rfl m0 U89 rfl mU fun a E=>bd hm fun t p hm=>aX E (wn rfl) rfl rfl (bP E rfl rfl rfl (JG _)) (V1 H (t1 (b _ q)) p)<|?_
    rintro _ w ⟨rfl,H⟩ a E
    refine nt<|wif E hm rfl (fun hm=>?_) fun hm=>?_
    ·refine sq<|pr 2 E rfl fun a E=>nt<|wp_ret<|bU<|aP<|aP<|bU<|aP<|?_
     refine bB E rfl rfl<|?_
     cases hm
     exact ⟨rfl,H.reads (Y1 b)⟩
    ·exact wp_skip<|bY<|aD<|wp_region_lit<|pr 2 E rfl fun a E=>nt<|⟨d,Nat.lt_succ_self d,_,_,E.to rfl,H,(Y1 b),hm⟩
   ·refine wp_exit<|bH<|bH<|dZ<|aD<|sq<|pr 1 E rfl fun a E=>nt<|wp_ret<|?_
    refine bB E rfl rfl<|?_
    cases hm
    exact ⟨rfl,H.reads b⟩

def jU(c:List aM)(d:List aH)(e:ByteArray):Option Bool:=
  (kE c d e).bind fun b=>some (decide (b ≥ 0))
theorem xJ{g b:Value}{i:List aM}{c d:Nat}{j:List aH}{e:ByteArray}(H:Sep w (Blk c 54 [b]::Blk d 9 [.string e]::Fo) rs)(k:rSl bG g i ∈ rs)(l:rSl aR b j ∈ rs){r:Bool}(hm:jU i j e=some r) :
    Calls Tryz.prog 94 [g,.func (.func 111) #[] #[pt c 0,pt d 0]].toArray w (Ret fun v w'=>.bool r=v∧Sep w' (Blk c 54 [b]::Blk d 9 [.string e]::Fo) (rs)):=by
 unfold jU at hm
 refine ent Tryz.func94 rfl Tryz.ntmps94 rfl rfl fun a E=>sq<|pr 1 E rfl fun a E=>nx<|pr 2 E rfl fun a E=>bd hm fun m f hm=>xk E rfl rfl rfl rfl rfl Lf (yE H k l f) fun w H a E=>pr 2 E rfl fun a E=>nt<|?_
 refine wp_ret<|bB E rfl rfl<|?_
 cases hm
 exact ⟨rfl,H.reads Y0⟩

def uK(e:List aM)(b:List aH)(c:ByteArray):Option Bool:=
  (jU e b c).bind fun d=>some (d)
theorem F7{o:Nat}{p c d e f g i j k l:Value}{t:List aM}{m:List aH}{n:ByteArray}(H:Sep w (Blk o 82 [d,e,f,p,g,i,j,k,l]::Fo) rs)(q:rSl bG p t ∈ rs)(b:rSl aR c m ∈ rs){r:Bool}(hm:uK t m n=some r) :
    Calls Tryz.prog 46 [pt o 0,c,.string n].toArray w (Ret fun v w'=>.bool r=v∧Sep w' (Blk o 82 [d,e,f,p,g,i,j,k,l]::Fo) (rs)):=by
 unfold uK at hm
 refine ent Tryz.func46 rfl Tryz.ntmps46 rfl rfl fun a E=>sq<|?_
 obtain ⟨q34,u,rfl⟩:=H.slform b
 refine bS E H (wn rfl) rfl rfl rfl rfl rfl fun x w a H E=>bS E H (wn rfl) rfl rfl rfl rfl rfl fun y w a H E=>pr 1 E rfl fun a E=>nx<|pr 3 E rfl fun a E=>lb E H 2 rfl rfl rfl rfl rfl rfl rfl U56 rfl fun a E=>sv E rfl rfl rfl (kH E rfl rfl rfl) fun a E=>have H:=H.frs [2,1,2] rfl;bd hm fun z s hm=>?_
 refine xk E rfl rfl rfl rfl rfl Vj (xJ H q b s) fun w H a E=>pr 1 E rfl fun a E=>nt<|wp_ret<|bB E rfl rfl<|have H:=H.drs [0,0];?_
 cases hm
 exact ⟨rfl,H.reads Y0⟩

def tS(b:aH×Bool)(c:(List aH))(d:(List aF))(e:(List aI)):Option (aE×(List aH)):=
  some ((⟨0,0,false,b.1.Epoch,[],(⟨d,e⟩:aW),[],[],[]⟩:aE),c)
def pJ(x20:aV)(e:List aF)(f:List aI)(b:(List aH)):Option (aE×(List aH)):=
  (qX b x20.Prefix).bind fun d=>(xR (⟨e,f⟩:aW) b x20.Prefix).bind fun c=>tS d b c.1 c.2.1
def pK(x20:aV)(l:List aF)(m:List aI)(c:List aH)(n:List aM)(d:Bool):Option (aE×(List aH)):=
  if d=true then ((D4 c x20.Prefix).bind fun b=>if (!b.2)=true then ((eH 132).bind fun e=>some (e,c)) else ((qL b.1 x20.Prefix).bind fun f=>(idx b.1 f).bind fun g=>if (g.Epoch != x20.Epoch)=true then ((eH 133).bind fun i=>some (i,c)) else ((uK n b.1 x20.Prefix).bind fun j=>if j=true then ((eH 131).bind fun k=>some (k,c)) else (pJ x20 l m b.1)))) else (pJ x20 l m c)
def wS(d:List aF)(e:List aI)(c:List aH)(f:List aM)(x20:aV):Option (aE×(List aH)):=
  (qX c x20.Prefix).bind fun b=>if (b.1.State != 2)=true then (pK x20 d e c f true) else (pK x20 d e c f (b.1.Epoch != x20.Epoch))
theorem V2{j:Nat}{z A c1 I J K L M l m n o p:Value}{B:List aF}{C:List aI}{c2:List aH}{c3:List aM}{x20:aV}(H:Sep w (Blk j 82 [z,A,c1,I,l,m,n,o,p]::Fo) rs)(q:rSl aG z B ∈ rs)(s:rSl aK A C ∈ rs)(g:rSl aR c1 c2 ∈ rs)(c4:rSl bG I c3 ∈ rs){r:aE×(List aH)}(hm:wS B C c2 c3 x20=some r) :
    Calls Tryz.prog 17 [pt j 0,.agg (aS x20 J K L M).toArray].toArray w (Ret fun v w'=>∃ e9 f0 f1 f2 f3 f4 f5,.agg (bA r.1 e9 f0 f1 f2 f3 f4).toArray=v∧Sep w' (Blk j 82 [z,A,f5,I,l,m,n,o,p]::Fo) (rSl bE e9 r.1.Results::rSl aG f0 r.1.Store.Nodes::rSl aK f1 r.1.Store.Turns::rSl aU f2 r.1.Events::rSl bN f3 r.1.Mounts::rSl (kI .i64) f4 r.1.Wounded::rSl aR f5 r.2::rs)):=by
 unfold wS at hm
 refine ent Tryz.func17 rfl Tryz.ntmps17 rfl rfl fun a E=>sq<|bS E H (wn rfl) rfl rfl rfl rfl rfl fun t w a H E=>al E H rfl rfl rfl rfl iO fun y w a H E=>nt<|aT (fun a w=>∃ u N D,Env 90 a [(0,pt j 0),(3,pt t 0),(4,pt y 0)]∧Sep w (Blk j 82 [z,A,u,I,l,m,n,o,p]::Blk t 43 (aS x20 J K L M)::Blk y 36 bO::Fo) D∧(∀ r,r ∈ rs→r ∈ D)∧rSl aR u N ∈ D∧pJ x20 B C N=some r) ?_ ?_
 ·refine sq<|pr 2 E rfl fun a E=>lb E H 1 rfl rfl rfl rfl rfl rfl rfl U9 rfl fun a E=>have H:=H.frs [1,1,2] rfl;bd hm fun f6 X hm=>xk E rfl rfl rfl rfl rfl Vi (zI H g X) fun w H a E=>pr 3 E rfl fun a E=>al E H rfl rfl rfl rfl Gx fun f7 w a H E=>bC (i:=0) E H (wn rfl) rfl rfl rfl rfl rfl rfl iU rfl rfl fun w H=>?_
  refine pr 1 E rfl fun a E=>nt<|aT (fun a w=>∃ R F,Env 90 a [(0,pt j 0),(3,pt t 0),(4,pt y 0),(29,.bool R)]∧Sep w (Blk j 82 [z,A,c1,I,l,m,n,o,p]::Blk t 43 (aS x20 J K L M)::Blk y 36 bO::Fo) F∧(∀ r,r ∈ rs→r ∈ F)∧pK x20 B C c2 c3 R=some r) ?_ ?_
  ·refine wp_region_lit<|pr 1 E rfl fun a E=>lb E H 0 rfl rfl rfl rfl rfl rfl rfl U3 rfl fun a E=>pr 2 E rfl fun a E=>cs hm (fun f hm=>?_) fun f hm=>?_
   ·exact pk 6 E (kc 23 rfl f) rfl fun a E=>nt<|have H:=H.drop 0;have H:=H.frs [1,2,2] rfl;⟨_,_,E.to rfl,H,Y0,hm⟩
   ·exact pk 1 E (kc 23 rfl f) rfl fun a E=>aQ E (ws' (d:=23) E rfl rfl rfl rfl f) rfl rfl (bT (i:=0) E H rfl rfl rfl rfl U2 rfl) fun a E=>pk 1 E (kc 23 rfl f) rfl fun a E=>aQ E (ws' (d:=23) E rfl rfl rfl rfl f) rfl rfl (bT (i:=3) E H rfl rfl rfl rfl U2 rfl) fun a E=>pk 2 E (kc 23 rfl f) rfl fun a E=>nt<|have H:=H.drop 0;have H:=H.frs [1,2,2] rfl;⟨_,_,E.to rfl,H,Y0,hm⟩
  ·clear E H hm
   rintro a w ⟨R,F,E,H,c,hm⟩
   unfold pK at hm
   refine wif E hm rfl (fun hm=>?_) fun hm=>?_
   ·refine wp_seq<|dw [(0,0),(1,0),(2,0),(3,0),(4,0),(5,0),(6,1),(7,0),(8,0),(9,0),(10,1),(11,2)] [0,1] [] H (by kernel_rfl) (fun _ _ _ h=>False.elim h.2) fun w W0 hI H=>fn 3 E rfl fun a E=>fb E rfl (wn rfl) rfl rfl rfl rfl m0 rfl U54 rfl fun a E=>fn 1 E rfl fun a E=>fb E rfl (wn rfl) rfl rfl rfl rfl mm1 rfl U9 rfl fun a E=>cE rfl<|bd hm fun f8 Y hm=>cJ E rfl rfl rfl rfl rfl LS (Hf H (c _ g) Y)<|?_
    rintro _ w ⟨f9,rfl,H⟩ a E
    refine nt<|?_
    refine ⟨⟨_,_,H,(aB mm1 (aB mm2 (aL))),(aN)⟩,?_⟩
    refine fn 3 E rfl fun a E=>cE rfl<|pr 1 E rfl fun a E=>nt<|?_
    refine ⟨⟨_,_,H,(aB mm1 (aB mm2 (aL))),(aN)⟩,?_⟩
    refine bQ rfl<|pr 1 E rfl fun a E=>nt<|bR<|?_
    clear hI
    refine aD<|wp_seq<|sq<|pr 2 E rfl fun a E=>nt<|wif E hm rfl (fun hm=>?_) fun hm=>?_
    ·refine sq<|bd hm fun c5 Z hm=>cJ E rfl rfl rfl rfl rfl xU (eS H Z)<|?_
     rintro _ w ⟨c6,c7,c8,c9,d0,d1,rfl,H⟩ a E
     refine bC (i:=3) E H (wn rfl) rfl rfl rfl rfl rfl rfl bV rfl (bF H m0 mm1 mm2 mm3 mm4 mm5) fun w H=>nt<|wp_ret<|aP<|aP<|eC E rfl (dH (i:=3) (us:=(bA c5 c6 c7 c8 c9 d0 d1)) H rfl rfl rfl U36 rfl bV)<|have H:=H.drs [0,1,1];?_
     cases hm
     exact X7 ⟨rfl,H.reads (aA m0 (aA mm1 (aA mm2 (aA mm3 (aA mm4 (aA mm5 (aA (t6 (c _ g)) (fun r hr=>(t6 (c r hr))))))))))⟩
    ·refine wp_skip<|aD<|wp_seq<|wp_seq<|have H:=H.thaw (i:=0) rfl;?_
     obtain ⟨g0,H⟩:=H.raw m0
     refine dw [(0,0),(1,0),(2,0),(3,0),(8,0),(9,0),(4,1),(5,0),(6,0),(7,0),(10,0)] [1] [0] H (by kernel_rfl) (fun _ _ _ h=>False.elim h.2) fun w W0 hI H=>fn 3 E rfl fun a E=>fb E rfl (wn rfl) rfl rfl rfl rfl m0 rfl U9 rfl fun a E=>fn 1 E rfl fun a E=>fb E rfl (wn rfl) rfl rfl rfl rfl m0 rfl U2 rfl fun a E=>cE rfl<|bd hm fun g1 b0 hm=>xk E rfl rfl rfl rfl rfl Ef (wL H mm1 b0) fun w H a E=>nt<|?_
     refine ⟨⟨_,_,H,(aB mm1 (aL)),(aA m0 (aN))⟩,?_⟩
     refine bd hm fun g2 b1 hm=>?_
     obtain ⟨q258,g3,b2,b3⟩:=sW (P:=Tryz.prog) (k:=.i64) hI (sV (.head _)) U54 iU b1
     refine cB E rfl (wn rfl) rfl rfl (fun w hW=>wF E rfl rfl rfl (b2 w)) fun a E=>?_
     have b4:=yX b3 (fun _ _ _ h=>Fp h)
     refine fn 1 E rfl fun a E=>fa E rfl (wn rfl) rfl rfl rfl rfl b4 U2 rfl fun a E=>fn 1 E rfl fun a E=>bR<|?_
     clear hI
     refine aD<|wif E hm rfl (fun hm=>?_) fun hm=>?_
     ·refine sq<|bd hm fun d2 b5 hm=>cJ E rfl rfl rfl rfl rfl xU (eS H b5)<|?_
      rintro _ w ⟨d3,d4,d5,d6,d7,d8,rfl,H⟩ a E
      refine bC (i:=2) E H (wn rfl) rfl rfl rfl rfl rfl rfl bV rfl (bF H m0 mm1 mm2 mm3 mm4 mm5) fun w H=>nt<|wp_ret<|aP<|aP<|eC E rfl (dH (i:=2) (us:=(bA d2 d3 d4 d5 d6 d7 d8)) H rfl rfl rfl U36 rfl bV)<|have H:=H.drs [1,1];?_
      cases hm
      exact X7 ⟨rfl,H.reads (aA m0 (aA mm1 (aA mm2 (aA mm3 (aA mm4 (aA mm5 (aA (t8 (c _ g)) (fun r hr=>(t8 (c r hr))))))))))⟩
     ·refine wp_skip<|aD<|wp_seq<|sq<|pr 3 E rfl fun a E=>lb E H 1 rfl rfl rfl rfl rfl rfl rfl U9 rfl fun a E=>bd hm fun g4 b6 hm=>xk E rfl rfl rfl rfl rfl DZ (F7 H (t2 (c _ c4)) mm1 b6) fun w H a E=>nt<|wif E hm rfl (fun hm=>?_) fun hm=>?_
      ·refine sq<|bd hm fun d9 b7 hm=>cJ E rfl rfl rfl rfl rfl xU (eS H b7)<|?_
       rintro _ w ⟨e0,e1,e2,e3,e4,e5,rfl,H⟩ a E
       refine bC (i:=2) E H (wn rfl) rfl rfl rfl rfl rfl rfl bV rfl (bF H m0 mm1 mm2 mm3 mm4 mm5) fun w H=>nt<|wp_ret<|aP<|aP<|eC E rfl (dH (i:=2) (us:=(bA d9 e0 e1 e2 e3 e4 e5)) H rfl rfl rfl U36 rfl bV)<|have H:=H.drs [1,1];?_
       cases hm
       exact X7 ⟨rfl,H.reads (aA m0 (aA mm1 (aA mm2 (aA mm3 (aA mm4 (aA mm5 (aA (t8 (c _ g)) (fun r hr=>(t8 (c r hr))))))))))⟩
      ·refine wp_skip<|aD<|wp_region_lit<|pr 4 E rfl fun a E=>?_
       obtain ⟨q281,g5,rfl⟩:=H.slform mm1
       exact bC (i:=0) E H (wn rfl) rfl rfl rfl rfl rfl rfl Vh rfl rfl fun w H=>nt<|X3 ⟨E.to rfl,H,(Y2 c),mm1,hm⟩
   ·exact wp_skip<|aD<|X3 ⟨E.to rfl,H,c,(c _ g),hm⟩
 ·clear E H hm
  rintro a w ⟨u,N,D,E,H,b,e,hm⟩
  unfold pJ at hm
  refine sq<|pr 2 E rfl fun a E=>lb E H 1 rfl rfl rfl rfl rfl rfl rfl U9 rfl fun a E=>bd hm fun S e6 hm=>xk E rfl rfl rfl rfl rfl Vi (zI H e e6) fun w H a E=>pr 3 E rfl fun a E=>al E H rfl rfl rfl rfl Gx fun b8 w a H E=>bC (i:=0) E H (wn rfl) rfl rfl rfl rfl rfl rfl iU rfl rfl fun w H=>pr 1 E rfl fun a E=>?_
  refine nt<|aT (fun a w=>∃ V T U O Q G,Env 90 a [(4,pt y 0),(9,pt b8 0),(11,pt V 0)]∧Sep w (Blk y 36 bO::Blk b8 60 (mT S.1)::Blk V 31 [T,U]::Blk j 82 [z,A,u,I,l,m,n,o,p]::Row 62 aG T O::Row 85 aK U Q::Fo) G∧(∀ r,r ∈ rs→r ∈ G)∧rSl aR u N ∈ G∧tS S N O Q=some r) ?_ ?_
  ·refine bd hm fun n1 x hm=>?_
   have hI:eK [Blk j 82 [z,A,u,I,l,m,n,o,p],Blk t 43 (aS x20 J K L M)] [] { w with drawn:=w.drawn+1 }:=⟨_,_,H.kept (Kp.drawn _ w _),(aB mm1 (aB mm2 (aL))),(aN)⟩
   refine lZ _ (.go 0 0 (.go 1 0 (.go 2 0 (.go 3 0 (.go 4 0 (.go 5 0 (.go 6 0 (.go 7 0 (.go 8 0 (.go 9 0 (.alt3 10 (.go 11 0 (.go 12 0 (.go 13 0 (.alt 14 (.go 15 1 (.go 16 1 (.go 17 2 .nil))) 15 (.go 14 1 (.go 16 1 (.go 17 2 .nil))))))) 14 (.alt 10 (.go 11 0 (.go 12 0 (.go 13 0 (.go 15 1 (.go 16 1 (.go 17 2 .nil)))))) 15 (.go 10 1 (.go 11 0 (.go 12 0 (.go 13 0 (.go 16 1 (.go 17 2 .nil))))))) 15 (.alt 10 (.go 11 0 (.go 12 0 (.go 13 0 (.go 14 1 (.go 16 1 (.go 17 2 .nil)))))) 14 (.go 10 1 (.go 11 0 (.go 12 0 (.go 13 0 (.go 16 1 (.go 17 2 .nil)))))))))))))))))) [17] mI (by kernel_rfl) (fun _ _ _ h=>False.elim h.2) hI<|have H:=H.kept (Kp.drawn _ w (w.drawn+1));?_
   generalize ({ w with drawn:=w.drawn+1 }:World)=w at H hI ⊢
   replace hI:∃ W,eK [Blk j 82 [z,A,u,I,l,m,n,o,p],Blk t 43 (aS x20 J K L M)] [] W:=⟨_,hI⟩
   obtain ⟨W0,hI⟩:=hI
   refine aZ E rfl (wn rfl) rfl rfl (fun w hW=>(bD E rfl rfl)) fun a E=>aZ E rfl (wn rfl) rfl rfl (fun w hW=>(wE E rfl rfl)) fun a E=>aZ E rfl (wn rfl) rfl rfl (fun w hW=>lB E rfl rfl (v:=pt j 0) (Fw _ _)) fun a E=>aZ E rfl (wn rfl) rfl rfl (fun w hW=>gK E rfl rfl (z7 (us:=[z,A]) m0 rfl U31 rfl dP w hW)) fun a E=>aZ E rfl (wn rfl) rfl rfl (fun w hW=>(bD E rfl rfl)) fun a E=>aZ E rfl (wn rfl) rfl rfl (fun w hW=>(wE E rfl rfl)) fun a E=>aZ E rfl (wn rfl) rfl rfl (fun w hW=>lB E rfl rfl (v:=pt j 2) (Rz _ _)) fun a E=>aZ E rfl (wn rfl) rfl rfl (fun w hW=>gK E rfl rfl (mE m0 rfl U54 rfl w hW)) fun a E=>aZ E rfl (wn rfl) rfl rfl (fun w hW=>lB E rfl rfl (v:=pt t 6) (La _ _)) fun a E=>?_
   refine aZ E rfl (wn rfl) rfl rfl (fun w hW=>gK E rfl rfl (mE mm1 rfl U9 rfl w hW)) fun a E=>?_
   refine Np rfl rfl rfl ?_ ?_ ?_
   ·refine cJ E rfl rfl rfl rfl rfl G6 (lP (x1:=(⟨B,C⟩:aW)) H (b _ q) (b _ s) e x)<|?_
    rintro _ w ⟨g6,g7,g8,g9,rfl,H⟩ a E
    refine nt<|?_
    refine ⟨⟨_,_,H,(aB mm5 (aB mm6 (aL))),(aN)⟩,?_⟩
    refine aZ E rfl (wn rfl) rfl rfl (fun w hW=>(bD E rfl rfl)) fun a E=>aZ E rfl (wn rfl) rfl rfl (fun w hW=>(dK E rfl rfl rfl)) fun a E=>aZ E rfl (wn rfl) rfl rfl (fun w hW=>(dK E rfl rfl rfl)) fun a E=>?_
    refine mS rfl rfl ?_ ?_
    ·refine al E H rfl rfl rfl rfl lR fun i0 w a H E=>nt<|?_
     refine ⟨⟨_,_,H,(aB mm6 (aB (t1 mm6) (aL))),(aN)⟩,?_⟩
     refine cP rfl<|al E H rfl rfl rfl rfl lR fun i1 w a H E=>nt<|?_
     refine ⟨⟨_,_,H,(aB (t1 mm6) (aB (t2 mm6) (aL))),(aN)⟩,?_⟩
     refine cP rfl<|?_
     obtain ⟨q156,i2,rfl⟩:=H.rowform (i:=2) rfl
     obtain ⟨q158,i3,rfl⟩:=H.rowform (i:=3) rfl
     refine bC (i:=1) E H (wn rfl) rfl rfl rfl rfl rfl rfl dP rfl rfl fun w H=>nt<|?_
     refine ⟨⟨_,_,H,(aB (t1 mm6) (aB (t2 mm6) (aL))),(aN)⟩,?_⟩
     refine dA rfl<|?_
     obtain ⟨q160,i4,rfl⟩:=H.rowform (i:=4) rfl
     obtain ⟨q162,i5,rfl⟩:=H.rowform (i:=5) rfl
     refine bC (i:=0) E H (wn rfl) rfl rfl rfl rfl rfl rfl dP rfl rfl fun w H=>nt<|eV<|?_
     clear hI
     exact aD<|have H:=H.drs [0,3,3,5];have H:=H.frs [2,2,4,3,4,5] rfl;X6 ⟨E.to rfl,H,b,e,hm⟩
    ·refine al E H rfl rfl rfl rfl lR fun i6 w a H E=>nt<|?_
     refine ⟨⟨_,_,H,(aB mm6 (aB (t1 mm6) (aL))),(aN)⟩,?_⟩
     refine cP rfl<|al E H rfl rfl rfl rfl lR fun i7 w a H E=>nt<|?_
     refine ⟨⟨_,_,H,(aB (t1 mm6) (aB (t2 mm6) (aL))),(aN)⟩,?_⟩
     refine cP rfl<|?_
     obtain ⟨q166,i8,rfl⟩:=H.rowform (i:=2) rfl
     obtain ⟨q168,i9,rfl⟩:=H.rowform (i:=3) rfl
     refine bC (i:=0) E H (wn rfl) rfl rfl rfl rfl rfl rfl dP rfl rfl fun w H=>nt<|?_
     refine ⟨⟨_,_,H,(aB (t1 mm6) (aB (t2 mm6) (aL))),(aN)⟩,?_⟩
     refine dA rfl<|?_
     obtain ⟨q170,j0,rfl⟩:=H.rowform (i:=4) rfl
     obtain ⟨q172,j1,rfl⟩:=H.rowform (i:=5) rfl
     refine bC (i:=1) E H (wn rfl) rfl rfl rfl rfl rfl rfl dP rfl rfl fun w H=>nt<|eV<|?_
     clear hI
     exact aD<|have H:=H.drs [1,3,3,5];have H:=H.frs [2,2,4,3,4,5] rfl;X6 ⟨E.to rfl,H,b,e,hm⟩
   ·refine al E H rfl rfl rfl rfl lR fun j2 w a H E=>nt<|?_
    refine ⟨⟨_,_,H,(aB mm2 (aB mm3 (aL))),(aN)⟩,?_⟩
    refine mS rfl rfl ?_ ?_
    ·refine cJ E rfl rfl rfl rfl rfl G6 (lP (x1:=(⟨B,C⟩:aW)) H (b _ q) (b _ s) e x)<|?_
     rintro _ w ⟨j3,j4,j5,j6,rfl,H⟩ a E
     refine nt<|?_
     refine ⟨⟨_,_,H,(aB mm6 (aB (t1 mm6) (aL))),(aN)⟩,?_⟩
     refine aZ E rfl (wn rfl) rfl rfl (fun w hW=>(bD E rfl rfl)) fun a E=>aZ E rfl (wn rfl) rfl rfl (fun w hW=>(dK E rfl rfl rfl)) fun a E=>aZ E rfl (wn rfl) rfl rfl (fun w hW=>(dK E rfl rfl rfl)) fun a E=>cP rfl<|al E H rfl rfl rfl rfl lR fun j7 w a H E=>nt<|?_
     refine ⟨⟨_,_,H,(aB (t1 mm6) (aB (t2 mm6) (aL))),(aN)⟩,?_⟩
     refine cP rfl<|?_
     obtain ⟨q182,j8,rfl⟩:=H.rowform (i:=1) rfl
     obtain ⟨q184,j9,rfl⟩:=H.rowform (i:=2) rfl
     refine bC (i:=5) E H (wn rfl) rfl rfl rfl rfl rfl rfl dP rfl rfl fun w H=>nt<|?_
     refine ⟨⟨_,_,H,(aB (t1 mm6) (aB (t2 mm6) (aL))),(aN)⟩,?_⟩
     refine dA rfl<|?_
     obtain ⟨q186,k0,rfl⟩:=H.rowform (i:=3) rfl
     obtain ⟨q188,k1,rfl⟩:=H.rowform (i:=4) rfl
     refine bC (i:=0) E H (wn rfl) rfl rfl rfl rfl rfl rfl dP rfl rfl fun w H=>nt<|eV<|?_
     clear hI
     exact aD<|have H:=H.drs [0,2,2,5];have H:=H.frs [1,1,4,3,4,5] rfl;X6 ⟨E.to rfl,H,b,e,hm⟩
    ·refine al E H rfl rfl rfl rfl lR fun k2 w a H E=>nt<|?_
     refine ⟨⟨_,_,H,(aB mm3 (aB mm4 (aL))),(aN)⟩,?_⟩
     refine cP rfl<|cJ E rfl rfl rfl rfl rfl G6 (lP (x1:=(⟨B,C⟩:aW)) H (b _ q) (b _ s) e x)<|?_
     rintro _ w ⟨k3,k4,k5,k6,rfl,H⟩ a E
     refine nt<|?_
     refine ⟨⟨_,_,H,(aB (t1 mm6) (aB (t2 mm6) (aL))),(aN)⟩,?_⟩
     refine aZ E rfl (wn rfl) rfl rfl (fun w hW=>(bD E rfl rfl)) fun a E=>aZ E rfl (wn rfl) rfl rfl (fun w hW=>(dK E rfl rfl rfl)) fun a E=>aZ E rfl (wn rfl) rfl rfl (fun w hW=>(dK E rfl rfl rfl)) fun a E=>cP rfl<|?_
     obtain ⟨q197,k7,rfl⟩:=H.rowform (i:=0) rfl
     obtain ⟨q199,k8,rfl⟩:=H.rowform (i:=1) rfl
     refine bC (i:=5) E H (wn rfl) rfl rfl rfl rfl rfl rfl dP rfl rfl fun w H=>nt<|?_
     refine ⟨⟨_,_,H,(aB (t1 mm6) (aB (t2 mm6) (aL))),(aN)⟩,?_⟩
     refine dA rfl<|?_
     obtain ⟨q201,k9,rfl⟩:=H.rowform (i:=2) rfl
     obtain ⟨q203,l0,rfl⟩:=H.rowform (i:=3) rfl
     refine bC (i:=4) E H (wn rfl) rfl rfl rfl rfl rfl rfl dP rfl rfl fun w H=>nt<|eV<|?_
     clear hI
     exact aD<|have H:=H.drs [2,2,2,5];have H:=H.frs [1,1,4,3,4,5] rfl;X6 ⟨E.to rfl,H,b,e,hm⟩
   ·refine al E H rfl rfl rfl rfl lR fun l1 w a H E=>nt<|?_
    refine ⟨⟨_,_,H,(aB mm2 (aB mm3 (aL))),(aN)⟩,?_⟩
    refine mS rfl rfl ?_ ?_
    ·refine cJ E rfl rfl rfl rfl rfl G6 (lP (x1:=(⟨B,C⟩:aW)) H (b _ q) (b _ s) e x)<|?_
     rintro _ w ⟨l2,l3,l4,l5,rfl,H⟩ a E
     refine nt<|?_
     refine ⟨⟨_,_,H,(aB mm6 (aB (t1 mm6) (aL))),(aN)⟩,?_⟩
     refine aZ E rfl (wn rfl) rfl rfl (fun w hW=>(bD E rfl rfl)) fun a E=>aZ E rfl (wn rfl) rfl rfl (fun w hW=>(dK E rfl rfl rfl)) fun a E=>aZ E rfl (wn rfl) rfl rfl (fun w hW=>(dK E rfl rfl rfl)) fun a E=>cP rfl<|al E H rfl rfl rfl rfl lR fun l6 w a H E=>nt<|?_
     refine ⟨⟨_,_,H,(aB (t1 mm6) (aB (t2 mm6) (aL))),(aN)⟩,?_⟩
     refine cP rfl<|?_
     obtain ⟨q213,l7,rfl⟩:=H.rowform (i:=1) rfl
     obtain ⟨q215,l8,rfl⟩:=H.rowform (i:=2) rfl
     refine bC (i:=0) E H (wn rfl) rfl rfl rfl rfl rfl rfl dP rfl rfl fun w H=>nt<|?_
     refine ⟨⟨_,_,H,(aB (t1 mm6) (aB (t2 mm6) (aL))),(aN)⟩,?_⟩
     refine dA rfl<|?_
     obtain ⟨q217,l9,rfl⟩:=H.rowform (i:=3) rfl
     obtain ⟨q219,m1,rfl⟩:=H.rowform (i:=4) rfl
     refine bC (i:=5) E H (wn rfl) rfl rfl rfl rfl rfl rfl dP rfl rfl fun w H=>nt<|eV<|?_
     clear hI
     exact aD<|have H:=H.drs [3,3,3,5];have H:=H.frs [2,2,4,3,4,5] rfl;X6 ⟨E.to rfl,H,b,e,hm⟩
    ·refine al E H rfl rfl rfl rfl lR fun m2 w a H E=>nt<|?_
     refine ⟨⟨_,_,H,(aB mm3 (aB mm4 (aL))),(aN)⟩,?_⟩
     refine cP rfl<|cJ E rfl rfl rfl rfl rfl G6 (lP (x1:=(⟨B,C⟩:aW)) H (b _ q) (b _ s) e x)<|?_
     rintro _ w ⟨m3,m4,m5,m6,rfl,H⟩ a E
     refine nt<|?_
     refine ⟨⟨_,_,H,(aB (t1 mm6) (aB (t2 mm6) (aL))),(aN)⟩,?_⟩
     refine aZ E rfl (wn rfl) rfl rfl (fun w hW=>(bD E rfl rfl)) fun a E=>aZ E rfl (wn rfl) rfl rfl (fun w hW=>(dK E rfl rfl rfl)) fun a E=>aZ E rfl (wn rfl) rfl rfl (fun w hW=>(dK E rfl rfl rfl)) fun a E=>cP rfl<|?_
     obtain ⟨q228,m7,rfl⟩:=H.rowform (i:=0) rfl
     obtain ⟨q230,m8,rfl⟩:=H.rowform (i:=1) rfl
     refine bC (i:=4) E H (wn rfl) rfl rfl rfl rfl rfl rfl dP rfl rfl fun w H=>nt<|?_
     refine ⟨⟨_,_,H,(aB (t1 mm6) (aB (t2 mm6) (aL))),(aN)⟩,?_⟩
     refine dA rfl<|?_
     obtain ⟨q232,m9,rfl⟩:=H.rowform (i:=2) rfl
     obtain ⟨q234,n0,rfl⟩:=H.rowform (i:=3) rfl
     refine bC (i:=5) E H (wn rfl) rfl rfl rfl rfl rfl rfl dP rfl rfl fun w H=>nt<|eV<|?_
     clear hI
     exact aD<|have H:=H.drs [2,2,3,5];have H:=H.frs [1,1,4,3,4,5] rfl;X6 ⟨E.to rfl,H,b,e,hm⟩
  ·clear E H hm
   rintro a w ⟨V,T,U,O,Q,G,E,H,e7,e8,hm⟩
   unfold tS at hm
   refine sq<|pr 1 E rfl fun a E=>lb E H 1 rfl rfl rfl rfl rfl rfl rfl U2 rfl fun a E=>sv E rfl rfl rfl (cD (i:=2) (us:=[T,U]) E H rfl rfl rfl rfl U31 rfl dP) fun a E=>?_
   obtain ⟨q56,b9,rfl⟩:=H.rowform (i:=4) rfl
   obtain ⟨q58,c0,rfl⟩:=H.rowform (i:=5) rfl
   refine sv E rfl rfl rfl (cN E rfl (E.evs rfl) (v:=.agg #[.int .i64 0,.int .i64 0,.bool false,.int .i64 S.1.Epoch,.slice none 0 0,(.slice q56 O.length b9),(.slice q58 Q.length c0),.slice none 0 0,.slice none 0 0,.slice none 0 0]) (by kernel_rfl)) fun a E=>bC (i:=0) E H (wn rfl) rfl rfl rfl rfl rfl rfl bV rfl rfl fun w H=>nt<|wp_ret<|eC E rfl (dH (i:=0) (us:=[.int .i64 0,.int .i64 0,.bool false,.int .i64 S.1.Epoch,.slice none 0 0,(.slice q56 O.length b9),(.slice q58 Q.length c0),.slice none 0 0,.slice none 0 0,.slice none 0 0]) H rfl rfl rfl U36 rfl bV)<|have H:=H.thaw (i:=4) rfl;have H:=H.thaw (i:=4) rfl;have H:=H.nilSl bE;have H:=H.nilSl aU;?_
   refine have H:=H.nilSl bN;have H:=H.nilSl (kI .i64);have H:=H.drs [0,0,0];?_
   cases hm
   exact X7 ⟨rfl,H.reads (aA mm3 (aA mm5 (aA mm4 (aA mm2 (aA mm1 (aA m0 (aA (t6 e8) (fun r hr=>(t6 (e7 r hr))))))))))⟩

def uL(d:List aH)(e:ByteArray)(f:Int)(c:Bool):Option ((List aH)×Bool):=
  if c=true then (some ([],false)) else ((u7 d (⟨e,f,1⟩:aH)).bind fun b=>some (b.1,b.2))
def nS(b:List aH)(c:ByteArray)(d:Int)(g:Bool):Option ((List aH)×Bool):=
  if g=true then (some ([],false)) else ((zD b c).bind fun e=>if e.2=true then ((idx b e.1).bind fun f=>uL b c d (decide (f.Epoch ≥ d))) else (uL b c d false))
def B4(c:List aH)(d:ByteArray)(b:Int):Option ((List aH)×Bool):=
  (nD c).bind fun e=>if (!e)=true then (nS c d b true) else ((eP d).bind fun f=>if (!f)=true then (nS c d b true) else (if (decide (b < 0))=true then (nS c d b true) else (nS c d b (decide (b > 281474976710656)))))
theorem Gk{p:Value}{q:List aH}{e:ByteArray}{f:Int}(H:Sep w (Fo) rs)(m:rSl aR p q ∈ rs){r:(List aH)×Bool}(hm:B4 q e f=some r) :
    Calls Tryz.prog 48 [p,.string e,.int .i64 f].toArray w (Ret fun v w'=>∃ A,.tuple #[A,.bool r.2]=v∧Sep w' (Row 60 aR A r.1::Fo) (rs)):=by
 unfold B4 at hm
 refine ent Tryz.func48 rfl Tryz.ntmps48 rfl rfl fun a E=>sq<|pr 2 E rfl fun a E=>nt<|wp_seq<|aT (fun a w=>∃ s n,Env 49 a [(0,p),(1,.string e),(2,.int .i64 f),(25,.bool s)]∧Sep w (Fo) n∧(∀ r,r ∈ rs→r ∈ n)∧nS q e f s=some r) ?_ ?_
 ·refine wp_region_lit<|pr 1 E rfl fun a E=>bd hm fun C t hm=>xk E rfl rfl rfl rfl rfl Kw (xE H m t) fun w H a E=>pr 2 E rfl fun a E=>cs hm (fun c hm=>?_) fun c hm=>?_
  ·exact pk 12 E (kc 13 rfl c) rfl fun a E=>nt<|⟨_,_,E.to rfl,H,Y0,hm⟩
  ·refine pk 1 E (kc 13 rfl c) rfl fun a E=>bd hm fun D u hm=>aX E (ws' (d:=13) E rfl rfl rfl rfl c) rfl rfl (cG E rfl rfl (A7 _)) (iI H u)<|?_
   rintro _ w ⟨rfl,H⟩ a E
   refine pk 3 E (kc 13 rfl c) rfl fun a E=>cs hm (fun i hm=>?_) fun i hm=>?_
   ·exact pk 7 E (kc 18 rfl i) rfl fun a E=>nt<|⟨_,_,E.to rfl,H,Y0,hm⟩
   ·refine pk 4 E (kc 18 rfl i) rfl fun a E=>cs hm (fun j hm=>?_) fun j hm=>?_
    ·exact pk 3 E (kc 22 rfl j) rfl fun a E=>nt<|⟨_,_,E.to rfl,H,Y0,hm⟩
    ·exact pk 3 E (kc 22 rfl j) rfl fun a E=>nt<|⟨_,_,E.to rfl,H,Y0,hm⟩
 ·clear E H hm
  rintro a w ⟨s,n,E,H,g,hm⟩
  unfold nS at hm
  refine wif E hm rfl (fun hm=>?_) fun hm=>?_
  ·refine sq<|pr 2 E rfl fun a E=>nt<|wp_ret<|aP<|iE E rfl rfl rfl<|have H:=H.nilRow 60 aR;?_
   cases hm
   exact ⟨_,rfl,H.reads g⟩
  ·refine wp_skip<|aD<|wp_seq<|sq<|pr 2 E rfl fun a E=>bd hm fun I x hm=>xk E rfl rfl rfl rfl rfl Qd (L2 H (g _ m) x) fun w H a E=>pr 5 E rfl fun a E=>nt<|aT (fun a w=>∃ o k,Env 49 a [(0,p),(1,.string e),(2,.int .i64 f),(41,.bool o)]∧Sep w (Fo) k∧(∀ r,r ∈ rs→r ∈ k)∧uL q e f o=some r) ?_ ?_
   ·refine wp_region_lit<|pr 2 E rfl fun a E=>cs hm (fun b hm=>?_) fun b hm=>?_
    ·exact pk 2 E (kc 33 rfl b) rfl fun a E=>bd hm fun B y hm=>dF E H (ws' (d:=33) E rfl rfl rfl rfl b) rfl rfl rfl rfl rfl (g _ m) U54 iU y fun q20 a H E=>have H:=H.derive1 m0 (rAt (kI .i64) (q20.add 1) B.Epoch) (fun ok h=>A5 h);pk 1 E (kc 33 rfl b) rfl fun a E=>aQ E (ws' (d:=33) E rfl rfl rfl rfl b) rfl rfl (nB E H rfl rfl m0 U2 rfl) fun a E=>pk 3 E (kc 33 rfl b) rfl fun a E=>nt<|⟨_,_,E.to rfl,H,(Y2 g),hm⟩
    ·exact pk 8 E (kc 33 rfl b) rfl fun a E=>nt<|⟨_,_,E.to rfl,H,g,hm⟩
   ·clear E H hm
    rintro a w ⟨o,k,E,H,l,hm⟩
    unfold uL at hm
    refine wif E hm rfl (fun hm=>?_) fun hm=>?_
    ·refine sq<|pr 2 E rfl fun a E=>nt<|wp_ret<|aP<|iE E rfl rfl rfl<|have H:=H.nilRow 60 aR;?_
     cases hm
     exact ⟨_,rfl,H.reads l⟩
    ·refine wp_skip<|aD<|sq<|pr 3 E rfl fun a E=>sv E rfl rfl rfl (cN E rfl (E.evs rfl) (v:=.agg #[.string e,.int .i64 f,.int .i64 1]) (by kernel_rfl)) fun a E=>bd hm fun F z hm=>cJ E rfl rfl rfl rfl rfl Qe (P6 (x3:=(⟨e,f,1⟩:aH)) H (l _ m) z)<|?_
     rintro _ w ⟨G,rfl,H⟩ a E
     refine pr 4 E rfl fun a E=>nt<|wp_ret<|iE E rfl rfl rfl<|?_
     cases hm
     exact ⟨_,rfl,H.reads l⟩

def vO(x1:aM)(e:List aH)(b:List aH):Option Bool:=
  (qL e x1.Dir).bind fun c=>(qL b x1.Dir).bind fun d=>if (decide (c < 0))=true then (some (true)) else (if (decide (d < 0))=true then (some (true)) else ((idx e c).bind fun f=>(idx b d).bind fun g=>some (!(sEq f.Prefix g.Prefix))))
theorem S5{x1:aM}{x j e:Nat}{y f l m n o p q s t:Value}{L u:List aH}(H:Sep w (Blk x 24 [pt j 0]::Blk j 82 [l,m,y,n,o,p,q,s,t]::Blk e 54 [f]::Fo) rs)(g:rSl aR y L ∈ rs)(i:rSl aR f u ∈ rs){r:Bool}(hm:vO x1 L u=some r) :
    Calls Tryz.prog 122 [.agg (qF x1).toArray,pt x 0,pt e 0].toArray w (Ret fun v w'=>.bool r=v∧Sep w' (Blk x 24 [pt j 0]::Blk j 82 [l,m,y,n,o,p,q,s,t]::Blk e 54 [f]::Fo) (rs)):=by
 unfold vO at hm
 refine ent Tryz.func122 rfl Tryz.ntmps122 rfl rfl fun a E=>sq<|bS E H (wn rfl) rfl rfl rfl rfl rfl fun M w a H E=>pr 1 E rfl fun a E=>nt<|wp_seq<|dw [(0,0),(1,0),(2,0),(3,0),(4,0),(5,0),(7,0),(8,0),(9,0),(6,1),(10,1),(11,1),(12,2)] [0,1,2,3] [] H (by kernel_rfl) (fun _ _ _ h=>False.elim h.2) fun w W0 hI H=>fb E rfl (wn rfl) rfl rfl rfl rfl mm1 rfl U24 rfl fun a E=>fn 2 E rfl fun a E=>?_
 refine fb E rfl (wn rfl) rfl rfl rfl rfl mm2 rfl U54 rfl fun a E=>fn 1 E rfl fun a E=>fb E rfl (wn rfl) rfl rfl rfl rfl m0 rfl U9 rfl fun a E=>fb E rfl (wn rfl) rfl rfl rfl rfl mm3 rfl U54 rfl fun a E=>fn 1 E rfl fun a E=>fb E rfl (wn rfl) rfl rfl rfl rfl m0 rfl U9 rfl fun a E=>cE rfl<|bd hm fun N z hm=>xk E rfl rfl rfl rfl rfl Ef (wL H g z) fun w H a E=>?_
 refine nt<|?_
 refine ⟨⟨_,_,H,(aB m0 (aB mm1 (aB mm2 (aB mm3 (aL))))),(aN)⟩,?_⟩
 refine cE rfl<|bd hm fun O A hm=>xk E rfl rfl rfl rfl rfl Ef (wL H i A) fun w H a E=>nt<|?_
 refine ⟨⟨_,_,H,(aB m0 (aB mm1 (aB mm2 (aB mm3 (aL))))),(aN)⟩,?_⟩
 refine cE rfl<|pr 1 E rfl fun a E=>nt<|?_
 refine ⟨⟨_,_,H,(aB m0 (aB mm1 (aB mm2 (aB mm3 (aL))))),(aN)⟩,?_⟩
 refine bQ rfl<|pr 1 E rfl fun a E=>nt<|bR<|?_
 clear hI
 refine aD<|wp_seq<|?_
 obtain ⟨Q,H⟩:=H.raw g
 obtain ⟨R,H⟩:=H.raw (t1 i)
 refine dw [(0,0),(1,0),(2,0),(3,0),(4,0),(5,0),(6,0),(7,0),(8,0),(9,0),(10,0),(11,0),(12,0),(13,0),(14,0),(15,0),(16,0),(17,0),(18,0),(19,0),(20,0),(21,0),(22,2)] [1,2,3] [1,0] H (by kernel_rfl) (fun _ _ _ h=>False.elim h.2) fun w W0 hI H=>fn 3 E rfl fun a E=>cs hm (fun c hm=>?_) fun c hm=>?_
 ·refine fk 19 E (kc 20 rfl c) rfl fun a E=>bQ rfl<|pr 1 E rfl fun a E=>nt<|bR<|?_
  clear hI
  refine aD<|wp_ret<|bB E rfl rfl<|have H:=H.drop 0;?_
  cases hm
  exact ⟨rfl,H.reads (Y2 Y0)⟩
 ·refine fk 4 E (kc 20 rfl c) rfl fun a E=>cs hm (fun b hm=>?_) fun b hm=>?_
  ·refine fk 15 E (kc 24 rfl b) rfl fun a E=>bQ rfl<|pr 1 E rfl fun a E=>nt<|bR<|?_
   clear hI
   refine aD<|wp_ret<|bB E rfl rfl<|have H:=H.drop 0;?_
   cases hm
   exact ⟨rfl,H.reads (Y2 Y0)⟩
  ·refine fb E rfl (ws' (d:=24) E rfl rfl rfl rfl b) rfl rfl rfl rfl m0 rfl U24 rfl fun a E=>fk 2 E (kc 24 rfl b) rfl fun a E=>fb E rfl (ws' (d:=24) E rfl rfl rfl rfl b) rfl rfl rfl rfl mm1 rfl U54 rfl fun a E=>fk 1 E (kc 24 rfl b) rfl fun a E=>bd hm fun S B hm=>?_
   obtain ⟨q46,T,C,D⟩:=sW (P:=Tryz.prog) (k:=.i64) hI (sV (.head _)) U54 iU B
   refine cB E rfl (ws' (d:=24) E rfl rfl rfl rfl b) rfl rfl (fun w hW=>wF E rfl rfl rfl (C w)) fun a E=>?_
   have F:=yX D (fun _ _ _ h=>rB h)
   refine fk 1 E (kc 24 rfl b) rfl fun a E=>fa E rfl (ws' (d:=24) E rfl rfl rfl rfl b) rfl rfl rfl rfl F U9 rfl fun a E=>fb E rfl (ws' (d:=24) E rfl rfl rfl rfl b) rfl rfl rfl rfl mm2 rfl U54 rfl fun a E=>fk 1 E (kc 24 rfl b) rfl fun a E=>bd hm fun U G hm=>?_
   obtain ⟨q53,V,I,J⟩:=sW (P:=Tryz.prog) (k:=.i64) hI (sV (.tail _ (.head _))) U54 iU G
   refine cB E rfl (ws' (d:=24) E rfl rfl rfl rfl b) rfl rfl (fun w hW=>wF E rfl rfl rfl (I w)) fun a E=>?_
   have K:=yX J (fun _ _ _ h=>rB h)
   refine fk 1 E (kc 24 rfl b) rfl fun a E=>fa E rfl (ws' (d:=24) E rfl rfl rfl rfl b) rfl rfl rfl rfl K U9 rfl fun a E=>fk 2 E (kc 24 rfl b) rfl fun a E=>bQ rfl<|pr 1 E rfl fun a E=>nt<|bR<|?_
   clear hI
   refine aD<|wp_ret<|bB E rfl rfl<|have H:=H.drop 0;?_
   cases hm
   exact ⟨rfl,H.reads (Y2 Y0)⟩

def gI(e:List aM)(c:List aH)(d:List aH):Nat→Int→Option Int
  | 0,_=>none
  | i+1,b=>
    if (decide (b < (e.length:Int)))=true then ((idx e b).bind fun f=>(vO f c d).bind fun g=>if g=true then (some (b)) else (gI e c d i (IntKind.i64.wrap (b+1)))) else (some ((-1)))
def kF(b:List aM)(c:List aH)(d:List aH):Option Int:=
  gI b c d (((b.length:Int) - 0:Int).toNat+1) 0
theorem yF{A z e i j k l m n o p:Value}{q:List aM}{s f c:Nat}{t u:List aH}(H:Sep w (Blk s 24 [pt f 0]::Blk f 82 [i,j,z,k,l,m,n,o,p]::Blk c 54 [e]::Fo) rs)(x:rSl bG A q ∈ rs)(B:rSl aR z t ∈ rs)(C:rSl aR e u ∈ rs){r:Int}(hm:kF q t u=some r) :
    Calls Tryz.prog 87 [A,.func (.func 122) #[] #[pt s 0,pt c 0]].toArray w (Ret fun v w'=>.int .i64 r=v∧Sep w' (Blk s 24 [pt f 0]::Blk f 82 [i,j,z,k,l,m,n,o,p]::Blk c 54 [e]::Fo) (rs)):=by
 unfold kF at hm
 refine ent Tryz.func87 rfl Tryz.ntmps87 rfl rfl fun a E=>sq<|pr 1 E rfl fun a E=>nt<|wp_seq<|sq<|pr 1 E rfl fun a E=>sv E rfl rfl rfl (dB E H rfl rfl x U56) fun a E=>pr 1 E rfl fun a E=>?_
 refine nt<|wp_block<|cA (fun g a w=>∃ y d,Env 19 a [(0,A),(1,.func (.func 122) #[] #[pt s 0,pt c 0]),(7,.int .i64 (q.length:Int)),(8,.int .i64 y)]∧Sep w (Blk s 24 [pt f 0]::Blk c 54 [e]::Blk f 82 [i,j,z,k,l,m,n,o,p]::Fo) d∧(∀ r,r ∈ rs→r ∈ d)∧gI q t u g y=some r) (((q.length:Int) - 0:Int).toNat+1) ?_ ?_
 ·exact have H:=H.frs [1,2,2] rfl;⟨_,_,E.to rfl,H,Y0,hm⟩
 ·clear E H hm
  rintro g a w ⟨y,d,E,H,b,hm⟩
  cases g with
  | zero=>exact (bW hm rfl).elim
  | succ g=>
   unfold gI at hm
   refine sq<|pr 1 E rfl fun a E=>nt<|wp_seq<|wif E hm rfl (fun hm=>?_) fun hm=>?_
   ·refine wp_skip<|aD<|wp_seq<|wp_block<|sq<|pr 2 E rfl fun a E=>nx<|pr 3 E rfl fun a E=>bd hm fun G D hm=>?_
    refine dF E H (wn rfl) rfl rfl rfl rfl rfl (b _ x) U56 mU D fun q42 a H E=>ldf fN E H rfl rfl rfl rfl rfl m0 U89 rfl mU fun a E=>have H:=H.frs [1,2,2] rfl;bd hm fun I F hm=>aX E (wn rfl) rfl rfl (bP E rfl rfl rfl (JH _)) (S5 H (t1 (b _ B)) (t1 (b _ C)) F)<|?_
    rintro _ w ⟨rfl,H⟩ a E
    refine nt<|wif E hm rfl (fun hm=>?_) fun hm=>?_
    ·refine sq<|pr 2 E rfl fun a E=>nt<|wp_ret<|bU<|aP<|aP<|bU<|aP<|?_
     refine bB E rfl rfl<|?_
     cases hm
     exact ⟨rfl,H.reads (Y1 b)⟩
    ·exact wp_skip<|bY<|aD<|wp_region_lit<|pr 2 E rfl fun a E=>nt<|have H:=H.frs [1,2,2] rfl;⟨g,Nat.lt_succ_self g,_,_,E.to rfl,H,(Y1 b),hm⟩
   ·refine wp_exit<|bH<|bH<|dZ<|aD<|sq<|pr 1 E rfl fun a E=>nt<|wp_ret<|?_
    refine bB E rfl rfl<|have H:=H.frs [1,2,2] rfl;?_
    cases hm
    exact ⟨rfl,H.reads b⟩

def jF(e:List aM)(b:List aH)(c:List aH):Option Bool:=
  (kF e b c).bind fun d=>some (decide (d ≥ 0))
theorem wB{y p b e f g i j k l m:Value}{z:List aM}{q d c:Nat}{n o:List aH}(H:Sep w (Blk q 24 [pt d 0]::Blk d 82 [e,f,p,g,i,j,k,l,m]::Blk c 54 [b]::Fo) rs)(s:rSl bG y z ∈ rs)(t:rSl aR p n ∈ rs)(u:rSl aR b o ∈ rs){r:Bool}(hm:jF z n o=some r) :
    Calls Tryz.prog 94 [y,.func (.func 122) #[] #[pt q 0,pt c 0]].toArray w (Ret fun v w'=>.bool r=v∧Sep w' (Blk q 24 [pt d 0]::Blk d 82 [e,f,p,g,i,j,k,l,m]::Blk c 54 [b]::Fo) (rs)):=by
 unfold jF at hm
 refine ent Tryz.func94 rfl Tryz.ntmps94 rfl rfl fun a E=>sq<|pr 1 E rfl fun a E=>nx<|pr 2 E rfl fun a E=>bd hm fun A x hm=>xk E rfl rfl rfl rfl rfl Lf (yF H s t u x) fun w H a E=>pr 2 E rfl fun a E=>nt<|?_
 refine wp_ret<|bB E rfl rfl<|?_
 cases hm
 exact ⟨rfl,H.reads Y0⟩

def yG(d:List aH)(e:List aM)(b:List aH):Option Bool:=
  (jF e d b).bind fun c=>some (c)
theorem Z3{m:Nat}{n o c d e f g i j k:Value}{t l:List aH}{u:List aM}(H:Sep w (Blk m 82 [d,e,n,o,f,g,i,j,k]::Fo) rs)(p:rSl aR n t ∈ rs)(q:rSl bG o u ∈ rs)(b:rSl aR c l ∈ rs){r:Bool}(hm:yG t u l=some r) :
    Calls Tryz.prog 50 [pt m 0,c].toArray w (Ret fun v w'=>.bool r=v∧Sep w' (Blk m 82 [d,e,n,o,f,g,i,j,k]::Fo) (rs)):=by
 unfold yG at hm
 refine ent Tryz.func50 rfl Tryz.ntmps50 rfl rfl fun a E=>sq<|bS E H (wn rfl) rfl rfl rfl rfl rfl fun x w a H E=>?_
 obtain ⟨q34,y,rfl⟩:=H.slform b
 refine bS E H (wn rfl) rfl rfl rfl rfl rfl fun z w a H E=>pr 1 E rfl fun a E=>nx<|lb E H 1 rfl rfl rfl rfl rfl rfl rfl U24 rfl fun a E=>pr 2 E rfl fun a E=>lb E H 2 rfl rfl rfl rfl rfl rfl rfl U56 rfl fun a E=>sv E rfl rfl rfl (kH E rfl rfl rfl) fun a E=>have H:=H.frs [0,2,2] rfl;bd hm fun A s hm=>?_
 refine xk E rfl rfl rfl rfl rfl Vj (wB H q p b s) fun w H a E=>pr 1 E rfl fun a E=>nt<|wp_ret<|bB E rfl rfl<|have H:=H.drs [0,1];?_
 cases hm
 exact ⟨rfl,H.reads Y0⟩

def r6(x1:aH)(b:ByteArray):Option Int:=
  (mA x1.Prefix b).bind fun c=>some (c)
theorem S6{x1:aH}{b:ByteArray}(H:Sep w (Fo) rs){r:Int}(hm:r6 x1 b=some r) :
    Calls Tryz.prog 120 [.agg (mT x1).toArray,.string b].toArray w (Ret fun v w'=>.int .i64 r=v∧Sep w' (Fo) (rs)):=by
 unfold r6 at hm
 refine ent Tryz.func120 rfl Tryz.ntmps120 rfl rfl fun a E=>sq<|bS E H (wn rfl) rfl rfl rfl rfl rfl fun d w a H E=>pr 1 E rfl fun a E=>nx<|pr 1 E rfl fun a E=>lb E H 0 rfl rfl rfl rfl rfl rfl rfl U9 rfl fun a E=>pr 1 E rfl fun a E=>bd hm fun e c hm=>?_
 refine xk E rfl rfl rfl rfl rfl Lg (rS H c) fun w H a E=>pr 1 E rfl fun a E=>nt<|wp_ret<|bB E rfl rfl<|have H:=H.drop 0;?_
 cases hm
 exact ⟨rfl,H.reads Y0⟩

def dJ(c:List aH)(e:ByteArray):Nat→Int→Int→Option (Int×Bool)
  | 0,_,_=>none
  | f+1,b,d=>
    if (decide (b < d))=true then ((idx c (IntKind.i64.wrap (rM .u64 (IntKind.u64.wrap (IntKind.i64.wrap (b+d))) 1))).bind fun k=>(r6 k e).bind fun g=>if (decide (g < 0))=true then (dJ c e f (IntKind.i64.wrap ((IntKind.i64.wrap (rM .u64 (IntKind.u64.wrap (IntKind.i64.wrap (b+d))) 1))+1)) d) else (dJ c e f b (IntKind.i64.wrap (rM .u64 (IntKind.u64.wrap (IntKind.i64.wrap (b+d))) 1)))) else (if (decide (b < (c.length:Int)))=true then ((idx c b).bind fun i=>(r6 i e).bind fun j=>some (b,j == 0)) else (some (b,false)))
def fT(b:List aH)(c:ByteArray):Option (Int×Bool):=
  dJ b c (((b.length:Int) - 0:Int).toNat+1) 0 (b.length:Int)
theorem qY{j:Value}{e:List aH}{p:ByteArray}(H:Sep w (Row 60 aR j e::Fo) rs){r:Int×Bool}(hm:fT e p=some r) :
    Calls Tryz.prog 119 [j,.string p,.func (.func 120) #[] #[]].toArray w (Ret fun v w'=>.tuple #[.int .i64 r.1,.bool r.2]=v∧Sep w' (Row 60 aR j e::Fo) (rs)):=by
 unfold fT at hm
 refine ent Tryz.func119 rfl Tryz.ntmps119 rfl rfl fun a E=>sq<|pr 2 E rfl fun a E=>nx<|pr 1 E rfl fun a E=>sv E rfl rfl rfl (lC (i:=0) E H rfl rfl rfl U54) fun a E=>pr 1 E rfl fun a E=>nx<|pr 3 E rfl fun a E=>?_
 refine nt<|wp_seq<|wp_block<|cA (fun c a w=>∃ q s k,Env 49 a [(0,j),(1,.string p),(2,.func (.func 120) #[] #[]),(8,.int .i64 (e.length:Int)),(9,.int .i64 q),(10,.int .i64 s)]∧Sep w (Row 60 aR j e::Fo) k∧(∀ r,r ∈ rs→r ∈ k)∧dJ e p c q s=some r) (((e.length:Int) - 0:Int).toNat+1) ?_ ?_
 ·exact X3 ⟨E.to rfl,H,Y0,hm⟩
 ·clear E H hm
  rintro c a w ⟨q,s,k,E,H,g,hm⟩
  cases c with
  | zero=>exact (bW hm rfl).elim
  | succ c=>
   unfold dJ at hm
   refine wp_seq<|sq<|pr 3 E rfl fun a E=>nt<|wif E hm rfl (fun hm=>?_) fun hm=>?_
   ·refine wp_skip<|aD<|wp_block<|sq<|pr 4 E rfl fun a E=>sv E rfl rfl rfl (T5 E rfl rfl rfl (by decide)) fun a E=>pr 2 E rfl fun a E=>nx<|pr 3 E rfl fun a E=>?_
    refine bd hm fun t l hm=>?_
    obtain ⟨y,z,m⟩:=H.rowformNE (i:=0) rfl l
    refine sv E rfl rfl rfl (dL (d:=aR) E m rfl rfl rfl rfl U54 iU l) fun a E=>sv E rfl rfl rfl (iF (i:=0) E H jL m rfl rfl rfl l (us:=[.string t.Prefix,.int .i64 t.Epoch,.int .i64 t.State]) rfl U60 rfl iU) fun a E=>pr 1 E rfl fun a E=>bd hm fun A u hm=>aX E (wn rfl) rfl rfl (bP E rfl rfl rfl (Xv _)) (S6 H u)<|?_
    rintro _ w ⟨rfl,H⟩ a E
    refine pr 1 E rfl fun a E=>nt<|wif E hm rfl (fun hm=>?_) fun hm=>?_
    ·exact wp_region_lit<|pr 3 E rfl fun a E=>wpList_nil<|bY<|aD<|⟨c,Nat.lt_succ_self c,X3 ⟨E.to rfl,H,g,hm⟩⟩
    ·exact wp_region_lit<|pr 2 E rfl fun a E=>wpList_nil<|bY<|aD<|⟨c,Nat.lt_succ_self c,X3 ⟨E.to rfl,H,g,hm⟩⟩
   ·refine wp_exit<|bH<|bH<|dZ<|aD<|sq<|pr 5 E rfl fun a E=>cs hm (fun b hm=>?_) fun b hm=>?_
    ·refine pk 3 E (kc 39 rfl b) rfl fun a E=>bd hm fun n f hm=>?_
     obtain ⟨B,C,o⟩:=H.rowformNE (i:=0) rfl f
     refine aQ E (ws' (d:=39) E rfl rfl rfl rfl b) rfl rfl (dL (d:=aR) E o rfl rfl rfl rfl U54 iU f) fun a E=>aQ E (ws' (d:=39) E rfl rfl rfl rfl b) rfl rfl (iF (i:=0) E H jL o rfl rfl rfl f (us:=[.string n.Prefix,.int .i64 n.Epoch,.int .i64 n.State]) rfl U60 rfl iU) fun a E=>pk 1 E (kc 39 rfl b) rfl fun a E=>bd hm fun D x hm=>aX E (ws' (d:=39) E rfl rfl rfl rfl b) rfl rfl (bP E rfl rfl rfl (Xv _)) (S6 H x)<|?_
     rintro _ w ⟨rfl,H⟩ a E
     refine pk 4 E (kc 39 rfl b) rfl fun a E=>nt<|wp_ret<|iE E rfl rfl rfl<|?_
     cases hm
     exact ⟨rfl,H.reads g⟩
    ·refine pk 11 E (kc 39 rfl b) rfl fun a E=>nt<|wp_ret<|iE E rfl rfl rfl<|?_
     cases hm
     exact ⟨rfl,H.reads g⟩

def yN(rec_1:(List aH)→Int→Option (List aH))(c:Int)(b:(List aH)):Option (List aH):=
  rec_1 b (IntKind.i64.wrap (c+1))
def rH(d:List ByteArray):Nat→(List aH)→Int→Option (List aH)
  | 0,_,_=>none
  | g+1,c,e=>
    if (decide (e < (d.length:Int)))=true then ((idx d e).bind fun f=>(fT c f).bind fun b=>if (!b.2)=true then ((ck (0 ≤ b.1∧b.1 ≤ c.length∧c.length ≤ 1000000)).bind fun i=>yN (rH d g) e (c.take b.1.toNat ++ (⟨f,0,3⟩:aH)::c.drop b.1.toNat)) else (yN (rH d g) e c)) else (some (c))
def L5(c:List aH)(b:List ByteArray):Option (List aH):=
  rH b (((b.length:Int) - 0:Int).toNat+1) c 0
theorem Lo{z n:Value}{A:List aH}{f:List ByteArray}(H:Sep w (Row 60 aR z A::Fo) rs)(o:rSl kS n f ∈ rs){r:(List aH)}(hm:L5 A f=some r) :
    Calls Tryz.prog 49 [z,n].toArray w (Ret fun v w'=>∃ B,B=v∧Sep w' (Row 60 aR B r::Fo) (rs)):=by
 unfold L5 at hm
 refine ent Tryz.func49 rfl Tryz.ntmps49 rfl rfl fun a E=>sq<|pr 1 E rfl fun a E=>nt<|wp_seq<|sq<|pr 1 E rfl fun a E=>sv E rfl rfl rfl (dB E H rfl rfl o U41) fun a E=>pr 1 E rfl fun a E=>?_
 refine nt<|wp_block<|cA (fun g a w=>∃ p q j k,Env 31 a [(0,p),(9,n),(10,.int .i64 (f.length:Int)),(11,.int .i64 j)]∧Sep w (Row 60 aR p q::Fo) k∧(∀ r,r ∈ rs→r ∈ k)∧rH f g q j=some r) (((f.length:Int) - 0:Int).toNat+1) ?_ ?_
 ·exact X4 ⟨E.to rfl,H,Y0,hm⟩
 ·clear E H hm
  rintro g a w ⟨p,q,j,k,E,H,b,hm⟩
  cases g with
  | zero=>exact (bW hm rfl).elim
  | succ g=>
   unfold rH at hm
   refine sq<|pr 1 E rfl fun a E=>nt<|wp_seq<|wif E hm rfl (fun hm=>?_) fun hm=>?_
   ·refine wp_skip<|aD<|aT (fun a w=>∃ l m i,Env 31 a [(0,l),(9,n),(10,.int .i64 (f.length:Int)),(11,.int .i64 j)]∧Sep w (Row 60 aR l m::Fo) i∧(∀ r,r ∈ rs→r ∈ i)∧yN (rH f g) j m=some r) ?_ ?_
    ·refine wp_block<|sq<|bd hm fun c s hm=>dF E H (wn rfl) rfl rfl rfl rfl rfl (b _ o) U41 sz9 s fun q17 a H E=>sv E rfl rfl rfl (nB E H rfl rfl m0 U9 rfl) fun a E=>pr 1 E rfl fun a E=>nx<|pr 2 E rfl fun a E=>bd hm fun C t hm=>?_
     refine xk E rfl rfl rfl rfl rfl Xr (qY H t) fun w H a E=>pr 5 E rfl fun a E=>nx<|pr 2 E rfl fun a E=>nt<|wif E hm rfl (fun hm=>?_) fun hm=>?_
     ·refine wp_region_lit<|pr 3 E rfl fun a E=>sv E rfl rfl rfl (cN E rfl (E.evs rfl) (v:=.agg #[.string c,.int .i64 0,.int .i64 3]) (by kernel_rfl)) fun a E=>hG (e:=60) (d:=aR) (cs:=[.string c,.int .i64 0,.int .i64 3]) (xs:=[(⟨c,0,3⟩:aH)]) E H (wn rfl) rfl rfl rfl (E.evs rfl) (by kernel_rfl) rfl rfl (fun ok hr=>(Rows.single (d:=aR) (cs:=[.string c,.int .i64 0,.int .i64 3]) (x:=(⟨c,0,3⟩:aH)) vF)) fun D w a H E=>bk hm fun u hm=>aX E (wn rfl) rfl rfl (cG E rfl rfl (Xt _)) (Ra.insert_a (ix:=1) (iu:=0) H rfl rfl (by decide) u) fun F w H a E=>pr 1 E rfl fun a E=>wpList_nil<|bY<|?_
      exact aD<|have H:=H.drop 0;X3 ⟨E.to rfl,H,(Y1 b),hm⟩
     ·exact wp_skip<|bY<|aD<|X3 ⟨E.to rfl,H,(Y1 b),hm⟩
    ·clear E H hm
     rintro a w ⟨l,m,i,E,H,y,hm⟩
     unfold yN at hm
     exact wp_region_lit<|pr 2 E rfl fun a E=>nt<|⟨g,Nat.lt_succ_self g,X4 ⟨E.to rfl,H,y,hm⟩⟩
   ·refine wp_exit<|bH<|bH<|dZ<|aD<|sq<|pr 2 E rfl fun a E=>nt<|wp_ret<|?_
    refine bB E rfl rfl<|?_
    cases hm
    exact ⟨_,rfl,H.reads b⟩

def tE(x20:aV)(e:(List aH))(c:(List aF))(d:(List aI)):Option (aE×(List aF)×(List aI)×(List aH)):=
  (xR x20.Store e x20.Prefix).bind fun b=>(ck (c.length+b.1.length ≤ LIM)).bind fun f=>(ck (d.length+b.2.1.length ≤ LIM)).bind fun g=>(ck ((c ++ b.1).length ≤ 1000000)).bind fun i=>(ck ((d ++ b.2.1).length ≤ 1000000)).bind fun j=>some ((⟨0,0,false,0,[],(⟨[],[]⟩:aW),[],[],[]⟩:aE),srtN (c ++ b.1),Tn.srtN (d ++ b.2.1),e)
def oM(x20:aV)(c:(List aH))(d:List aF)(e:List aI)(i:List aH)(f:Bool):Option (aE×(List aF)×(List aI)×(List aH)):=
  if f=true then ((eH 131).bind fun g=>some (g,d,e,i)) else ((xR (⟨d,e⟩:aW) c x20.Prefix).bind fun b=>tE x20 c b.2.2.1 b.2.2.2)
def oN(x20:aV)(b:(List aH))(e:List aF)(f:List aI)(d:List aH)(i:List aM)(j:Bool):Option (aE×(List aF)×(List aI)×(List aH)):=
  if j=true then ((eH 2).bind fun k=>some (k,e,f,d)) else ((uK i b x20.Prefix).bind fun c=>if c=true then (oM x20 b e f d c) else ((yG d i b).bind fun g=>oM x20 b e f d g))
def oO(x20:aV)(d:List aF)(e:List aI)(f:List aH)(g:List aM)(c:(List aH)×Bool)(b:(List aH)):Option (aE×(List aF)×(List aI)×(List aH)):=
  if (!c.2)=true then (oN x20 b d e f g (!c.2)) else (oN x20 b d e f g (decide ((b.length:Int) > 32)))
def oP(x20:aV)(d:List aF)(e:List aI)(c:List aH)(g:List aM)(i:Bool):Option (aE×(List aF)×(List aI)×(List aH)):=
  if i=true then (some ((⟨0,0,false,0,[],(⟨[],[]⟩:aW),[],[],[]⟩:aE),d,e,c)) else ((B4 c x20.Prefix x20.Epoch).bind fun b=>if b.2=true then ((L5 b.1 x20.Gone).bind fun f=>oO x20 d e c g b f) else (oO x20 d e c g b b.1))
def vP(d:List aF)(e:List aI)(c:List aH)(f:List aM)(x20:aV):Option (aE×(List aF)×(List aI)×(List aH)):=
  (qX c x20.Prefix).bind fun b=>if b.2=true then (oP x20 d e c f (decide (b.1.Epoch ≥ x20.Epoch))) else (oP x20 d e c f false)
theorem S7{t:Nat}{u x z A s g j l m n o p q:Value}{P:List aF}{Q:List aI}{b7:List aH}{b8:List aM}{x20:aV}(H:Sep w (Blk t 82 [u,x,z,A,m,n,o,p,q]::Fo) rs)(D:rSl aG u P ∈ rs)(F:rSl aK x Q ∈ rs)(O:rSl aR z b7 ∈ rs)(b9:rSl bG A b8 ∈ rs)(g1:rSl aG g x20.Store.Nodes ∈ rs)(g2:rSl aK j x20.Store.Turns ∈ rs)(g3:rSl kS l x20.Gone ∈ rs){r:aE×(List aF)×(List aI)×(List aH)}(hm:vP P Q b7 b8 x20=some r) :
    Calls Tryz.prog 18 [pt t 0,.agg (aS x20 s g j l).toArray].toArray w (Ret fun v w'=>∃ l1 l2 l3 l4 l5 l6 l7 e8 e9,.agg (bA r.1 l1 l2 l3 l4 l5 l6).toArray=v∧Sep w' (Blk t 82 [l7,e8,e9,A,m,n,o,p,q]::Fo) (rSl bE l1 r.1.Results::rSl aG l2 r.1.Store.Nodes::rSl aK l3 r.1.Store.Turns::rSl aU l4 r.1.Events::rSl bN l5 r.1.Mounts::rSl (kI .i64) l6 r.1.Wounded::rSl aG l7 r.2.1::rSl aK e8 r.2.2.1::rSl aR e9 r.2.2.2::rs)):=by
 unfold vP at hm
 refine ent Tryz.func18 rfl Tryz.ntmps18 rfl rfl fun a E=>sq<|bS E H (wn rfl) rfl rfl rfl rfl rfl fun f w a H E=>al E H rfl rfl rfl rfl iO fun k w a H E=>nt<|wp_seq<|sq<|pr 2 E rfl fun a E=>lb E H 1 rfl rfl rfl rfl rfl rfl rfl U9 rfl fun a E=>?_
 refine have H:=H.frs [1,1,2] rfl;bd hm fun l8 g4 hm=>xk E rfl rfl rfl rfl rfl Vi (zI H O g4) fun w H a E=>pr 3 E rfl fun a E=>al E H rfl rfl rfl rfl Gx fun o1 w a H E=>bC (i:=0) E H (wn rfl) rfl rfl rfl rfl rfl rfl iU rfl rfl fun w H=>pr 1 E rfl fun a E=>nt<|aT (fun a w=>∃ c0 Z,Env 110 a [(0,pt t 0),(3,pt f 0),(4,pt k 0),(27,.bool c0)]∧Sep w (Blk t 82 [u,x,z,A,m,n,o,p,q]::Blk f 43 (aS x20 s g j l)::Blk k 36 bO::Fo) Z∧(∀ r,r ∈ rs→r ∈ Z)∧oP x20 P Q b7 b8 c0=some r) ?_ ?_
 ·refine wp_region_lit<|pr 2 E rfl fun a E=>cs hm (fun B hm=>?_) fun B hm=>?_
  ·exact pk 1 E (kc 21 rfl B) rfl fun a E=>aQ E (ws' (d:=21) E rfl rfl rfl rfl B) rfl rfl (bT (i:=0) E H rfl rfl rfl rfl U2 rfl) fun a E=>pk 1 E (kc 21 rfl B) rfl fun a E=>aQ E (ws' (d:=21) E rfl rfl rfl rfl B) rfl rfl (bT (i:=3) E H rfl rfl rfl rfl U2 rfl) fun a E=>pk 2 E (kc 21 rfl B) rfl fun a E=>nt<|have H:=H.drop 0;have H:=H.frs [1,2,2] rfl;⟨decide (l8.1.Epoch ≥ x20.Epoch),_,E.sel [0,3,4,27] rfl,H,fun r hr=>hr,hm⟩
  ·exact pk 6 E (kc 21 rfl B) rfl fun a E=>nt<|have H:=H.drop 0;have H:=H.frs [1,2,2] rfl;⟨false,_,E.sel [0,3,4,27] rfl,H,fun r hr=>hr,hm⟩
 ·clear E H hm
  rintro a w ⟨c0,Z,E,H,G,hm⟩
  unfold oP at hm
  refine wif E hm rfl (fun hm=>?_) fun hm=>?_
  ·refine sq<|sv E rfl rfl rfl (cN E rfl (E.evs rfl) (v:=.agg bO.toArray) (by kernel_rfl)) fun a E=>bC (i:=2) E H (wn rfl) rfl rfl rfl rfl rfl rfl bV rfl rfl fun w H=>?_
   replace H:Sep w (Blk t 82 [u,x,z,A,m,n,o,p,q]::Blk f 43 (aS x20 s g j l)::Blk k 36 bO::Fo) _:=H
   refine nt<|wp_ret<|aP<|eC E rfl (dH (i:=2) (us:=bO) H rfl rfl rfl U36 rfl bV)<|have H:=H.nilSl bE;have H:=H.nilSl aG;have H:=H.nilSl aK;have H:=H.nilSl aU;have H:=H.nilSl bN;?_
   refine have H:=H.nilSl (kI .i64);have H:=H.drs [1,1];?_
   cases hm
   exact ⟨(.slice none 0 0),(.slice none 0 0),(.slice none 0 0),(.slice none 0 0),(.slice none 0 0),(.slice none 0 0),u,x,z,rfl,H.reads (aA mm5 (aA mm4 (aA mm3 (aA mm2 (aA mm1 (aA m0 (aA (t6 (G _ D)) (aA (t6 (G _ F)) (aA (t6 (G _ O)) (fun r hr=>(t6 (G r hr))))))))))))⟩
  ·refine wp_skip<|aD<|wp_seq<|dw [(0,0),(1,0),(2,0),(3,0),(4,0),(5,0),(6,0),(7,0),(8,1),(9,0),(10,0),(11,0),(12,1),(13,2)] [0,1] [] H (by kernel_rfl) (fun _ _ _ h=>False.elim h.2) fun w W0 hI H=>fn 3 E rfl fun a E=>fb E rfl (wn rfl) rfl rfl rfl rfl m0 rfl U54 rfl fun a E=>fn 1 E rfl fun a E=>fb E rfl (wn rfl) rfl rfl rfl rfl mm1 rfl U9 rfl fun a E=>fn 1 E rfl fun a E=>?_
   refine fb E rfl (wn rfl) rfl rfl rfl rfl mm1 rfl U2 rfl fun a E=>cE rfl<|bd hm fun b4 g5 hm=>cJ E rfl rfl rfl rfl rfl LM (Gk H (G _ O) g5)<|?_
   rintro _ w ⟨l9,rfl,H⟩ a E
   refine nt<|?_
   refine ⟨⟨_,_,H,(aB mm1 (aB mm2 (aL))),(aN)⟩,?_⟩
   refine fn 3 E rfl fun a E=>cE rfl<|pr 1 E rfl fun a E=>nt<|?_
   refine ⟨⟨_,_,H,(aB mm1 (aB mm2 (aL))),(aN)⟩,?_⟩
   refine bQ rfl<|pr 1 E rfl fun a E=>nt<|bR<|?_
   clear hI
   refine aD<|aT (fun a w=>∃ K I b0,Env 110 a [(0,pt t 0),(3,pt f 0),(4,pt k 0),(7,K),(8,.bool b4.2)]∧Sep w (Blk t 82 [u,x,z,A,m,n,o,p,q]::Blk f 43 (aS x20 s g j l)::Blk k 36 bO::Row 60 aR K I::Fo) b0∧(∀ r,r ∈ rs→r ∈ b0)∧oO x20 P Q b7 b8 b4 I=some r) ?_ ?_
   ·refine sq<|pr 1 E rfl fun a E=>nt<|wif E hm rfl (fun hm=>?_) fun hm=>?_
    ·refine wp_region_lit<|pr 2 E rfl fun a E=>lb E H 2 rfl rfl rfl rfl rfl rfl rfl U41 rfl fun a E=>bd hm fun g6 e1 hm=>cJ E rfl rfl rfl rfl rfl LN (Lo H (G _ g3) e1)<|?_
     rintro _ w ⟨g7,rfl,H⟩ a E
     exact pr 1 E rfl fun a E=>nt<|have H:=H.frs [0,3,3,3] rfl;⟨g7,g6,_,E.sel [0,3,4,7,8] rfl,H,G,hm⟩
    ·exact wp_skip<|aD<|have H:=H.frs [0,3,3,3] rfl;⟨l9,b4.1,_,E.sel [0,3,4,7,8] rfl,H,G,hm⟩
   ·clear E H hm
    rintro a w ⟨K,I,b0,E,H,c1,hm⟩
    unfold oO at hm
    refine wp_seq<|wp_block<|aT (fun a w=>∃ c2 b1,Env 110 a [(0,pt t 0),(3,pt f 0),(4,pt k 0),(7,K),(46,.bool c2)]∧Sep w (Blk t 82 [u,x,z,A,m,n,o,p,q]::Blk f 43 (aS x20 s g j l)::Blk k 36 bO::Row 60 aR K I::Fo) b1∧(∀ r,r ∈ rs→r ∈ b1)∧oN x20 I P Q b7 b8 c2=some r) ?_ ?_
    ·refine sq<|pr 3 E rfl fun a E=>nt<|wif E hm rfl (fun hm=>?_) fun hm=>?_
     ·exact wp_skip<|aD<|⟨!b4.2,_,E.sel [0,3,4,7,46] rfl,H,c1,hm⟩
     ·exact wp_region_lit<|pr 1 E rfl fun a E=>sv E rfl rfl rfl (lC (i:=3) E H rfl rfl rfl U54) fun a E=>pr 2 E rfl fun a E=>nt<|⟨decide ((I.length:Int) > 32),_,E.sel [0,3,4,7,46] rfl,H,c1,hm⟩
    ·clear E H hm
     rintro a w ⟨c2,b1,E,H,C,hm⟩
     unfold oN at hm
     refine wif E hm rfl (fun hm=>?_) fun hm=>?_
     ·refine sq<|bd hm fun m1 g8 hm=>cJ E rfl rfl rfl rfl rfl xU (eS H g8)<|?_
      rintro _ w ⟨f0,f1,f2,f3,f4,f5,rfl,H⟩ a E
      refine bC (i:=2) E H (wn rfl) rfl rfl rfl rfl rfl rfl bV rfl (bF H m0 mm1 mm2 mm3 mm4 mm5) fun w H=>nt<|wp_ret<|bU<|aP<|eC E rfl (dH (i:=2) (us:=(bA m1 f0 f1 f2 f3 f4 f5)) H rfl rfl rfl U36 rfl bV)<|have H:=H.drs [1,1,1];?_
      cases hm
      exact ⟨f0,f1,f2,f3,f4,f5,u,x,z,rfl,H.reads (aA m0 (aA mm1 (aA mm2 (aA mm3 (aA mm4 (aA mm5 (aA (t6 (C _ D)) (aA (t6 (C _ F)) (aA (t6 (C _ O)) (fun r hr=>(t6 (C r hr))))))))))))⟩
     ·refine aT (fun a w=>∃ c3 J,Env 110 a [(0,pt t 0),(3,pt f 0),(4,pt k 0),(7,K),(53,.bool c3)]∧Sep w (Blk t 82 [u,x,z,A,m,n,o,p,q]::Blk f 43 (aS x20 s g j l)::Blk k 36 bO::Fo) J∧(∀ r,r ∈ rs→r ∈ J)∧rSl aR K I ∈ J∧oM x20 I P Q b7 c3=some r) ?_ ?_
      ·refine sq<|pr 3 E rfl fun a E=>lb E H 1 rfl rfl rfl rfl rfl rfl rfl U9 rfl fun a E=>have H:=H.thaw (i:=3) rfl;bd hm fun g9 e2 hm=>xk E rfl rfl rfl rfl rfl DZ (F7 H (t1 (C _ b9)) m0 e2) fun w H a E=>pr 1 E rfl fun a E=>nt<|wif E hm rfl (fun hm=>?_) fun hm=>?_
       ·exact wp_skip<|aD<|⟨g9,_,E.sel [0,3,4,7,53] rfl,H,fun r hr=>(t1 (C r hr)),m0,hm⟩
       ·exact wp_region_lit<|pr 2 E rfl fun a E=>bd hm fun i0 e3 hm=>xk E rfl rfl rfl rfl rfl LO (Z3 H (t1 (C _ O)) (t1 (C _ b9)) m0 e3) fun w H a E=>pr 1 E rfl fun a E=>nt<|⟨i0,_,E.sel [0,3,4,7,53] rfl,H,fun r hr=>(t1 (C r hr)),m0,hm⟩
      ·clear E H hm
       rintro a w ⟨c3,J,E,H,e,y,hm⟩
       unfold oM at hm
       refine wif E hm rfl (fun hm=>?_) fun hm=>?_
       ·refine sq<|bd hm fun f6 i1 hm=>cJ E rfl rfl rfl rfl rfl xU (eS H i1)<|?_
        rintro _ w ⟨c4,c5,c6,c7,c8,c9,rfl,H⟩ a E
        refine bC (i:=2) E H (wn rfl) rfl rfl rfl rfl rfl rfl bV rfl (bF H m0 mm1 mm2 mm3 mm4 mm5) fun w H=>?_
        replace H:Sep w (Blk t 82 [u,x,z,A,m,n,o,p,q]::Blk f 43 (aS x20 s g j l)::Blk k 36 (bA f6 c4 c5 c6 c7 c8 c9)::Fo) _:=H
        refine nt<|wp_ret<|bU<|aP<|eC E rfl (dH (i:=2) (us:=(bA f6 c4 c5 c6 c7 c8 c9)) H rfl rfl rfl U36 rfl bV)<|have H:=H.drs [1,1];?_
        cases hm
        exact ⟨c4,c5,c6,c7,c8,c9,u,x,z,rfl,H.reads (aA m0 (aA mm1 (aA mm2 (aA mm3 (aA mm4 (aA mm5 (aA (t6 (e _ D)) (aA (t6 (e _ F)) (aA (t6 (e _ O)) (fun r hr=>(t6 (e r hr))))))))))))⟩
       ·refine wp_skip<|bY<|aD<|aT (fun a w=>∃ V X Y L M R,Env 110 a [(0,pt t 0),(3,pt f 0),(4,pt k 0),(7,K),(10,pt V 0)]∧Sep w (Blk t 82 [u,x,z,A,m,n,o,p,q]::Blk f 43 (aS x20 s g j l)::Blk k 36 bO::Blk V 31 [X,Y]::Row 62 aG X L::Row 85 aK Y M::Fo) R∧(∀ r,r ∈ rs→r ∈ R)∧rSl aR K I ∈ R∧tE x20 I L M=some r) ?_ ?_
        ·refine bd hm fun b N hm=>?_
         have hI:eK [Blk t 82 [u,x,z,A,m,n,o,p,q],Blk f 43 (aS x20 s g j l)] [] { w with drawn:=w.drawn+1 }:=⟨_,_,H.kept (Kp.drawn _ w _),(aB m0 (aB mm1 (aL))),(aN)⟩
         refine lZ _ (.go 0 0 (.go 1 0 (.go 2 0 (.go 3 0 (.go 4 0 (.go 5 0 (.go 6 0 (.alt3 7 (.go 8 0 (.go 9 0 (.go 10 0 (.alt 11 (.go 12 1 (.go 13 1 (.go 14 2 .nil))) 12 (.go 11 1 (.go 13 1 (.go 14 2 .nil))))))) 11 (.alt 7 (.go 8 0 (.go 9 0 (.go 10 0 (.go 12 1 (.go 13 1 (.go 14 2 .nil)))))) 12 (.go 7 1 (.go 8 0 (.go 9 0 (.go 10 0 (.go 13 1 (.go 14 2 .nil))))))) 12 (.alt 7 (.go 8 0 (.go 9 0 (.go 10 0 (.go 11 1 (.go 13 1 (.go 14 2 .nil)))))) 11 (.go 7 1 (.go 8 0 (.go 9 0 (.go 10 0 (.go 13 1 (.go 14 2 .nil))))))))))))))) [14] mI (by kernel_rfl) (fun _ _ _ h=>False.elim h.2) hI<|have H:=H.kept (Kp.drawn _ w (w.drawn+1));?_
         generalize ({ w with drawn:=w.drawn+1 }:World)=w at H hI ⊢
         replace hI:∃ W,eK [Blk t 82 [u,x,z,A,m,n,o,p,q],Blk f 43 (aS x20 s g j l)] [] W:=⟨_,hI⟩
         obtain ⟨W0,hI⟩:=hI
         refine aZ E rfl (wn rfl) rfl rfl (fun w hW=>(bD E rfl rfl)) fun a E=>aZ E rfl (wn rfl) rfl rfl (fun w hW=>(wE E rfl rfl)) fun a E=>aZ E rfl (wn rfl) rfl rfl (fun w hW=>lB E rfl rfl (v:=pt t 0) (Fw _ _)) fun a E=>aZ E rfl (wn rfl) rfl rfl (fun w hW=>gK E rfl rfl (z7 (us:=[u,x]) m0 rfl U31 rfl dP w hW)) fun a E=>aZ E rfl (wn rfl) rfl rfl (fun w hW=>(bD E rfl rfl)) fun a E=>aZ E rfl (wn rfl) rfl rfl (fun w hW=>lB E rfl rfl (v:=pt f 6) (La _ _)) fun a E=>aZ E rfl (wn rfl) rfl rfl (fun w hW=>gK E rfl rfl (mE mm1 rfl U9 rfl w hW)) fun a E=>?_
         refine Np rfl rfl rfl ?_ ?_ ?_
         ·refine cJ E rfl rfl rfl rfl rfl G6 (lP (x1:=(⟨P,Q⟩:aW)) H (e _ D) (e _ F) y N)<|?_
          rintro _ w ⟨m4,m5,d0,d1,rfl,H⟩ a E
          refine nt<|?_
          refine ⟨⟨_,_,H,(aB mm4 (aB mm5 (aL))),(aN)⟩,?_⟩
          refine aZ E rfl (wn rfl) rfl rfl (fun w hW=>(bD E rfl rfl)) fun a E=>aZ E rfl (wn rfl) rfl rfl (fun w hW=>(dK E rfl rfl rfl)) fun a E=>aZ E rfl (wn rfl) rfl rfl (fun w hW=>(dK E rfl rfl rfl)) fun a E=>?_
          refine mS rfl rfl ?_ ?_
          ·refine al E H rfl rfl rfl rfl lR fun i2 w a H E=>nt<|?_
           refine ⟨⟨_,_,H,(aB mm5 (aB mm6 (aL))),(aN)⟩,?_⟩
           refine cP rfl<|al E H rfl rfl rfl rfl lR fun d2 w a H E=>nt<|?_
           refine ⟨⟨_,_,H,(aB mm6 (aB (t1 mm6) (aL))),(aN)⟩,?_⟩
           refine cP rfl<|?_
           obtain ⟨q212,d3,rfl⟩:=H.rowform (i:=2) rfl
           obtain ⟨q214,d4,rfl⟩:=H.rowform (i:=3) rfl
           refine bC (i:=1) E H (wn rfl) rfl rfl rfl rfl rfl rfl dP rfl rfl fun w H=>?_
           replace H:Sep w (Blk d2 31 [.slice none 0 0,.slice none 0 0]::Blk i2 31 [(.slice q212 b.1.length d3),(.slice q214 b.2.1.length d4)]::Row 62 aG (.slice q212 b.1.length d3) b.1::Row 85 aK (.slice q214 b.2.1.length d4) b.2.1::Row 62 aG d0 b.2.2.1::Row 85 aK d1 b.2.2.2::Blk t 82 [u,x,z,A,m,n,o,p,q]::Blk f 43 (aS x20 s g j l)::Blk k 36 bO::Fo) _:=H
           refine nt<|?_
           refine ⟨⟨_,_,H,(aB mm6 (aB (t1 mm6) (aL))),(aN)⟩,?_⟩
           refine dA rfl<|?_
           obtain ⟨q216,i3,rfl⟩:=H.rowform (i:=4) rfl
           obtain ⟨q218,i4,rfl⟩:=H.rowform (i:=5) rfl
           refine bC (i:=0) E H (wn rfl) rfl rfl rfl rfl rfl rfl dP rfl rfl fun w H=>nt<|eV<|?_
           clear hI
           exact aD<|have H:=H.drs [1,1,1];have H:=H.frs [2,2,2,5,5,5] rfl;⟨d2,(.slice q216 b.2.2.1.length i3),(.slice q218 b.2.2.2.length i4),b.2.2.1,b.2.2.2,_,E.sel [0,3,4,7,10] rfl,H,e,y,hm⟩
          ·refine al E H rfl rfl rfl rfl lR fun d5 w a H E=>nt<|?_
           refine ⟨⟨_,_,H,(aB mm5 (aB mm6 (aL))),(aN)⟩,?_⟩
           refine cP rfl<|al E H rfl rfl rfl rfl lR fun i5 w a H E=>nt<|?_
           refine ⟨⟨_,_,H,(aB mm6 (aB (t1 mm6) (aL))),(aN)⟩,?_⟩
           refine cP rfl<|?_
           obtain ⟨q222,d6,rfl⟩:=H.rowform (i:=2) rfl
           obtain ⟨q224,d7,rfl⟩:=H.rowform (i:=3) rfl
           refine bC (i:=0) E H (wn rfl) rfl rfl rfl rfl rfl rfl dP rfl rfl fun w H=>?_
           replace H:Sep w (Blk i5 31 [(.slice q222 b.1.length d6),(.slice q224 b.2.1.length d7)]::Blk d5 31 [.slice none 0 0,.slice none 0 0]::Row 62 aG (.slice q222 b.1.length d6) b.1::Row 85 aK (.slice q224 b.2.1.length d7) b.2.1::Row 62 aG d0 b.2.2.1::Row 85 aK d1 b.2.2.2::Blk t 82 [u,x,z,A,m,n,o,p,q]::Blk f 43 (aS x20 s g j l)::Blk k 36 bO::Fo) _:=H
           refine nt<|?_
           refine ⟨⟨_,_,H,(aB mm6 (aB (t1 mm6) (aL))),(aN)⟩,?_⟩
           refine dA rfl<|?_
           obtain ⟨q226,i6,rfl⟩:=H.rowform (i:=4) rfl
           obtain ⟨q228,i7,rfl⟩:=H.rowform (i:=5) rfl
           refine bC (i:=1) E H (wn rfl) rfl rfl rfl rfl rfl rfl dP rfl rfl fun w H=>nt<|eV<|?_
           clear hI
           exact aD<|have H:=H.drs [0,1,1];have H:=H.frs [2,2,2,5,5,5] rfl;⟨d5,(.slice q226 b.2.2.1.length i6),(.slice q228 b.2.2.2.length i7),b.2.2.1,b.2.2.2,_,E.sel [0,3,4,7,10] rfl,H,e,y,hm⟩
         ·refine al E H rfl rfl rfl rfl lR fun d8 w a H E=>nt<|?_
          refine ⟨⟨_,_,H,(aB mm1 (aB mm2 (aL))),(aN)⟩,?_⟩
          refine mS rfl rfl ?_ ?_
          ·refine cJ E rfl rfl rfl rfl rfl G6 (lP (x1:=(⟨P,Q⟩:aW)) H (e _ D) (e _ F) y N)<|?_
           rintro _ w ⟨i8,i9,j0,j1,rfl,H⟩ a E
           refine nt<|?_
           refine ⟨⟨_,_,H,(aB mm5 (aB mm6 (aL))),(aN)⟩,?_⟩
           refine aZ E rfl (wn rfl) rfl rfl (fun w hW=>(bD E rfl rfl)) fun a E=>aZ E rfl (wn rfl) rfl rfl (fun w hW=>(dK E rfl rfl rfl)) fun a E=>aZ E rfl (wn rfl) rfl rfl (fun w hW=>(dK E rfl rfl rfl)) fun a E=>cP rfl<|al E H rfl rfl rfl rfl lR fun d9 w a H E=>nt<|?_
           replace H:Sep w (Blk d9 31 [.slice none 0 0,.slice none 0 0]::Row 62 aG i8 b.1::Row 85 aK i9 b.2.1::Row 62 aG j0 b.2.2.1::Row 85 aK j1 b.2.2.2::Blk d8 31 [.slice none 0 0,.slice none 0 0]::Blk t 82 [u,x,z,A,m,n,o,p,q]::Blk f 43 (aS x20 s g j l)::Blk k 36 bO::Fo) (J):=H
           refine ⟨⟨_,_,H,(aB mm6 (aB (t1 mm6) (aL))),(aN)⟩,?_⟩
           refine cP rfl<|?_
           obtain ⟨q238,m6,rfl⟩:=H.rowform (i:=1) rfl
           obtain ⟨q240,m7,rfl⟩:=H.rowform (i:=2) rfl
           refine bC (i:=5) E H (wn rfl) rfl rfl rfl rfl rfl rfl dP rfl rfl fun w H=>nt<|?_
           refine ⟨⟨_,_,H,(aB mm6 (aB (t1 mm6) (aL))),(aN)⟩,?_⟩
           refine dA rfl<|?_
           obtain ⟨q242,j2,rfl⟩:=H.rowform (i:=3) rfl
           obtain ⟨q244,j3,rfl⟩:=H.rowform (i:=4) rfl
           refine bC (i:=0) E H (wn rfl) rfl rfl rfl rfl rfl rfl dP rfl rfl fun w H=>nt<|eV<|?_
           clear hI
           exact aD<|have H:=H.drs [1,1,3];have H:=H.frs [2,2,2,5,5,5] rfl;⟨d9,(.slice q242 b.2.2.1.length j2),(.slice q244 b.2.2.2.length j3),b.2.2.1,b.2.2.2,_,E.sel [0,3,4,7,10] rfl,H,e,y,hm⟩
          ·refine al E H rfl rfl rfl rfl lR fun e0 w a H E=>nt<|?_
           refine ⟨⟨_,_,H,(aB mm2 (aB mm3 (aL))),(aN)⟩,?_⟩
           refine cP rfl<|cJ E rfl rfl rfl rfl rfl G6 (lP (x1:=(⟨P,Q⟩:aW)) H (e _ D) (e _ F) y N)<|?_
           rintro _ w ⟨j4,j5,j6,j7,rfl,H⟩ a E
           refine nt<|?_
           replace H:Sep w (Row 62 aG j4 b.1::Row 85 aK j5 b.2.1::Row 62 aG j6 b.2.2.1::Row 85 aK j7 b.2.2.2::Blk e0 31 [.slice none 0 0,.slice none 0 0]::Blk d8 31 [.slice none 0 0,.slice none 0 0]::Blk t 82 [u,x,z,A,m,n,o,p,q]::Blk f 43 (aS x20 s g j l)::Blk k 36 bO::Fo) (J):=H
           refine ⟨⟨_,_,H,(aB mm6 (aB (t1 mm6) (aL))),(aN)⟩,?_⟩
           refine aZ E rfl (wn rfl) rfl rfl (fun w hW=>(bD E rfl rfl)) fun a E=>aZ E rfl (wn rfl) rfl rfl (fun w hW=>(dK E rfl rfl rfl)) fun a E=>aZ E rfl (wn rfl) rfl rfl (fun w hW=>(dK E rfl rfl rfl)) fun a E=>cP rfl<|?_
           obtain ⟨q253,m8,rfl⟩:=H.rowform (i:=0) rfl
           obtain ⟨q255,m9,rfl⟩:=H.rowform (i:=1) rfl
           refine bC (i:=5) E H (wn rfl) rfl rfl rfl rfl rfl rfl dP rfl rfl fun w H=>nt<|?_
           refine ⟨⟨_,_,H,(aB mm6 (aB (t1 mm6) (aL))),(aN)⟩,?_⟩
           refine dA rfl<|?_
           obtain ⟨q257,j8,rfl⟩:=H.rowform (i:=2) rfl
           obtain ⟨q259,j9,rfl⟩:=H.rowform (i:=3) rfl
           refine bC (i:=4) E H (wn rfl) rfl rfl rfl rfl rfl rfl dP rfl rfl fun w H=>nt<|eV<|?_
           clear hI
           exact aD<|have H:=H.drs [0,0,3];have H:=H.frs [1,1,2,5,5,5] rfl;⟨e0,(.slice q257 b.2.2.1.length j8),(.slice q259 b.2.2.2.length j9),b.2.2.1,b.2.2.2,_,E.sel [0,3,4,7,10] rfl,H,e,y,hm⟩
         ·refine al E H rfl rfl rfl rfl lR fun S w a H E=>nt<|?_
          refine ⟨⟨_,_,H,(aB mm1 (aB mm2 (aL))),(aN)⟩,?_⟩
          refine mS rfl rfl ?_ ?_
          ·refine cJ E rfl rfl rfl rfl rfl G6 (lP (x1:=(⟨P,Q⟩:aW)) H (e _ D) (e _ F) y N)<|?_
           rintro _ w ⟨k0,k1,k2,k3,rfl,H⟩ a E
           refine nt<|?_
           replace H:Sep w (Row 62 aG k0 b.1::Row 85 aK k1 b.2.1::Row 62 aG k2 b.2.2.1::Row 85 aK k3 b.2.2.2::Blk S 31 [.slice none 0 0,.slice none 0 0]::Blk t 82 [u,x,z,A,m,n,o,p,q]::Blk f 43 (aS x20 s g j l)::Blk k 36 bO::Fo) (J):=H
           refine ⟨⟨_,_,H,(aB mm5 (aB mm6 (aL))),(aN)⟩,?_⟩
           refine aZ E rfl (wn rfl) rfl rfl (fun w hW=>(bD E rfl rfl)) fun a E=>aZ E rfl (wn rfl) rfl rfl (fun w hW=>(dK E rfl rfl rfl)) fun a E=>aZ E rfl (wn rfl) rfl rfl (fun w hW=>(dK E rfl rfl rfl)) fun a E=>cP rfl<|al E H rfl rfl rfl rfl lR fun n0 w a H E=>nt<|?_
           refine ⟨⟨_,_,H,(aB mm6 (aB (t1 mm6) (aL))),(aN)⟩,?_⟩
           refine cP rfl<|?_
           obtain ⟨q269,n1,rfl⟩:=H.rowform (i:=1) rfl
           obtain ⟨q271,n2,rfl⟩:=H.rowform (i:=2) rfl
           refine bC (i:=0) E H (wn rfl) rfl rfl rfl rfl rfl rfl dP rfl rfl fun w H=>nt<|?_
           refine ⟨⟨_,_,H,(aB mm6 (aB (t1 mm6) (aL))),(aN)⟩,?_⟩
           refine dA rfl<|?_
           obtain ⟨q273,k4,rfl⟩:=H.rowform (i:=3) rfl
           obtain ⟨q275,k5,rfl⟩:=H.rowform (i:=4) rfl
           refine bC (i:=5) E H (wn rfl) rfl rfl rfl rfl rfl rfl dP rfl rfl fun w H=>nt<|eV<|?_
           clear hI
           exact aD<|have H:=H.drs [0,0,0];have H:=H.frs [1,1,2,5,5,5] rfl;⟨S,(.slice q273 b.2.2.1.length k4),(.slice q275 b.2.2.2.length k5),b.2.2.1,b.2.2.2,_,E.sel [0,3,4,7,10] rfl,H,e,y,hm⟩
          ·refine al E H rfl rfl rfl rfl lR fun k6 w a H E=>nt<|?_
           replace H:Sep w (Blk k6 31 [.slice none 0 0,.slice none 0 0]::Blk S 31 [.slice none 0 0,.slice none 0 0]::Blk t 82 [u,x,z,A,m,n,o,p,q]::Blk f 43 (aS x20 s g j l)::Blk k 36 bO::Fo) (J):=H
           refine ⟨⟨_,_,H,(aB mm2 (aB mm3 (aL))),(aN)⟩,?_⟩
           refine cP rfl<|cJ E rfl rfl rfl rfl rfl G6 (lP (x1:=(⟨P,Q⟩:aW)) H (e _ D) (e _ F) y N)<|?_
           rintro _ w ⟨n3,n4,n5,n6,rfl,H⟩ a E
           refine nt<|?_
           refine ⟨⟨_,_,H,(aB mm6 (aB (t1 mm6) (aL))),(aN)⟩,?_⟩
           refine aZ E rfl (wn rfl) rfl rfl (fun w hW=>(bD E rfl rfl)) fun a E=>aZ E rfl (wn rfl) rfl rfl (fun w hW=>(dK E rfl rfl rfl)) fun a E=>aZ E rfl (wn rfl) rfl rfl (fun w hW=>(dK E rfl rfl rfl)) fun a E=>cP rfl<|?_
           obtain ⟨q284,n7,rfl⟩:=H.rowform (i:=0) rfl
           obtain ⟨q286,n8,rfl⟩:=H.rowform (i:=1) rfl
           refine bC (i:=4) E H (wn rfl) rfl rfl rfl rfl rfl rfl dP rfl rfl fun w H=>nt<|?_
           refine ⟨⟨_,_,H,(aB mm6 (aB (t1 mm6) (aL))),(aN)⟩,?_⟩
           refine dA rfl<|?_
           obtain ⟨q288,k7,rfl⟩:=H.rowform (i:=2) rfl
           obtain ⟨q290,k8,rfl⟩:=H.rowform (i:=3) rfl
           refine bC (i:=5) E H (wn rfl) rfl rfl rfl rfl rfl rfl dP rfl rfl fun w H=>nt<|eV<|?_
           clear hI
           exact aD<|have H:=H.drs [0,0,2];have H:=H.frs [1,1,2,5,5,5] rfl;⟨S,(.slice q288 b.2.2.1.length k7),(.slice q290 b.2.2.2.length k8),b.2.2.1,b.2.2.2,_,E.sel [0,3,4,7,10] rfl,H,e,y,hm⟩
        ·clear E H hm
         rintro a w ⟨V,X,Y,L,M,R,E,H,b2,b3,hm⟩
         unfold tE at hm
         refine sq<|pr 1 E rfl fun a E=>sv E rfl rfl rfl (cD (i:=1) (us:=[g,j]) E H rfl rfl rfl rfl U31 rfl dP) fun a E=>pr 2 E rfl fun a E=>lb E H 1 rfl rfl rfl rfl rfl rfl rfl U9 rfl fun a E=>bd hm fun c k9 hm=>cJ E rfl rfl rfl rfl rfl G6 (lP H (b2 _ g1) (b2 _ g2) b3 k9)<|?_
         rintro _ w ⟨o2,o3,m2,m3,rfl,H⟩ a E
         refine pr 3 E rfl fun a E=>al E H rfl rfl rfl rfl lR fun f7 w a H E=>al E H rfl rfl rfl rfl lR fun f8 w a H E=>?_
         obtain ⟨q92,b5,rfl⟩:=H.rowform (i:=2) rfl
         obtain ⟨q94,b6,rfl⟩:=H.rowform (i:=3) rfl
         refine bC (i:=1) E H (wn rfl) rfl rfl rfl rfl rfl rfl dP rfl rfl fun w H=>?_
         replace H:Sep w (Blk f8 31 [.slice none 0 0,.slice none 0 0]::Blk f7 31 [(.slice q92 c.1.length b5),(.slice q94 c.2.1.length b6)]::Row 62 aG (.slice q92 c.1.length b5) c.1::Row 85 aK (.slice q94 c.2.1.length b6) c.2.1::Row 62 aG m2 c.2.2.1::Row 85 aK m3 c.2.2.2::Blk t 82 [u,x,z,A,m,n,o,p,q]::Blk f 43 (aS x20 s g j l)::Blk k 36 bO::Blk V 31 [X,Y]::Row 62 aG X L::Row 85 aK Y M::Fo) _:=H
         obtain ⟨q96,f9,rfl⟩:=H.rowform (i:=4) rfl
         obtain ⟨q98,g0,rfl⟩:=H.rowform (i:=5) rfl
         refine bC (i:=0) E H (wn rfl) rfl rfl rfl rfl rfl rfl dP rfl rfl fun w H=>nx<|pr 1 E rfl fun a E=>lb E H 9 rfl rfl rfl rfl rfl rfl rfl U28 rfl fun a E=>pr 1 E rfl fun a E=>lb E H 1 rfl rfl rfl rfl rfl rfl rfl U28 rfl fun a E=>bk hm fun e4 hm=>eU (i:=10) E H (wn rfl) rfl rfl rfl rfl rfl rfl (Bj (i:=2) rfl) U28 Jp rfl e4 rfl fun n9 w a H E=>pr 1 E rfl fun a E=>?_
         obtain ⟨q103,T,rfl⟩:=H.rowform (i:=10) rfl
         refine bC (i:=9) E H (wn rfl) rfl rfl rfl rfl rfl rfl Gz rfl rfl fun w H=>nx<|pr 1 E rfl fun a E=>lb E H 9 rfl rfl rfl rfl rfl rfl rfl U29 rfl fun a E=>pr 1 E rfl fun a E=>lb E H 1 rfl rfl rfl rfl rfl rfl rfl U29 rfl fun a E=>bk hm fun e5 hm=>eU (i:=11) E H (wn rfl) rfl rfl rfl rfl rfl rfl (Bj (i:=3) rfl) U29 Jq rfl e5 rfl fun o0 w a H E=>pr 1 E rfl fun a E=>?_
         obtain ⟨q108,U,rfl⟩:=H.rowform (i:=11) rfl
         refine bC (i:=9) E H (wn rfl) rfl rfl rfl rfl rfl rfl U1 rfl rfl fun w H=>nx<|pr 1 E rfl fun a E=>lb E H 9 rfl rfl rfl rfl rfl rfl rfl U28 rfl fun a E=>bk hm fun e6 hm=>cJ E rfl rfl rfl rfl rfl LP (sort_c (ix:=10) H rfl e6)<|?_
         rintro _ w ⟨rfl,H⟩ a E
         refine nx<|pr 1 E rfl fun a E=>lb E H 9 rfl rfl rfl rfl rfl rfl rfl U29 rfl fun a E=>bk hm fun e7 hm=>cJ E rfl rfl rfl rfl rfl LQ (Tn.sort_c (ix:=11) H rfl e7)<|?_
         rintro _ w ⟨rfl,H⟩ a E
         replace H:Sep w (Blk f8 31 [(.slice q96 c.2.2.1.length f9),(.slice q98 c.2.2.2.length g0)]::Blk f7 31 [(.slice q92 c.1.length b5),(.slice q94 c.2.1.length b6)]::Row 62 aG (.slice q92 c.1.length b5) c.1::Row 85 aK (.slice q94 c.2.1.length b6) c.2.1::Row 62 aG (.slice q96 c.2.2.1.length f9) c.2.2.1::Row 85 aK (.slice q98 c.2.2.2.length g0) c.2.2.2::Blk t 82 [u,x,z,A,m,n,o,p,q]::Blk f 43 (aS x20 s g j l)::Blk k 36 bO::Blk V 31 [(.slice q103 (L ++ c.1).length T),(.slice q108 (M ++ c.2.1).length U)]::Row 62 aG (.slice q103 (L ++ c.1).length T) (srtN (L ++ c.1))::Row 85 aK (.slice q108 (M ++ c.2.1).length U) (Tn.srtN (M ++ c.2.1))::Fo) (R):=H
         refine nx<|pr 2 E rfl fun a E=>sv E rfl rfl rfl (cD (i:=9) (us:=[(.slice q103 (L ++ c.1).length T),(.slice q108 (M ++ c.2.1).length U)]) E H rfl rfl rfl rfl U31 rfl dP) fun a E=>pr 3 E rfl fun a E=>bC (i:=6) E H (wn rfl) rfl rfl rfl rfl rfl rfl dP rfl rfl fun w H=>pr 2 E rfl fun a E=>?_
         obtain ⟨q114,l0,rfl⟩:=H.slform b3
         refine bC (i:=6) E H (wn rfl) rfl rfl rfl rfl rfl rfl Vh rfl rfl fun w H=>nx<|sv E rfl rfl rfl (cN E rfl (E.evs rfl) (v:=.agg bO.toArray) (by kernel_rfl)) fun a E=>bC (i:=8) E H (wn rfl) rfl rfl rfl rfl rfl rfl bV rfl rfl fun w H=>nt<|wp_ret<|eC E rfl (dH (i:=8) (us:=bO) H rfl rfl rfl U36 rfl bV)<|have H:=H.nilSl bE;have H:=H.nilSl aG;?_
         refine have H:=H.nilSl aK;have H:=H.nilSl aU;have H:=H.nilSl bN;have H:=H.nilSl (kI .i64);have H:=H.thaw (i:=10) rfl;have H:=H.thaw (i:=10) rfl;have H:=H.drs [0,0,0,0,0,0,1,1,1];?_
         cases hm
         exact ⟨(.slice none 0 0),(.slice none 0 0),(.slice none 0 0),(.slice none 0 0),(.slice none 0 0),(.slice none 0 0),(.slice q103 (L ++ c.1).length T),(.slice q108 (M ++ c.2.1).length U),(.slice q114 I.length l0),rfl,H.reads (aA (t1 mm6) (aA mm6 (aA mm5 (aA mm4 (aA mm3 (aA mm2 (aA mm1 (aA m0 (aA (t8 b3) (fun r hr=>(t8 (b2 r hr))))))))))))⟩

def kY(c:List aJ)(d:List aC)(x20:bM)(e:List bK)(b:Int):Option (aE×(List aJ)×(List aC)):=
  if (b != 0)=true then ((eH b).bind fun f=>some (f,c,d)) else (some ((⟨0,0,false,0,[],(⟨[],[]⟩:aW),e,[],[]⟩:aE),x20.Watches,x20.Sessions))
theorem vQ{B:Nat}{j k c d l m n o p q s t:Value}{u:List aJ}{x:List aC}{x20:bM}{b:List bK}{y:Int}(H:Sep w (Blk B 82 [m,n,o,p,j,k,q,s,t]::Fo) rs)(C:rSl aY j u ∈ rs)(D:rSl aO k x ∈ rs)(e:rSl aY c x20.Watches ∈ rs)(f:rSl aO d x20.Sessions ∈ rs)(g:rSl aU l b ∈ rs){r:aE×(List aJ)×(List aC)}(hm:kY u x x20 b y=some r) :
    Calls Tryz.prog 58 [pt B 0,.agg #[c,d],l,.int .i64 y].toArray w (Ret fun v w'=>∃ G I J K L M N z,.agg (bA r.1 G I J K L M).toArray=v∧Sep w' (Blk B 82 [m,n,o,p,N,z,q,s,t]::Fo) (rSl bE G r.1.Results::rSl aG I r.1.Store.Nodes::rSl aK J r.1.Store.Turns::rSl aU K r.1.Events::rSl bN L r.1.Mounts::rSl (kI .i64) M r.1.Wounded::rSl aY N r.2.1::rSl aO z r.2.2::rs)):=by
 unfold kY at hm
 refine ent Tryz.func58 rfl Tryz.ntmps58 rfl rfl fun a E=>sq<|bS E H (wn rfl) rfl rfl rfl rfl rfl fun V w a H E=>al E H rfl rfl rfl rfl iO fun W w a H E=>nt<|wp_seq<|sq<|pr 2 E rfl fun a E=>nt<|wif E hm rfl (fun hm=>?_) fun hm=>?_
 ·refine sq<|pr 1 E rfl fun a E=>bd hm fun O F hm=>cJ E rfl rfl rfl rfl rfl xU (eS H F)<|?_
  rintro _ w ⟨P,Q,R,S,T,U,rfl,H⟩ a E
  refine bC (i:=0) E H (wn rfl) rfl rfl rfl rfl rfl rfl bV rfl (bF H m0 mm1 mm2 mm3 mm4 mm5) fun w H=>nt<|wp_ret<|aP<|eC E rfl (dH (i:=0) (us:=(bA O P Q R S T U)) H rfl rfl rfl U36 rfl bV)<|have H:=H.drs [0,0];?_
  cases hm
  exact X8 ⟨rfl,H.reads (aA m0 (aA mm1 (aA mm2 (aA mm3 (aA mm4 (aA mm5 (aA (t6 C) (aA (t6 D) (fun r hr=>(t6 hr))))))))))⟩
 ·refine wp_skip<|aD<|sq<|pr 1 E rfl fun a E=>sv E rfl rfl rfl (cD (i:=1) (us:=[c,d]) E H rfl rfl rfl rfl U78 rfl fR) fun a E=>pr 2 E rfl fun a E=>bC (i:=2) E H (wn rfl) rfl rfl rfl rfl rfl rfl fR rfl (iH H e f) fun w H=>nx<|pr 1 E rfl fun a E=>?_
  obtain ⟨q48,A,rfl⟩:=H.slform g
  refine sv E rfl rfl rfl (cN E rfl (E.evs rfl) (v:=.agg #[.int .i64 0,.int .i64 0,.bool false,.int .i64 0,.slice none 0 0,.slice none 0 0,.slice none 0 0,(.slice q48 b.length A),.slice none 0 0,.slice none 0 0]) (by kernel_rfl)) fun a E=>bC (i:=0) E H (wn rfl) rfl rfl rfl rfl rfl rfl bV rfl rfl fun w H=>nt<|wp_ret<|eC E rfl (dH (i:=0) (us:=[.int .i64 0,.int .i64 0,.bool false,.int .i64 0,.slice none 0 0,.slice none 0 0,.slice none 0 0,(.slice q48 b.length A),.slice none 0 0,.slice none 0 0]) H rfl rfl rfl U36 rfl bV)<|have H:=H.nilSl bE;have H:=H.nilSl aG;have H:=H.nilSl aK;have H:=H.nilSl bN;?_
  refine have H:=H.nilSl (kI .i64);have H:=H.drs [0,0];?_
  cases hm
  exact X8 ⟨rfl,H.reads (aA mm4 (aA mm3 (aA mm2 (aA (t5 g) (aA mm1 (aA m0 (aA (t5 e) (aA (t5 f) (fun r hr=>(t5 hr))))))))))⟩

def dG(c:List aC)(x3:Int):Nat→Int→Int→Option (Int×Bool)
  | 0,_,_=>none
  | e+1,b,d=>
    if (decide (b < d))=true then ((idx c (IntKind.i64.wrap (rM .u64 (IntKind.u64.wrap (IntKind.i64.wrap (b+d))) 1))).bind fun j=>(zZ j x3).bind fun f=>if (decide (f < 0))=true then (dG c x3 e (IntKind.i64.wrap ((IntKind.i64.wrap (rM .u64 (IntKind.u64.wrap (IntKind.i64.wrap (b+d))) 1))+1)) d) else (dG c x3 e b (IntKind.i64.wrap (rM .u64 (IntKind.u64.wrap (IntKind.i64.wrap (b+d))) 1)))) else (if (decide (b < (c.length:Int)))=true then ((idx c b).bind fun g=>(zZ g x3).bind fun i=>some (b,i == 0)) else (some (b,false)))
def cX(b:List aC)(x3:Int):Option (Int×Bool):=
  dG b x3 (((b.length:Int) - 0:Int).toNat+1) 0 (b.length:Int)
theorem jD{j:Value}{f:List aC}{x3:Int}(H:Sep w (Fo) rs)(g:rSl aO j f ∈ rs){r:Int×Bool}(hm:cX f x3=some r) :
    Calls Tryz.prog 130 [j,.int .i64 x3,.func (.func 131) #[] #[]].toArray w (Ret fun v w'=>.tuple #[.int .i64 r.1,.bool r.2]=v∧Sep w' (Fo) (rs)):=by
 unfold cX at hm
 refine ent Tryz.func130 rfl Tryz.ntmps130 rfl rfl fun a E=>sq<|pr 2 E rfl fun a E=>nx<|pr 1 E rfl fun a E=>sv E rfl rfl rfl (dB E H rfl rfl g U76) fun a E=>pr 1 E rfl fun a E=>nx<|pr 3 E rfl fun a E=>?_
 refine nt<|wp_seq<|wp_block<|cA (fun e a w=>∃ k l i,Env 49 a [(0,j),(1,.int .i64 x3),(2,.func (.func 131) #[] #[]),(8,.int .i64 (f.length:Int)),(9,.int .i64 k),(10,.int .i64 l)]∧Sep w (Fo) i∧(∀ r,r ∈ rs→r ∈ i)∧dG f x3 e k l=some r) (((f.length:Int) - 0:Int).toNat+1) ?_ ?_
 ·exact X3 ⟨E.to rfl,H,Y0,hm⟩
 ·clear E H hm
  rintro e a w ⟨k,l,i,E,H,c,hm⟩
  cases e with
  | zero=>exact (bW hm rfl).elim
  | succ e=>
   unfold dG at hm
   refine wp_seq<|sq<|pr 3 E rfl fun a E=>nt<|wif E hm rfl (fun hm=>?_) fun hm=>?_
   ·refine wp_skip<|aD<|wp_block<|sq<|pr 4 E rfl fun a E=>sv E rfl rfl rfl (T5 E rfl rfl rfl (by decide)) fun a E=>pr 2 E rfl fun a E=>nx<|pr 3 E rfl fun a E=>?_
    refine bd hm fun A m hm=>dF E H (wn rfl) rfl rfl rfl rfl rfl (c _ g) U76 uZ m fun q11 a H E=>Z9 E H (wn rfl) rfl rfl rfl rfl m0 Gy rfl uZ fun q a H E=>?_
    obtain ⟨s,rfl,h⟩:=G1 H;clear H;have H:=h
    refine pr 1 E rfl fun a E=>bd hm fun t n hm=>aX E (wn rfl) rfl rfl (bP E rfl rfl rfl (Jl _)) (I9 H n)<|?_
    rintro _ w ⟨rfl,H⟩ a E
    refine pr 1 E rfl fun a E=>nt<|wif E hm rfl (fun hm=>?_) fun hm=>?_
    ·exact wp_region_lit<|pr 3 E rfl fun a E=>wpList_nil<|bY<|aD<|⟨e,Nat.lt_succ_self e,X3 ⟨E.to rfl,H,(Y3 c),hm⟩⟩
    ·exact wp_region_lit<|pr 2 E rfl fun a E=>wpList_nil<|bY<|aD<|⟨e,Nat.lt_succ_self e,X3 ⟨E.to rfl,H,(Y3 c),hm⟩⟩
   ·refine wp_exit<|bH<|bH<|dZ<|aD<|sq<|pr 5 E rfl fun a E=>cs hm (fun b hm=>?_) fun b hm=>?_
    ·refine pk 3 E (kc 39 rfl b) rfl fun a E=>bd hm fun u o hm=>dF E H (ws' (d:=39) E rfl rfl rfl rfl b) rfl rfl rfl rfl rfl (c _ g) U76 uZ o fun q19 a H E=>Z9 E H (ws' (d:=39) E rfl rfl rfl rfl b) rfl rfl rfl rfl m0 Gy rfl uZ fun x a H E=>?_
     obtain ⟨y,rfl,h⟩:=G1 H;clear H;have H:=h
     refine pk 1 E (kc 39 rfl b) rfl fun a E=>bd hm fun z p hm=>aX E (ws' (d:=39) E rfl rfl rfl rfl b) rfl rfl (bP E rfl rfl rfl (Jl _)) (I9 H p)<|?_
     rintro _ w ⟨rfl,H⟩ a E
     refine pk 4 E (kc 39 rfl b) rfl fun a E=>nt<|wp_ret<|iE E rfl rfl rfl<|?_
     cases hm
     exact ⟨rfl,H.reads (Y3 c)⟩
    ·refine pk 11 E (kc 39 rfl b) rfl fun a E=>nt<|wp_ret<|iE E rfl rfl rfl<|?_
     cases hm
     exact ⟨rfl,H.reads c⟩

def sP(x1:bK)(x3:Int):Option Bool:=
  some (decide (x1.Num ≤ x3))
theorem S8{x1:bK}{b:Nat}{x3:Int}(H:Sep w (Blk b 2 [.int .i64 x3]::Fo) rs){r:Bool}(hm:sP x1 x3=some r) :
    Calls Tryz.prog 138 [.agg (O1 x1).toArray,pt b 0].toArray w (Ret fun v w'=>.bool r=v∧Sep w' (Blk b 2 [.int .i64 x3]::Fo) (rs)):=by
 unfold sP at hm
 refine ent Tryz.func138 rfl Tryz.ntmps138 rfl rfl fun a E=>sq<|bS E H (wn rfl) rfl rfl rfl rfl rfl fun c w a H E=>pr 1 E rfl fun a E=>nx<|pr 1 E rfl fun a E=>lb E H 0 rfl rfl rfl rfl rfl rfl rfl U2 rfl fun a E=>lb E H 1 rfl rfl rfl rfl rfl rfl rfl U2 rfl fun a E=>pr 2 E rfl fun a E=>?_
 refine nt<|wp_ret<|bB E rfl rfl<|have H:=H.drop 0;?_
 cases hm
 exact ⟨rfl,H.reads Y0⟩

def cU(c:List bK)(d:Int):Nat→Int→Option Int
  | 0,_=>none
  | f+1,b=>
    if (decide (b < (c.length:Int)))=true then ((idx c b).bind fun g=>(sP g d).bind fun e=>if e=true then (some (b)) else (cU c d f (IntKind.i64.wrap (b+1)))) else (some ((-1)))
def hF(b:List bK)(c:Int):Option Int:=
  cU b c (((b.length:Int) - 0:Int).toNat+1) 0
theorem yH{e:Value}{b:List bK}{f:Nat}{g:Int}(H:Sep w (Row 50 aU e b::Blk f 2 [.int .i64 g]::Fo) rs){r:Int}(hm:hF b g=some r) :
    Calls Tryz.prog 199 [e,.func (.func 138) #[] #[pt f 0]].toArray w (Ret fun v w'=>.int .i64 r=v∧Sep w' (Blk f 2 [.int .i64 g]::Row 50 aU e b::Fo) (rs)):=by
 unfold hF at hm
 refine ent Tryz.func199 rfl Tryz.ntmps199 rfl rfl fun a E=>sq<|pr 1 E rfl fun a E=>nt<|wp_seq<|sq<|pr 1 E rfl fun a E=>sv E rfl rfl rfl (lC (i:=0) E H rfl rfl rfl U32) fun a E=>pr 1 E rfl fun a E=>?_
 refine nt<|wp_block<|cA (fun c a w=>∃ o j,Env 19 a [(0,e),(1,.func (.func 138) #[] #[pt f 0]),(7,.int .i64 (b.length:Int)),(8,.int .i64 o)]∧Sep w (Row 50 aU e b::Blk f 2 [.int .i64 g]::Fo) j∧(∀ r,r ∈ rs→r ∈ j)∧cU b g c o=some r) (((b.length:Int) - 0:Int).toNat+1) ?_ ?_
 ·exact ⟨_,_,E.to rfl,H,Y0,hm⟩
 ·clear E H hm
  rintro c a w ⟨o,j,E,H,k,hm⟩
  cases c with
  | zero=>exact (bW hm rfl).elim
  | succ c=>
   unfold cU at hm
   refine sq<|pr 1 E rfl fun a E=>nt<|wp_seq<|wif E hm rfl (fun hm=>?_) fun hm=>?_
   ·refine wp_skip<|aD<|wp_seq<|wp_block<|sq<|pr 2 E rfl fun a E=>nx<|pr 3 E rfl fun a E=>bd hm fun n l hm=>?_
    obtain ⟨q,s,m⟩:=H.rowformNE (i:=0) rfl l
    refine sv E rfl rfl rfl (dL (d:=aU) E m rfl rfl rfl rfl U32 sB l) fun a E=>sv E rfl rfl rfl (iF (i:=0) E H pX m rfl rfl rfl l (us:=[.int .i64 n.Num,.int .i64 n.Kind,.string n.Path,.int .i64 n.Watch]) rfl U50 rfl sB) fun a E=>have H:=H.frs [0,1] rfl;bd hm fun t p hm=>aX E (wn rfl) rfl rfl (bP E rfl rfl rfl (Xk _)) (S8 H p)<|?_
    rintro _ w ⟨rfl,H⟩ a E
    refine nt<|wif E hm rfl (fun hm=>?_) fun hm=>?_
    ·refine sq<|pr 2 E rfl fun a E=>nt<|wp_ret<|bU<|aP<|aP<|bU<|aP<|?_
     refine bB E rfl rfl<|?_
     cases hm
     exact ⟨rfl,H.reads k⟩
    ·exact wp_skip<|bY<|aD<|wp_region_lit<|pr 2 E rfl fun a E=>nt<|have H:=H.frs [0,1] rfl;⟨c,Nat.lt_succ_self c,_,_,E.to rfl,H,k,hm⟩
   ·refine wp_exit<|bH<|bH<|dZ<|aD<|sq<|pr 1 E rfl fun a E=>nt<|wp_ret<|?_
    refine bB E rfl rfl<|have H:=H.frs [0,1] rfl;?_
    cases hm
    exact ⟨rfl,H.reads k⟩

def eX(rec_1:(List bK)→Int→Int→Option (List bK))(d:Int)(b:(List bK))(c:Int):Option (List bK):=
  rec_1 b c (IntKind.i64.wrap (d+1))
def cY(f:Int):Nat→(List bK)→Int→Int→Option (List bK)
  | 0,_,_,_=>none
  | g+1,c,b,d=>
    if (decide (d < (c.length:Int)))=true then ((idx c d).bind fun e=>(sP e f).bind fun i=>if (!i)=true then ((idx c b).bind fun j=>eX (cY f g) d (c.set b.toNat e) (IntKind.i64.wrap (b+1))) else (eX (cY f g) d c b)) else ((ck (0 ≤ b∧b ≤ c.length)).bind fun k=>(ck (0 ≤ b∧b ≤ (c.take b.toNat ++ List.replicate (c.length - b.toNat) (⟨0,0,⟨#[]⟩,0⟩:bK)).length)).bind fun l=>some ((c.take b.toNat ++ List.replicate (c.length - b.toNat) (⟨0,0,⟨#[]⟩,0⟩:bK)).take b.toNat))
def fK(b:List bK)(d:Int):Option (List bK):=
  (hF b d).bind fun c=>if (c == (-1))=true then (some (b)) else (cY d (((b.length:Int) - (IntKind.i64.wrap (c+1)):Int).toNat+1) b c (IntKind.i64.wrap (c+1)))
theorem xK{n:Value}{x:List bK}{c:Nat}{e:Int}(H:Sep w (Row 50 aU n x::Blk c 2 [.int .i64 e]::Fo) rs){r:(List bK)}(hm:fK x e=some r) :
    Calls Tryz.prog 136 [n,.func (.func 138) #[] #[pt c 0]].toArray w (Ret fun v w'=>∃ D,D=v∧Sep w' (Row 50 aU D r::Blk c 2 [.int .i64 e]::Fo) (rs)):=by
 unfold fK at hm
 refine ent Tryz.func136 rfl Tryz.ntmps136 rfl rfl fun a E=>sq<|pr 1 E rfl fun a E=>nx<|pr 2 E rfl fun a E=>bd hm fun G F hm=>xk E rfl rfl rfl rfl rfl HL (yH H F) fun w H a E=>pr 1 E rfl fun a E=>nt<|?_
 refine wp_seq<|sq<|pr 2 E rfl fun a E=>nt<|wif E hm rfl (fun hm=>?_) fun hm=>?_
 ·refine sq<|pr 2 E rfl fun a E=>nt<|wp_ret<|aP<|bB E rfl rfl<|have H:=H.frs [0,1] rfl;?_
  cases hm
  exact ⟨_,rfl,H.reads Y0⟩
 ·refine wp_skip<|aD<|wp_seq<|sq<|pr 3 E rfl fun a E=>nt<|wp_block<|cA (fun f a w=>∃ y z o g,Env 42 a [(0,n),(1,.func (.func 138) #[] #[pt c 0]),(5,.int .i64 z),(6,.int .i64 o)]∧Sep w (Row 50 aU n y::Blk c 2 [.int .i64 e]::Fo) g∧(∀ r,r ∈ rs→r ∈ g)∧cY e f y z o=some r) (((x.length:Int) - (IntKind.i64.wrap (G+1)):Int).toNat+1) ?_ ?_
  ·exact have H:=H.frs [0,1] rfl;X4 ⟨E.to rfl,H,Y0,hm⟩
  ·clear E H hm
   rintro f a w ⟨y,z,o,g,E,H,j,hm⟩
   cases f with
   | zero=>exact (bW hm rfl).elim
   | succ f=>
    unfold cY at hm
    refine wp_seq<|sq<|pr 2 E rfl fun a E=>sv E rfl rfl rfl (lC (i:=0) E H rfl rfl rfl U32) fun a E=>pr 1 E rfl fun a E=>nt<|wif E hm rfl (fun hm=>?_) fun hm=>?_
    ·refine wp_skip<|aD<|aT (fun a w=>∃ p q k,Env 42 a [(0,n),(1,.func (.func 138) #[] #[pt c 0]),(5,.int .i64 q),(6,.int .i64 o)]∧Sep w (Row 50 aU n p::Blk c 2 [.int .i64 e]::Fo) k∧(∀ r,r ∈ rs→r ∈ k)∧eX (cY e f) o p q=some r) ?_ ?_
     ·refine wp_block<|sq<|pr 2 E rfl fun a E=>bd hm fun b l hm=>?_
      obtain ⟨I,J,s⟩:=H.rowformNE (i:=0) rfl l
      refine sv E rfl rfl rfl (dL (d:=aU) E s rfl rfl rfl rfl U32 sB l) fun a E=>sv E rfl rfl rfl (iF (i:=0) E H pX s rfl rfl rfl l (us:=[.int .i64 b.Num,.int .i64 b.Kind,.string b.Path,.int .i64 b.Watch]) rfl U50 rfl sB) fun a E=>al E H rfl rfl rfl rfl Vb fun K w a H E=>bC (i:=0) E H (wn rfl) rfl rfl rfl rfl rfl rfl sB rfl rfl fun w H=>nx<|pr 1 E rfl fun a E=>sv E rfl rfl rfl (cD (i:=0) (us:=(O1 b)) E H rfl rfl rfl rfl U50 rfl sB) fun a E=>have H:=H.frs [1,1,2] rfl;bd hm fun L A hm=>?_
      refine aX E (wn rfl) rfl rfl (bP E rfl rfl rfl (Xk _)) (S8 H A)<|?_
      rintro _ w ⟨rfl,H⟩ a E
      refine pr 1 E rfl fun a E=>nt<|wif E hm rfl (fun hm=>?_) fun hm=>?_
      ·refine sq<|pr 2 E rfl fun a E=>sv E rfl rfl rfl (cD (i:=1) (us:=(O1 b)) E H rfl rfl rfl rfl U50 rfl sB) fun a E=>bd hm fun M m hm=>?_
       obtain ⟨N,O,t⟩:=H.rowformNE (i:=2) rfl m
       refine sv E rfl rfl rfl (dL (d:=aU) E t rfl rfl rfl rfl U32 sB m) fun a E=>z8 (d:=aU) (i:=2) (us:=[.int .i64 b.Num,.int .i64 b.Kind,.string b.Path,.int .i64 b.Watch]) (z':=b) E H pX (wn rfl) rfl t rfl rfl rfl rfl rfl rfl rfl m sB fun w H=>nt<|wp_region_lit<|pr 3 E rfl fun a E=>wpList_nil<|bY<|aD<|have H:=H.drop 1;?_
       exact have H:=H.frs [0,1] rfl;X3 ⟨E.to rfl,H,j,hm⟩
      ·exact wp_skip<|bY<|aD<|have H:=H.drop 1;have H:=H.frs [0,1] rfl;X3 ⟨E.to rfl,H,j,hm⟩
     ·clear E H hm
      rintro a w ⟨p,q,k,E,H,B,hm⟩
      unfold eX at hm
      exact wp_region_lit<|pr 3 E rfl fun a E=>nt<|⟨f,Nat.lt_succ_self f,X4 ⟨E.to rfl,H,B,hm⟩⟩
    ·refine wp_exit<|bH<|bH<|dZ<|aD<|sq<|pr 2 E rfl fun a E=>bk hm fun u hm=>sv E rfl rfl rfl (T7 (d:=aU) (i:=0) E H rfl rfl rfl rfl U32 sB u) fun a E=>?_
     refine E4 (i:=0) (z0:=(⟨0,0,⟨#[]⟩,0⟩:bK)) E H pX (wn rfl) rfl rfl rfl U32 HM rfl rfl rfl u fun w H=>nx<|pr 2 E rfl fun a E=>bk hm fun C hm=>M7 (i:=0) E H pX (wn rfl) rfl rfl rfl rfl rfl rfl U32 sB C fun P a H E=>pr 1 E rfl fun a E=>nt<|wp_ret<|bB E rfl rfl<|?_
     cases hm
     exact ⟨_,rfl,H.reads j⟩

def zJ(x1:bM)(f:Int)(g:Int):Option (bM×(List bK)×Int):=
  (pB x1).bind fun d=>if (!d)=true then (some ((⟨[],[]⟩:bM),[],1)) else ((cX x1.Sessions f).bind fun b=>if (!b.2)=true then (some (x1,[],62)) else ((ck (x1.Sessions.length ≤ LIM)).bind fun i=>(idx x1.Sessions b.1).bind fun x20=>(ck (x20.Events.length ≤ LIM)).bind fun j=>(fK x20.Events g).bind fun c=>(idx x1.Sessions b.1).bind fun e=>(ck (c.length ≤ LIM)).bind fun k=>some ((⟨x1.Watches,x1.Sessions.set b.1.toNat ({ e with Events:=c }:aC)⟩:bM),c,0)))
theorem Lp{x1:bM}{g j:Value}{B C:Int}(H:Sep w (Fo) rs)(b:rSl aY g x1.Watches ∈ rs)(c:rSl aO j x1.Sessions ∈ rs){r:bM×(List bK)×Int}(hm:zJ x1 B C=some r) :
    Calls Tryz.prog 60 [.agg #[g,j],.int .i64 B,.int .i64 C].toArray w (Ret fun v w'=>∃ D F G,.tuple #[.agg #[D,F],G,.int .i64 r.2.2]=v∧Sep w' (Row 50 aU G r.2.1::Fo) (rSl aY D r.1.Watches::rSl aO F r.1.Sessions::rs)):=by
 unfold zJ at hm
 refine ent Tryz.func60 rfl Tryz.ntmps60 rfl rfl fun a E=>sq<|bS E H (wn rfl) rfl rfl rfl rfl rfl fun W w a H E=>bS E H (wn rfl) rfl rfl rfl rfl rfl fun X w a H E=>al E H rfl rfl rfl rfl T8 fun K w a H E=>pr 2 E rfl fun a E=>nt<|wp_seq<|sq<|?_
 refine sv E rfl rfl rfl (cD (i:=2) (us:=[g,j]) E H rfl rfl rfl rfl U78 rfl fR) fun a E=>bd hm fun L s hm=>xk E rfl rfl rfl rfl rfl Jj (w6 H b c s) fun w H a E=>pr 1 E rfl fun a E=>nt<|wif E hm rfl (fun hm=>?_) fun hm=>?_
 ·refine sq<|sv E rfl rfl rfl (cN E rfl (E.evs rfl) (v:=.agg #[.slice none 0 0,.slice none 0 0]) (by kernel_rfl)) fun a E=>bC (i:=0) E H (wn rfl) rfl rfl rfl rfl rfl rfl fR rfl rfl fun w H=>pr 2 E rfl fun a E=>nt<|wp_ret<|aP<|Ot E rfl (dH (i:=0) (us:=[.slice none 0 0,.slice none 0 0]) H rfl rfl rfl U78 rfl fR) (rvT rfl) (rvT rfl)<|have H:=H.nilSl aY;?_
  refine have H:=H.nilSl aO;have H:=H.nilRow 50 aU;have H:=H.drs [1,1,1];?_
  cases hm
  exact X3 ⟨rfl,H.reads (aA mm1 (aA m0 (fun r hr=>(t2 hr))))⟩
 ·refine wp_skip<|aD<|sq<|pr 1 E rfl fun a E=>lb E H 2 rfl rfl rfl rfl rfl rfl rfl U76 rfl fun a E=>pr 1 E rfl fun a E=>bd hm fun M t hm=>xk E rfl rfl rfl rfl rfl Po (jD H c t) fun w H a E=>pr 5 E rfl fun a E=>?_
  refine nt<|wp_seq<|sq<|pr 2 E rfl fun a E=>nt<|wif E hm rfl (fun hm=>?_) fun hm=>?_
  ·refine sq<|sv E rfl rfl rfl (cD (i:=2) (us:=[g,j]) E H rfl rfl rfl rfl U78 rfl fR) fun a E=>bC (i:=0) E H (wn rfl) rfl rfl rfl rfl rfl rfl fR rfl (iH H b c) fun w H=>pr 2 E rfl fun a E=>nt<|wp_ret<|aP<|Ot E rfl (dH (i:=0) (us:=[g,j]) H rfl rfl rfl U78 rfl fR) (rvT rfl) (rvT rfl)<|have H:=H.nilRow 50 aU;?_
   refine have H:=H.drs [1,1,1];?_
   cases hm
   exact X3 ⟨rfl,H.reads (aA b (aA c (fun r hr=>hr)))⟩
  ·refine wp_skip<|aD<|sq<|pr 1 E rfl fun a E=>lb E H 2 rfl rfl rfl rfl rfl rfl rfl U76 rfl fun a E=>bk hm fun u hm=>aX E (wn rfl) rfl rfl (cG E rfl rfl (Jm _)) (fU H c u) fun N w H a E=>pr 1 E rfl fun a E=>?_
   obtain ⟨q18,o,rfl⟩:=H.rowform (i:=0) rfl
   refine bC (i:=3) E H (wn rfl) rfl rfl rfl rfl rfl rfl Le rfl rfl fun w H=>nx<|pr 1 E rfl fun a E=>lb E H 3 rfl rfl rfl rfl rfl rfl rfl U76 rfl fun a E=>pr 1 E rfl fun a E=>bd hm fun x20 e hm=>?_
   obtain ⟨O,P,l⟩:=H.rowformNE (i:=0) rfl e
   refine sv E rfl rfl rfl (dL (d:=aO) E l rfl rfl rfl rfl U76 uZ e) fun a E=>pr 1 E rfl fun a E=>y5 (i:=0) (k:=2) E H l (wn rfl) rfl rfl rfl rfl rfl e rfl U32 rfl fun Q a H E=>?_
   obtain ⟨_,hcs⟩:=H.rd (.head _)
   obtain ⟨p,rfl,-⟩:=dY hcs
   clear hcs
   refine have H:=H.derive1 m0 (rSl aU p x20.Events) (fun ok h=>iG h);?_
   replace E:Env 48 a ((35,p)::_):=E
   refine bk hm fun y hm=>aX E (wn rfl) rfl rfl (cG E rfl rfl (Fv _)) (fG H m0 y) fun R w H a E=>sv E rfl rfl rfl (kH E rfl rfl rfl) fun a E=>have H:=H.frs [4,3,3,4,4] rfl;bd hm fun m z hm=>cJ E rfl rfl rfl rfl rfl HK (xK H z)<|?_
   rintro _ w ⟨S,rfl,H⟩ a E
   refine pr 1 E rfl fun a E=>nx<|pr 1 E rfl fun a E=>lb E H 4 rfl rfl rfl rfl rfl rfl rfl U76 rfl fun a E=>pr 2 E rfl fun a E=>bd hm fun q f hm=>?_
   obtain ⟨T,U,n⟩:=H.rowformNE (i:=2) rfl f
   refine sv E rfl rfl rfl (dL (d:=aO) E n rfl rfl rfl rfl U76 uZ f) fun a E=>pr 1 E rfl fun a E=>?_
   obtain ⟨q38,I,rfl⟩:=H.rowform (i:=0) rfl
   refine have H:=H.thaw (i:=0) rfl;A2 (i:=1) (k:=2) (us:=[(.slice q38 m.length I)]) (y':=({ q with Events:=m }:aC)) E H n (wn rfl) rfl rfl rfl rfl rfl rfl f rfl Pp rfl (fun ok cs hr h=>by obtain ⟨Y,rfl,g1⟩:=dY h;exact lE (x:=({ q with Events:=m }:aC)) (hr _ m0)) fun w H=>nt<|wp_seq<|dw [(0,0),(1,0),(2,1),(3,1),(4,2),(5,2)] [3] [] H (by kernel_rfl) (fun _ _ _ h=>False.elim h.2) fun w W0 hI H=>fbn E [g,(.slice q18 x1.Sessions.length o)] rfl (wn rfl) rfl rfl rfl rfl m0 rfl U78 rfl fR fun a E=>fn 1 E rfl fun a E=>cE rfl<|bk hm fun A hm=>?_
   refine aX E (wn rfl) rfl rfl (cG E rfl rfl (Fv _)) (fG H m0 A) fun V w H a E=>nt<|?_
   refine ⟨⟨_,_,H,(aB mm4 (aL)),(aN)⟩,?_⟩
   refine cE rfl<|?_
   obtain ⟨q43,J,rfl⟩:=H.slform (t3 b)
   refine bC (i:=3) E H (wn rfl) rfl rfl rfl rfl rfl rfl fR rfl rfl fun w H=>nt<|?_
   refine ⟨⟨_,_,H,(aB mm4 (aL)),(aN)⟩,?_⟩
   refine bQ rfl<|pr 1 E rfl fun a E=>nt<|bQ rfl<|pr 1 E rfl fun a E=>nt<|bR<|?_
   clear hI
   refine aD<|wp_ret<|Ot E rfl (dH (i:=3) (us:=[(.slice q43 x1.Watches.length J),(.slice q18 x1.Sessions.length o)]) H rfl rfl rfl U78 rfl fR) (rvT rfl) (rvT rfl)<|have H:=H.thaw (i:=2) rfl;have H:=H.drs [1,1,1];?_
   cases hm
   exact X3 ⟨rfl,H.reads (aA (t4 b) (aA m0 (fun r hr=>(t4 hr))))⟩

def uM(d:List aJ)(e:List aC)(x20:aV):Option (aE×(List aJ)×(List aC)):=
  (zJ (⟨d,e⟩:bM) x20.Watch.Session x20.Epoch).bind fun b=>(kY d e b.1 b.2.1 b.2.2).bind fun c=>some (c.1,c.2.1,c.2.2)
theorem Av{s:Nat}{b c x y z A j k l m n o p:Value}{d:List aJ}{e:List aC}{x20:aV}(H:Sep w (Blk s 82 [j,k,l,m,b,c,n,o,p]::Fo) rs)(f:rSl aY b d ∈ rs)(g:rSl aO c e ∈ rs){r:aE×(List aJ)×(List aC)}(hm:uM d e x20=some r) :
    Calls Tryz.prog 22 [pt s 0,.agg (aS x20 x y z A).toArray].toArray w (Ret fun v w'=>∃ B C D F G I J q,.agg (bA r.1 B C D F G I).toArray=v∧Sep w' (Blk s 82 [j,k,l,m,J,q,n,o,p]::Fo) (rSl bE B r.1.Results::rSl aG C r.1.Store.Nodes::rSl aK D r.1.Store.Turns::rSl aU F r.1.Events::rSl bN G r.1.Mounts::rSl (kI .i64) I r.1.Wounded::rSl aY J r.2.1::rSl aO q r.2.2::rs)):=by
 unfold uM at hm
 refine ent Tryz.func22 rfl Tryz.ntmps22 rfl rfl fun a E=>sq<|bS E H (wn rfl) rfl rfl rfl rfl rfl fun R w a H E=>al E H rfl rfl rfl rfl iO fun S w a H E=>nt<|wp_seq<|dwc [(0,0),(1,0),(2,0),(3,0),(5,0),(6,0),(8,0),(4,0),(7,0),(9,1),(10,1),(11,0),(12,0),(13,0),(14,2),(15,2)] [1,2] [] H (by kernel_rfl) (fun _ _ _ h=>False.elim h.2) fun w W0 hI H=>fn 7 E rfl fun a E=>fbn E [b,c] rfl (wn rfl) rfl rfl rfl rfl mm1 rfl U78 rfl fR fun a E=>?_
 refine fb E rfl (wn rfl) rfl rfl rfl rfl m0 rfl U2 rfl fun a E=>cE rfl<|lb E H 1 rfl rfl rfl rfl rfl rfl rfl U2 rfl fun a E=>nt<|?_
 refine ⟨⟨_,_,H,(aB mm1 (aB mm2 (aL))),(aN)⟩,?_⟩
 refine cE rfl<|bd hm fun T t hm=>cJ E rfl rfl rfl rfl rfl KQ (Lp (x1:=(⟨d,e⟩:bM)) H f g t)<|?_
 rintro _ w ⟨U,V,W,rfl,H⟩ a E
 refine nt<|?_
 refine ⟨⟨_,_,H,(aB mm2 (aB mm3 (aL))),(aN)⟩,?_⟩
 refine fn 3 E rfl fun a E=>bQ rfl<|have H:=H.thaw (i:=0) rfl;have H:=H.frs [1,1,2] rfl;bd hm fun K u hm=>cJ E rfl rfl rfl rfl rfl Vc (vQ H (t3 f) (t3 g) mm1 mm2 m0 u)<|?_
 rintro _ w ⟨L,M,N,O,P,Q,X,Y,rfl,H⟩ a E
 refine nt<|bQ rfl<|bC (i:=1) E H (wn rfl) rfl rfl rfl rfl rfl rfl bV rfl (bF H m0 mm1 mm2 mm3 mm4 mm5) fun w H=>nt<|bR<|?_
 clear hI
 refine aD<|wp_ret<|eC E rfl (dH (i:=1) (us:=(bA K.1 L M N O P Q)) H rfl rfl rfl U36 rfl bV)<|have H:=H.drs [1,1];?_
 cases hm
 exact X8 ⟨rfl,H.reads (aA m0 (aA mm1 (aA mm2 (aA mm3 (aA mm4 (aA mm5 (aA mm6 (aA (t1 mm6) (fun r hr=>(t3 (t8 hr)))))))))))⟩

def nT(b:aE×(List aJ)×(List aC))(c:(List ((Int)×aE))):Option (aE×(List aJ)×(List aC)×(List ((Int)×aE))):=
  some (b.1,b.2.1,b.2.2,c)
def kZ(b:aE×(List aJ)×(List aC))(c:List ((Int)×aE))(x20:aV)(e:Bool):Option (aE×(List aJ)×(List aC)×(List ((Int)×aE))):=
  if e=true then ((mpt (kyI .i64) c x20.Id b.1).bind fun d=>nT b d) else (nT b c)
def nU(c:List ((Int)×aE))(x20:aV)(d:List aJ)(e:List aC)(f:Bool):Option (aE×(List aJ)×(List aC)×(List ((Int)×aE))):=
  if f=true then ((eH 2).bind fun g=>some (g,d,e,c)) else ((uM d e x20).bind fun b=>if (x20.Id != 0)=true then (if (b.1.Err != 131)=true then (kZ b c x20 (b.1.Err != 132)) else (kZ b c x20 false)) else (kZ b c x20 false))
def rI(b:List ((Int)×aE))(x20:aV)(c:List aJ)(d:List aC)(e:Bool)(f:Int)(g:Int)(i:Bool)(j:Int)(k:(List cR))(l:(List aF))(m:(List aI))(n:(List bK))(o:(List oB))(p:(List Int)):Option (aE×(List aJ)×(List aC)×(List ((Int)×aE))):=
  if e=true then (some ((⟨f,g,i,j,k,(⟨l,m⟩:aW),n,o,p⟩:aE),c,d,b)) else (if (x20.Id != 0)=true then (nU b x20 c d ((b.length:Int) == 512)) else (nU b x20 c d false))
def uN(d:List aJ)(e:List aC)(c:List ((Int)×aE))(x20:aV):Option (aE×(List aJ)×(List aC)×(List ((Int)×aE))):=
  (K5 (kyI .i64) c x20.Id qP).bind fun b=>rI c x20 d e b.2 b.1.Err b.1.At b.1.Yes b.1.Epoch b.1.Results b.1.Store.Nodes b.1.Store.Turns b.1.Events b.1.Mounts b.1.Wounded
theorem Aw{o f:Nat}{O P I J L M p q s t u x:Value}{c0:List aJ}{c1:List aC}{y:List ((Int)×aE)}{x20:aV}(H:Sep w (Blk o 82 [p,q,s,t,O,P,.map (some f),u,x]::cC Tryz.prog 2 (kyI .i64) bI true f y::Fo) rs)(b7:rSl aY O c0 ∈ rs)(b8:rSl aO P c1 ∈ rs){r:aE×(List aJ)×(List aC)×(List ((Int)×aE))}(hm:uN c0 c1 y x20=some r) :
    Calls Tryz.prog 25 [pt o 0,.agg (aS x20 I J L M).toArray,.func (.func 22) #[] #[]].toArray w (Ret fun v w'=>∃ f9 g0 g1 g2 g3 g4 g5 f3,.agg (bA r.1 f9 g0 g1 g2 g3 g4).toArray=v∧Sep w' (Blk o 82 [p,q,s,t,g5,f3,.map (some f),u,x]::cC Tryz.prog 2 (kyI .i64) bI true f r.2.2.2::Fo) (rSl bE f9 r.1.Results::rSl aG g0 r.1.Store.Nodes::rSl aK g1 r.1.Store.Turns::rSl aU g2 r.1.Events::rSl bN g3 r.1.Mounts::rSl (kI .i64) g4 r.1.Wounded::rSl aY g5 r.2.1::rSl aO f3 r.2.2.1::rs)):=by
 unfold uN at hm
 refine ent Tryz.func25 rfl Tryz.ntmps25 rfl rfl fun a E=>sq<|bS E H (wn rfl) rfl rfl rfl rfl rfl fun l w a H E=>al E H rfl rfl rfl rfl iO fun z w a H E=>nt<|wp_seq<|aT (fun a w=>∃ c9 X Y Z b0 b1 b2 d0 b3 b4 b5 b6 d1 d2 d3 d4 d5 d6 g,Env 59 a [(0,pt o 0),(2,.func (.func 22) #[] #[]),(4,pt l 0),(6,pt z 0),(7,pt c9 0),(8,.bool d0)]∧Sep w (Blk o 82 [p,q,s,t,O,P,.map (some f),u,x]::Blk l 43 (aS x20 I J L M)::Blk z 36 bO::Blk c9 36 [.int .i64 b3,.int .i64 b4,.bool b5,.int .i64 b6,X,Y,Z,b0,b1,b2]::cC Tryz.prog 2 (kyI .i64) bI true f y::Fo) g∧(∀ r,r ∈ rs→r ∈ g)∧rSl bE X d1 ∈ g∧rSl aG Y d2 ∈ g∧rSl aK Z d3 ∈ g∧rSl aU b0 d4 ∈ g∧rSl bN b1 d5 ∈ g∧rSl (kI .i64) b2 d6 ∈ g∧rI y x20 c0 c1 d0 b3 b4 b5 b6 d1 d2 d3 d4 d5 d6=some r) ?_ ?_
 ·refine bd hm fun i3 c2 hm=>?_
  have hI:eK [Blk l 43 (aS x20 I J L M),Blk o 82 [p,q,s,t,O,P,.map (some f),u,x]] [] { w with drawn:=w.drawn+1 }:=⟨_,_,H.kept (Kp.drawn _ w _),(aB mm1 (aB mm2 (aL))),(aN)⟩
  refine lZ _ (.go 0 0 (.go 1 0 (.go 2 0 (.go 3 0 (.go 4 0 (.go 5 0 (.alt 6 (.go 7 0 (.go 8 0 (.go 9 0 (.go 10 1 (.go 11 1 (.go 12 2 .nil)))))) 10 (.go 6 1 (.go 7 0 (.go 8 0 (.go 9 0 (.go 11 1 (.go 12 2 .nil))))))))))))) [12] mI (by kernel_rfl) (fun _ _ _ h=>False.elim h.2) hI<|have H:=H.kept (Kp.drawn _ w (w.drawn+1));?_
  generalize ({ w with drawn:=w.drawn+1 }:World)=w at H hI ⊢
  replace hI:∃ W,eK [Blk l 43 (aS x20 I J L M),Blk o 82 [p,q,s,t,O,P,.map (some f),u,x]] [] W:=⟨_,hI⟩
  obtain ⟨W0,hI⟩:=hI
  refine aZ E rfl (wn rfl) rfl rfl (fun w hW=>(bD E rfl rfl)) fun a E=>aZ E rfl (wn rfl) rfl rfl (fun w hW=>(wE E rfl rfl)) fun a E=>aZ E rfl (wn rfl) rfl rfl (fun w hW=>lB E rfl rfl (v:=pt o 6) (Ah _ _)) fun a E=>aZ E rfl (wn rfl) rfl rfl (fun w hW=>gK E rfl rfl (mE mm1 rfl U79 rfl w hW)) fun a E=>aZ E rfl (wn rfl) rfl rfl (fun w hW=>lB E rfl rfl (v:=pt l 1) (Ag _ _)) fun a E=>aZ E rfl (wn rfl) rfl rfl (fun w hW=>gK E rfl rfl (mE m0 rfl U2 rfl w hW)) fun a E=>?_
  refine mS rfl rfl ?_ ?_
  ·refine oD (i:=3) (K:=(kyI .i64)) E H (wn rfl) rfl rfl rfl rfl rfl rfl (fD U2) U79 A8 K8 c2 fun i4 a H E=>?_
   obtain ⟨i5,i6,i7,i8,i9,j0,rfl,h⟩:=lF H;clear H;have H:=h
   refine nt<|?_
   refine ⟨⟨_,_,H,(aB mm1 (aB mm2 (aL))),(aN)⟩,?_⟩
   refine aZ E rfl (wn rfl) rfl rfl (fun w hW=>(bD E rfl rfl)) fun a E=>aZ E rfl (wn rfl) rfl rfl (fun w hW=>(dK E rfl rfl rfl)) fun a E=>aZ E rfl (wn rfl) rfl rfl (fun w hW=>(dK E rfl rfl rfl)) fun a E=>cP rfl<|al E H rfl rfl rfl rfl iO fun j1 w a H E=>nt<|?_
   refine ⟨⟨_,_,H,(aB mm2 (aB mm3 (aL))),(aN)⟩,?_⟩
   refine cP rfl<|bC (i:=0) E H (wn rfl) rfl rfl rfl rfl rfl rfl bV rfl (bF H mm5 mm4 mm3 mm2 mm1 m0) fun w H=>nt<|?_
   refine ⟨⟨_,_,H,(aB mm2 (aB mm3 (aL))),(aN)⟩,?_⟩
   refine dA rfl<|pr 1 E rfl fun a E=>nt<|eV<|?_
   clear hI
   exact aD<|have H:=H.frs [4,1,2,3,4] rfl;X19 ⟨E.to rfl,H,(Y7 Y0),mm5,mm4,mm3,mm2,mm1,m0,hm⟩
  ·refine al E H rfl rfl rfl rfl iO fun j2 w a H E=>nt<|?_
   refine ⟨⟨_,_,H,(aB mm2 (aB mm3 (aL))),(aN)⟩,?_⟩
   refine cP rfl<|oD (i:=4) (K:=(kyI .i64)) E H (wn rfl) rfl rfl rfl rfl rfl rfl (fD U2) U79 A8 K8 c2 fun j3 a H E=>?_
   obtain ⟨j4,j5,j6,j7,j8,j9,rfl,h⟩:=lF H;clear H;have H:=h
   refine nt<|?_
   refine ⟨⟨_,_,H,(aB mm2 (aB mm3 (aL))),(aN)⟩,?_⟩
   refine aZ E rfl (wn rfl) rfl rfl (fun w hW=>(bD E rfl rfl)) fun a E=>aZ E rfl (wn rfl) rfl rfl (fun w hW=>(dK E rfl rfl rfl)) fun a E=>aZ E rfl (wn rfl) rfl rfl (fun w hW=>(dK E rfl rfl rfl)) fun a E=>cP rfl<|bC (i:=0) E H (wn rfl) rfl rfl rfl rfl rfl rfl bV rfl (bF H mm5 mm4 mm3 mm2 mm1 m0) fun w H=>nt<|?_
   refine ⟨⟨_,_,H,(aB mm2 (aB mm3 (aL))),(aN)⟩,?_⟩
   refine dA rfl<|pr 1 E rfl fun a E=>nt<|eV<|?_
   clear hI
   exact aD<|have H:=H.frs [4,1,2,3,4] rfl;X19 ⟨E.to rfl,H,(Y7 Y0),mm5,mm4,mm3,mm2,mm1,m0,hm⟩
 ·clear E H hm
  rintro a w ⟨c9,X,Y,Z,b0,b1,b2,d0,b3,b4,b5,b6,d1,d2,d3,d4,d5,d6,g,E,H,N,d7,d8,d9,e0,e1,e2,hm⟩
  unfold rI at hm
  refine sq<|pr 1 E rfl fun a E=>nt<|wif E hm rfl (fun hm=>?_) fun hm=>?_
  ·refine sq<|sv E rfl rfl rfl (cD (i:=3) (us:=[.int .i64 b3,.int .i64 b4,.bool b5,.int .i64 b6,X,Y,Z,b0,b1,b2]) E H rfl rfl rfl rfl U36 rfl bV) fun a E=>bC (i:=2) E H (wn rfl) rfl rfl rfl rfl rfl rfl bV rfl (bF H d7 d8 d9 e0 e1 e2) fun w H=>nt<|wp_ret<|aP<|eC E rfl (dH (i:=2) (us:=[.int .i64 b3,.int .i64 b4,.bool b5,.int .i64 b6,X,Y,Z,b0,b1,b2]) H rfl rfl rfl U36 rfl bV)<|have H:=H.drs [1,1,1];?_
   cases hm
   exact X8 ⟨rfl,H.reads (aA d7 (aA d8 (aA d9 (aA e0 (aA e1 (aA e2 (aA (N _ b7) (aA (N _ b8) (N)))))))))⟩
  ·refine wp_skip<|aD<|wp_seq<|aT (fun a w=>∃ e3 b9,Env 59 a [(0,pt o 0),(2,.func (.func 22) #[] #[]),(4,pt l 0),(6,pt z 0),(32,.bool e3)]∧Sep w (Blk o 82 [p,q,s,t,O,P,.map (some f),u,x]::Blk l 43 (aS x20 I J L M)::Blk z 36 bO::cC Tryz.prog 2 (kyI .i64) bI true f y::Fo) b9∧(∀ r,r ∈ rs→r ∈ b9)∧nU y x20 c0 c1 e3=some r) ?_ ?_
   ·refine wp_region_lit<|pr 1 E rfl fun a E=>lb E H 1 rfl rfl rfl rfl rfl rfl rfl U2 rfl fun a E=>pr 2 E rfl fun a E=>cs hm (fun k hm=>?_) fun k hm=>?_
    ·exact pk 3 E (kc 25 rfl k) rfl fun a E=>aQ E (ws' (d:=25) E rfl rfl rfl rfl k) rfl rfl (bT (i:=0) E H rfl rfl rfl rfl U79 rfl) fun a E=>aQ E (ws' (d:=25) E rfl rfl rfl rfl k) rfl rfl (F2 (i:=4) E H rfl rfl rfl U79) fun a E=>pk 2 E (kc 25 rfl k) rfl fun a E=>nt<|have H:=H.drop 3;⟨_,_,E.to rfl,H,N,hm⟩
    ·exact pk 7 E (kc 25 rfl k) rfl fun a E=>nt<|have H:=H.drop 3;⟨_,_,E.to rfl,H,N,hm⟩
   ·clear E H hm
    rintro a w ⟨e3,b9,E,H,j,hm⟩
    unfold nU at hm
    refine wif E hm rfl (fun hm=>?_) fun hm=>?_
    ·refine sq<|bd hm fun g6 f4 hm=>cJ E rfl rfl rfl rfl rfl xU (eS H f4)<|?_
     rintro _ w ⟨g7,g8,g9,i0,i1,i2,rfl,H⟩ a E
     refine bC (i:=2) E H (wn rfl) rfl rfl rfl rfl rfl rfl bV rfl (bF H m0 mm1 mm2 mm3 mm4 mm5) fun w H=>nt<|wp_ret<|aP<|eC E rfl (dH (i:=2) (us:=(bA g6 g7 g8 g9 i0 i1 i2)) H rfl rfl rfl U36 rfl bV)<|have H:=H.drs [1,1];?_
     cases hm
     exact X8 ⟨rfl,H.reads (aA m0 (aA mm1 (aA mm2 (aA mm3 (aA mm4 (aA mm5 (aA (t6 (j _ b7)) (aA (t6 (j _ b8)) (fun r hr=>(t6 (j r hr)))))))))))⟩
    ·refine wp_skip<|aD<|sq<|pr 2 E rfl fun a E=>sv E rfl rfl rfl (cD (i:=1) (us:=(aS x20 I J L M)) E H rfl rfl rfl rfl U43 rfl G4) fun a E=>bd hm fun b f5 hm=>aX E (wn rfl) rfl rfl (bP E rfl rfl rfl (KP _)) (Av H (j _ b7) (j _ b8) f5)<|?_
     rintro _ w ⟨A,B,C,D,F,G,c3,c4,rfl,H⟩ a E
     refine al E H rfl rfl rfl rfl iO fun c5 w a H E=>bC (i:=0) E H (wn rfl) rfl rfl rfl rfl rfl rfl bV rfl (bF H m0 mm1 mm2 mm3 mm4 mm5) fun w H=>nt<|aT (fun a w=>∃ e4 e,Env 59 a [(6,pt z 0),(9,pt c5 0)]∧Sep w (Blk z 36 bO::Blk c5 36 (bA b.1 A B C D F G)::Blk o 82 [p,q,s,t,c3,c4,.map (some f),u,x]::cC Tryz.prog 2 (kyI .i64) bI true f e4::Fo) e∧(∀ r,r ∈ rs→r ∈ e)∧rSl bE A b.1.Results ∈ e∧rSl aG B b.1.Store.Nodes ∈ e∧rSl aK C b.1.Store.Turns ∈ e∧rSl aU D b.1.Events ∈ e∧rSl bN F b.1.Mounts ∈ e∧rSl (kI .i64) G b.1.Wounded ∈ e∧rSl aY c3 b.2.1 ∈ e∧rSl aO c4 b.2.2 ∈ e∧nT b e4=some r) ?_ ?_
     ·refine aT (fun a w=>∃ e5 c,Env 59 a [(0,pt o 0),(4,pt l 0),(6,pt z 0),(9,pt c5 0),(50,.bool e5)]∧Sep w (Blk o 82 [p,q,s,t,c3,c4,.map (some f),u,x]::Blk l 43 (aS x20 I J L M)::Blk z 36 bO::Blk c5 36 (bA b.1 A B C D F G)::cC Tryz.prog 2 (kyI .i64) bI true f y::Fo) c∧(∀ r,r ∈ rs→r ∈ c)∧rSl aY c3 b.2.1 ∈ c∧rSl aO c4 b.2.2 ∈ c∧rSl bE A b.1.Results ∈ c∧rSl aG B b.1.Store.Nodes ∈ c∧rSl aK C b.1.Store.Turns ∈ c∧rSl aU D b.1.Events ∈ c∧rSl bN F b.1.Mounts ∈ c∧rSl (kI .i64) G b.1.Wounded ∈ c∧kZ b y x20 e5=some r) ?_ ?_
      ·refine wp_region_lit<|pr 1 E rfl fun a E=>lb E H 2 rfl rfl rfl rfl rfl rfl rfl U2 rfl fun a E=>pr 2 E rfl fun a E=>cs hm (fun m hm=>?_) fun m hm=>?_
       ·refine pk 1 E (kc 41 rfl m) rfl fun a E=>aQ E (ws' (d:=41) E rfl rfl rfl rfl m) rfl rfl (bT (i:=0) E H rfl rfl rfl rfl U26 rfl) fun a E=>pk 3 E (kc 41 rfl m) rfl fun a E=>cs hm (fun n hm=>?_) fun n hm=>?_
        ·exact pk 1 E (kc 46 rfl n) rfl fun a E=>aQ E (ws' (d:=46) E rfl rfl rfl rfl n) rfl rfl (bT (i:=0) E H rfl rfl rfl rfl U26 rfl) fun a E=>pk 2 E (kc 46 rfl n) rfl fun a E=>nt<|have H:=H.frs [4,1,4,4,4] rfl;⟨_,_,E.to rfl,H,(Y8 j),mm6,(t1 mm6),m0,mm1,mm2,mm3,mm4,mm5,hm⟩
        ·exact pk 4 E (kc 46 rfl n) rfl fun a E=>nt<|have H:=H.frs [4,1,4,4,4] rfl;⟨_,_,E.to rfl,H,(Y8 j),mm6,(t1 mm6),m0,mm1,mm2,mm3,mm4,mm5,hm⟩
       ·exact pk 9 E (kc 41 rfl m) rfl fun a E=>nt<|have H:=H.frs [4,1,4,4,4] rfl;⟨_,_,E.to rfl,H,(Y8 j),mm6,(t1 mm6),m0,mm1,mm2,mm3,mm4,mm5,hm⟩
      ·clear E H hm
       rintro a w ⟨e5,c,E,H,c6,c7,c8,Q,R,S,T,U,V,hm⟩
       unfold kZ at hm
       refine wif E hm rfl (fun hm=>?_) fun hm=>?_
       ·refine dw [(0,0),(1,0),(2,0),(3,0),(4,0),(5,0),(6,0),(7,2)] [0,1,3] [] H (by kernel_rfl) (fun _ _ _ h=>False.elim h.2) fun w W0 hI H=>fn 3 E rfl fun a E=>fb E rfl (wn rfl) rfl rfl rfl rfl m0 rfl U79 rfl fun a E=>fn 1 E rfl fun a E=>fb E rfl (wn rfl) rfl rfl rfl rfl mm1 rfl U2 rfl fun a E=>fbn E (bA b.1 A B C D F G) rfl (wn rfl) rfl rfl rfl rfl mm2 rfl U36 rfl bV fun a E=>bQ rfl<|bd hm fun k0 f2 hm=>C9 (i:=4) (K:=(kyI .i64)) (v:=b.1) (cs:=[.int .i64 b.1.Err,.int .i64 b.1.At,.bool b.1.Yes,.int .i64 b.1.Epoch,A,B,C,D,F,G]) E H (wn rfl) rfl rfl rfl rfl rfl rfl (fD U2) U79 f2 (fun ok hr=>(oF (hr _ Q) (hr _ R) (hr _ S) (hr _ T) (hr _ U) (hr _ V))) fun w H=>?_
        refine nt<|bR<|?_
        clear hI
        exact aD<|have H:=H.drop 1;have H:=H.frs [3,1,3,3] rfl;⟨_,_,E.to rfl,H,c6,Q,R,S,T,U,V,c7,c8,hm⟩
       ·exact wp_skip<|aD<|have H:=H.drop 1;have H:=H.frs [3,1,3,3] rfl;⟨_,_,E.to rfl,H,c6,Q,R,S,T,U,V,c7,c8,hm⟩
     ·clear E H hm
      rintro a w ⟨e4,e,E,H,f6,e6,e7,e8,e9,f0,f1,f7,f8,hm⟩
      unfold nT at hm
      refine sq<|sv E rfl rfl rfl (cD (i:=1) (us:=(bA b.1 A B C D F G)) E H rfl rfl rfl rfl U36 rfl bV) fun a E=>bC (i:=0) E H (wn rfl) rfl rfl rfl rfl rfl rfl bV rfl (bF H e6 e7 e8 e9 f0 f1) fun w H=>nt<|wp_ret<|eC E rfl (dH (i:=0) (us:=(bA b.1 A B C D F G)) H rfl rfl rfl U36 rfl bV)<|have H:=H.drs [0,0];?_
      cases hm
      exact X8 ⟨rfl,H.reads (aA e6 (aA e7 (aA e8 (aA e9 (aA f0 (aA f1 (aA f7 (aA f8 (f6)))))))))⟩

def D5(x1:aJ)(x3:Int)(b:Int):Option Bool:=
  if (x1.Session == x3)=true then (some (x1.Num == b)) else (some (false))
theorem Hg{x1:aJ}{c e:Nat}{x3 f:Int}(H:Sep w (Blk c 2 [.int .i64 x3]::Blk e 2 [.int .i64 f]::Fo) rs){r:Bool}(hm:D5 x1 x3 f=some r) :
    Calls Tryz.prog 195 [.agg (eG x1).toArray,pt c 0,pt e 0].toArray w (Ret fun v w'=>.bool r=v∧Sep w' (Blk c 2 [.int .i64 x3]::Blk e 2 [.int .i64 f]::Fo) (rs)):=by
 unfold D5 at hm
 refine ent Tryz.func195 rfl Tryz.ntmps195 rfl rfl fun a E=>sq<|bS E H (wn rfl) rfl rfl rfl rfl rfl fun g w a H E=>pr 1 E rfl fun a E=>nx<|pr 1 E rfl fun a E=>lb E H 0 rfl rfl rfl rfl rfl rfl rfl U2 rfl fun a E=>lb E H 1 rfl rfl rfl rfl rfl rfl rfl U2 rfl fun a E=>pr 2 E rfl fun a E=>cs hm (fun b hm=>?_) fun b hm=>?_
 ·refine pk 1 E (kc 9 rfl b) rfl fun a E=>aQ E (ws' (d:=9) E rfl rfl rfl rfl b) rfl rfl (bT (i:=0) E H rfl rfl rfl rfl U2 rfl) fun a E=>aQ E (ws' (d:=9) E rfl rfl rfl rfl b) rfl rfl (bT (i:=2) E H rfl rfl rfl rfl U2 rfl) fun a E=>pk 3 E (kc 9 rfl b) rfl fun a E=>nt<|wp_ret<|bB E rfl rfl<|have H:=H.drop 0;?_
  cases hm
  exact ⟨rfl,H.reads Y0⟩
 ·refine pk 6 E (kc 9 rfl b) rfl fun a E=>nt<|wp_ret<|bB E rfl rfl<|have H:=H.drop 0;?_
  cases hm
  exact ⟨rfl,H.reads Y0⟩

def fV(c:List aJ)(d:Int)(e:Int):Nat→Int→Option Int
  | 0,_=>none
  | i+1,b=>
    if (decide (b < (c.length:Int)))=true then ((idx c b).bind fun f=>(D5 f d e).bind fun g=>if g=true then (some (b)) else (fV c d e i (IntKind.i64.wrap (b+1)))) else (some ((-1)))
def jR(b:List aJ)(c:Int)(d:Int):Option Int:=
  fV b c d (((b.length:Int) - 0:Int).toNat+1) 0
theorem wT{l:Value}{d:List aJ}{e f:Nat}{g i:Int}(H:Sep w (Blk e 2 [.int .i64 g]::Blk f 2 [.int .i64 i]::Fo) rs)(k:rSl aY l d ∈ rs){r:Int}(hm:jR d g i=some r) :
    Calls Tryz.prog 194 [l,.func (.func 195) #[] #[pt e 0,pt f 0]].toArray w (Ret fun v w'=>.int .i64 r=v∧Sep w' (Blk e 2 [.int .i64 g]::Blk f 2 [.int .i64 i]::Fo) (rs)):=by
 unfold jR at hm
 refine ent Tryz.func194 rfl Tryz.ntmps194 rfl rfl fun a E=>sq<|pr 1 E rfl fun a E=>nt<|wp_seq<|sq<|pr 1 E rfl fun a E=>sv E rfl rfl rfl (dB E H rfl rfl k U75) fun a E=>pr 1 E rfl fun a E=>?_
 refine nt<|wp_block<|cA (fun c a w=>∃ m j,Env 19 a [(0,l),(1,.func (.func 195) #[] #[pt e 0,pt f 0]),(7,.int .i64 (d.length:Int)),(8,.int .i64 m)]∧Sep w (Blk e 2 [.int .i64 g]::Blk f 2 [.int .i64 i]::Fo) j∧(∀ r,r ∈ rs→r ∈ j)∧fV d g i c m=some r) (((d.length:Int) - 0:Int).toNat+1) ?_ ?_
 ·exact ⟨_,_,E.to rfl,H,Y0,hm⟩
 ·clear E H hm
  rintro c a w ⟨m,j,E,H,b,hm⟩
  cases c with
  | zero=>exact (bW hm rfl).elim
  | succ c=>
   unfold fV at hm
   refine sq<|pr 1 E rfl fun a E=>nt<|wp_seq<|wif E hm rfl (fun hm=>?_) fun hm=>?_
   ·refine wp_skip<|aD<|wp_seq<|wp_block<|sq<|pr 2 E rfl fun a E=>nx<|pr 3 E rfl fun a E=>bd hm fun p n hm=>?_
    refine dF E H (wn rfl) rfl rfl rfl rfl rfl (b _ k) U75 sY n fun q13 a H E=>ldf jM E H rfl rfl rfl rfl rfl m0 U39 rfl sY fun a E=>bd hm fun q o hm=>aX E (wn rfl) rfl rfl (bP E rfl rfl rfl (HN _)) (Hg H o)<|?_
    rintro _ w ⟨rfl,H⟩ a E
    refine nt<|wif E hm rfl (fun hm=>?_) fun hm=>?_
    ·refine sq<|pr 2 E rfl fun a E=>nt<|wp_ret<|bU<|aP<|aP<|bU<|aP<|?_
     refine bB E rfl rfl<|?_
     cases hm
     exact ⟨rfl,H.reads (Y1 b)⟩
    ·exact wp_skip<|bY<|aD<|wp_region_lit<|pr 2 E rfl fun a E=>nt<|⟨c,Nat.lt_succ_self c,_,_,E.to rfl,H,(Y1 b),hm⟩
   ·refine wp_exit<|bH<|bH<|dZ<|aD<|sq<|pr 1 E rfl fun a E=>nt<|wp_ret<|?_
    refine bB E rfl rfl<|?_
    cases hm
    exact ⟨rfl,H.reads b⟩

def B5(x1:bM)(c:Int)(d:Int):Option Int:=
  (jR x1.Watches c d).bind fun b=>some (b)
theorem Ax{x1:bM}{c g:Value}{d e:Int}(H:Sep w (Fo) rs)(f:rSl aY c x1.Watches ∈ rs){r:Int}(hm:B5 x1 d e=some r) :
    Calls Tryz.prog 129 [.agg #[c,g],.int .i64 d,.int .i64 e].toArray w (Ret fun v w'=>.int .i64 r=v∧Sep w' (Fo) (rs)):=by
 unfold B5 at hm
 refine ent Tryz.func129 rfl Tryz.ntmps129 rfl rfl fun a E=>sq<|bS E H (wn rfl) rfl rfl rfl rfl rfl fun k w a H E=>bS E H (wn rfl) rfl rfl rfl rfl rfl fun l w a H E=>bS E H (wn rfl) rfl rfl rfl rfl rfl fun i w a H E=>pr 1 E rfl fun a E=>nx<|pr 1 E rfl fun a E=>lb E H 2 rfl rfl rfl rfl rfl rfl rfl U75 rfl fun a E=>?_
 refine sv E rfl rfl rfl (kH E rfl rfl rfl) fun a E=>have H:=H.frs [2,1,2] rfl;bd hm fun j b hm=>xk E rfl rfl rfl rfl rfl Pn (wT H f b) fun w H a E=>pr 1 E rfl fun a E=>nt<|wp_ret<|bB E rfl rfl<|have H:=H.drs [0,0,0];?_
 cases hm
 exact ⟨rfl,H.reads Y0⟩

def H9(x1:bM)(d:Int)(e:Int):Option (bM×Int):=
  (pB x1).bind fun c=>if (!c)=true then (some ((⟨[],[]⟩:bM),1)) else ((B5 x1 d e).bind fun b=>if (decide (b < 0))=true then (some (x1,62)) else ((ck (x1.Watches.length ≤ LIM)).bind fun f=>(ck (0 ≤ b∧b < x1.Watches.length∧IntKind.i64.wrap (b+1)=b+1)).bind fun g=>some ((⟨x1.Watches.eraseIdx b.toNat,x1.Sessions⟩:bM),0)))
theorem W9{x1:bM}{e d:Value}{n o:Int}(H:Sep w (Fo) rs)(b:rSl aY e x1.Watches ∈ rs)(c:rSl aO d x1.Sessions ∈ rs){r:bM×Int}(hm:H9 x1 n o=some r) :
    Calls Tryz.prog 59 [.agg #[e,d],.int .i64 n,.int .i64 o].toArray w (Ret fun v w'=>∃ p q,.tuple #[.agg #[p,q],.int .i64 r.2]=v∧Sep w' (Fo) (rSl aY p r.1.Watches::rSl aO q r.1.Sessions::rs)):=by
 unfold H9 at hm
 refine ent Tryz.func59 rfl Tryz.ntmps59 rfl rfl fun a E=>sq<|bS E H (wn rfl) rfl rfl rfl rfl rfl fun y w a H E=>al E H rfl rfl rfl rfl T8 fun z w a H E=>pr 1 E rfl fun a E=>nt<|wp_seq<|sq<|sv E rfl rfl rfl (cD (i:=1) (us:=[e,d]) E H rfl rfl rfl rfl U78 rfl fR) fun a E=>?_
 refine bd hm fun t j hm=>xk E rfl rfl rfl rfl rfl Jj (w6 H b c j) fun w H a E=>pr 1 E rfl fun a E=>nt<|wif E hm rfl (fun hm=>?_) fun hm=>?_
 ·refine sq<|sv E rfl rfl rfl (cN E rfl (E.evs rfl) (v:=.agg #[.slice none 0 0,.slice none 0 0]) (by kernel_rfl)) fun a E=>bC (i:=0) E H (wn rfl) rfl rfl rfl rfl rfl rfl fR rfl rfl fun w H=>pr 1 E rfl fun a E=>nt<|wp_ret<|aP<|uX E rfl (dH (i:=0) (us:=[.slice none 0 0,.slice none 0 0]) H rfl rfl rfl U78 rfl fR) (rvT rfl)<|have H:=H.nilSl aY;?_
  refine have H:=H.nilSl aO;have H:=H.drs [0,0];?_
  cases hm
  exact ⟨_,_,rfl,H.reads (aA mm1 (aA m0 (fun r hr=>(t2 hr))))⟩
 ·refine wp_skip<|aD<|sq<|sv E rfl rfl rfl (cD (i:=1) (us:=[e,d]) E H rfl rfl rfl rfl U78 rfl fR) fun a E=>pr 2 E rfl fun a E=>bd hm fun f k hm=>xk E rfl rfl rfl rfl rfl Xl (Ax H b k) fun w H a E=>pr 1 E rfl fun a E=>nt<|?_
  refine wp_seq<|sq<|pr 2 E rfl fun a E=>nt<|wif E hm rfl (fun hm=>?_) fun hm=>?_
  ·refine sq<|sv E rfl rfl rfl (cD (i:=1) (us:=[e,d]) E H rfl rfl rfl rfl U78 rfl fR) fun a E=>bC (i:=0) E H (wn rfl) rfl rfl rfl rfl rfl rfl fR rfl (iH H b c) fun w H=>pr 1 E rfl fun a E=>nt<|wp_ret<|aP<|uX E rfl (dH (i:=0) (us:=[e,d]) H rfl rfl rfl U78 rfl fR) (rvT rfl)<|have H:=H.drs [0,0];?_
   cases hm
   exact ⟨_,_,rfl,H.reads (aA b (aA c (fun r hr=>hr)))⟩
  ·refine wp_skip<|aD<|sq<|pr 1 E rfl fun a E=>lb E H 1 rfl rfl rfl rfl rfl rfl rfl U75 rfl fun a E=>bk hm fun l hm=>aX E (wn rfl) rfl rfl (cG E rfl rfl (Jo _)) (gR H b l) fun u w H a E=>pr 3 E rfl fun a E=>bk hm fun m hm=>?_
   refine aX E (wn rfl) rfl rfl (cG E rfl rfl (HO _)) (Wa.delete_c (ix:=0) H rfl m) fun x w H a E=>pr 1 E rfl fun a E=>?_
   obtain ⟨q20,g,rfl⟩:=H.rowform (i:=0) rfl
   refine bC (i:=2) E H (wn rfl) rfl rfl rfl rfl rfl rfl Pr rfl rfl fun w H=>nx<|sv E rfl rfl rfl (cD (i:=2) (us:=[(.slice q20 (x1.Watches.eraseIdx f.toNat).length g),d]) E H rfl rfl rfl rfl U78 rfl fR) fun a E=>?_
   obtain ⟨q22,s,rfl⟩:=H.slform c
   refine bC (i:=1) E H (wn rfl) rfl rfl rfl rfl rfl rfl fR rfl rfl fun w H=>pr 1 E rfl fun a E=>nt<|wp_ret<|uX E rfl (dH (i:=1) (us:=[(.slice q20 (x1.Watches.eraseIdx f.toNat).length g),(.slice q22 x1.Sessions.length s)]) H rfl rfl rfl U78 rfl fR) (rvT rfl)<|have H:=H.thaw (i:=0) rfl;have H:=H.drs [0,0];?_
   cases hm
   exact ⟨_,_,rfl,H.reads (aA m0 (aA (t1 c) (fun r hr=>(t1 hr))))⟩

def tF(c:List aJ)(d:List aC)(e:Int)(f:(List aJ))(g:(List aC)):Option (aE×(List aJ)×(List aC)):=
  (kY c d (⟨f,g⟩:bM) ([]:List bK) e).bind fun b=>some (b.1,b.2.1,b.2.2)
def vR(c:List aJ)(d:List aC)(x20:aV):Option (aE×(List aJ)×(List aC)):=
  (H9 (⟨c,d⟩:bM) x20.Watch.Session x20.Watch.Num).bind fun b=>tF c d b.2 b.1.Watches b.1.Sessions
theorem S9{f:Nat}{c d B C D F g j k l m n o:Value}{p:List aJ}{q:List aC}{x20:aV}(H:Sep w (Blk f 82 [g,j,k,l,c,d,m,n,o]::Fo) rs)(s:rSl aY c p ∈ rs)(t:rSl aO d q ∈ rs){r:aE×(List aJ)×(List aC)}(hm:vR p q x20=some r) :
    Calls Tryz.prog 21 [pt f 0,.agg (aS x20 B C D F).toArray].toArray w (Ret fun v w'=>∃ P Q R S T U V K,.agg (bA r.1 P Q R S T U).toArray=v∧Sep w' (Blk f 82 [g,j,k,l,V,K,m,n,o]::Fo) (rSl bE P r.1.Results::rSl aG Q r.1.Store.Nodes::rSl aK R r.1.Store.Turns::rSl aU S r.1.Events::rSl bN T r.1.Mounts::rSl (kI .i64) U r.1.Wounded::rSl aY V r.2.1::rSl aO K r.2.2::rs)):=by
 unfold vR at hm
 refine ent Tryz.func21 rfl Tryz.ntmps21 rfl rfl fun a E=>sq<|bS E H (wn rfl) rfl rfl rfl rfl rfl fun e w a H E=>al E H rfl rfl rfl rfl iO fun L w a H E=>nt<|aT (fun a w=>∃ G x y I z A b,Env 25 a [(0,pt f 0),(4,pt L 0),(5,pt G 0),(6,.int .i64 I)]∧Sep w (Blk f 82 [g,j,k,l,c,d,m,n,o]::Blk L 36 bO::Blk G 78 [x,y]::Fo) b∧(∀ r,r ∈ rs→r ∈ b)∧rSl aY x z ∈ b∧rSl aO y A ∈ b∧tF p q I z A=some r) ?_ ?_
 ·refine bd hm fun b4 J hm=>?_
  have hI:eK [Blk e 43 (aS x20 B C D F),Blk f 82 [g,j,k,l,c,d,m,n,o]] [] { w with drawn:=w.drawn+1 }:=⟨_,_,H.kept (Kp.drawn _ w _),(aB mm1 (aB mm2 (aL))),(aN)⟩
  refine lZ _ (.go 0 0 (.go 1 0 (.go 2 0 (.go 3 0 (.go 4 0 (.go 5 0 (.go 6 0 (.go 7 0 (.go 8 0 (.go 9 0 (.alt 10 (.go 11 0 (.go 12 0 (.go 13 0 (.go 14 1 (.go 15 1 (.go 16 2 .nil)))))) 14 (.go 10 1 (.go 11 0 (.go 12 0 (.go 13 0 (.go 15 1 (.go 16 2 .nil))))))))))))))))) [16] mI (by kernel_rfl) (fun _ _ _ h=>False.elim h.2) hI<|have H:=H.kept (Kp.drawn _ w (w.drawn+1));?_
  generalize ({ w with drawn:=w.drawn+1 }:World)=w at H hI ⊢
  replace hI:∃ W,eK [Blk e 43 (aS x20 B C D F),Blk f 82 [g,j,k,l,c,d,m,n,o]] [] W:=⟨_,hI⟩
  obtain ⟨W0,hI⟩:=hI
  refine aZ E rfl (wn rfl) rfl rfl (fun w hW=>(bD E rfl rfl)) fun a E=>aZ E rfl (wn rfl) rfl rfl (fun w hW=>(wE E rfl rfl)) fun a E=>aZ E rfl (wn rfl) rfl rfl (fun w hW=>lB E rfl rfl (v:=pt f 4) (Lc _ _)) fun a E=>aZ E rfl (wn rfl) rfl rfl (fun w hW=>gK E rfl rfl (z7 (us:=[c,d]) mm1 rfl U78 rfl fR w hW)) fun a E=>aZ E rfl (wn rfl) rfl rfl (fun w hW=>lB E rfl rfl (v:=pt e 12) (Br _ _)) fun a E=>aZ E rfl (wn rfl) rfl rfl (fun w hW=>lB E rfl rfl (v:=pt e 12) (Fu _ _)) fun a E=>aZ E rfl (wn rfl) rfl rfl (fun w hW=>gK E rfl rfl (mE m0 rfl U2 rfl w hW)) fun a E=>aZ E rfl (wn rfl) rfl rfl (fun w hW=>lB E rfl rfl (v:=pt e 12) (Br _ _)) fun a E=>aZ E rfl (wn rfl) rfl rfl (fun w hW=>lB E rfl rfl (v:=pt e 13) (Lb _ _)) fun a E=>?_
  refine aZ E rfl (wn rfl) rfl rfl (fun w hW=>gK E rfl rfl (mE m0 rfl U2 rfl w hW)) fun a E=>?_
  refine mS rfl rfl ?_ ?_
  ·refine cJ E rfl rfl rfl rfl rfl DE (W9 (x1:=(⟨p,q⟩:bM)) H s t J)<|?_
   rintro _ w ⟨b5,b6,rfl,H⟩ a E
   refine nt<|?_
   refine ⟨⟨_,_,H,(aB mm1 (aB mm2 (aL))),(aN)⟩,?_⟩
   refine aZ E rfl (wn rfl) rfl rfl (fun w hW=>(bD E rfl rfl)) fun a E=>aZ E rfl (wn rfl) rfl rfl (fun w hW=>(dK E rfl rfl rfl)) fun a E=>aZ E rfl (wn rfl) rfl rfl (fun w hW=>(dK E rfl rfl rfl)) fun a E=>cP rfl<|al E H rfl rfl rfl rfl T8 fun b7 w a H E=>nt<|?_
   refine ⟨⟨_,_,H,(aB mm2 (aB mm3 (aL))),(aN)⟩,?_⟩
   refine cP rfl<|bC (i:=0) E H (wn rfl) rfl rfl rfl rfl rfl rfl fR rfl (iH H m0 mm1) fun w H=>nt<|?_
   refine ⟨⟨_,_,H,(aB mm2 (aB mm3 (aL))),(aN)⟩,?_⟩
   refine dA rfl<|pr 1 E rfl fun a E=>nt<|eV<|?_
   clear hI
   exact aD<|have H:=H.drop 2;have H:=H.frs [0,1,2] rfl;X7 ⟨E.to rfl,H,(Y2 Y0),m0,mm1,hm⟩
  ·refine al E H rfl rfl rfl rfl T8 fun b8 w a H E=>nt<|?_
   refine ⟨⟨_,_,H,(aB mm2 (aB mm3 (aL))),(aN)⟩,?_⟩
   refine cP rfl<|cJ E rfl rfl rfl rfl rfl DE (W9 (x1:=(⟨p,q⟩:bM)) H s t J)<|?_
   rintro _ w ⟨b9,c0,rfl,H⟩ a E
   refine nt<|?_
   refine ⟨⟨_,_,H,(aB mm2 (aB mm3 (aL))),(aN)⟩,?_⟩
   refine aZ E rfl (wn rfl) rfl rfl (fun w hW=>(bD E rfl rfl)) fun a E=>aZ E rfl (wn rfl) rfl rfl (fun w hW=>(dK E rfl rfl rfl)) fun a E=>aZ E rfl (wn rfl) rfl rfl (fun w hW=>(dK E rfl rfl rfl)) fun a E=>cP rfl<|bC (i:=0) E H (wn rfl) rfl rfl rfl rfl rfl rfl fR rfl (iH H m0 mm1) fun w H=>nt<|?_
   refine ⟨⟨_,_,H,(aB mm2 (aB mm3 (aL))),(aN)⟩,?_⟩
   refine dA rfl<|pr 1 E rfl fun a E=>nt<|eV<|?_
   clear hI
   exact aD<|have H:=H.drop 2;have H:=H.frs [0,1,2] rfl;X7 ⟨E.to rfl,H,(Y2 Y0),m0,mm1,hm⟩
 ·clear E H hm
  rintro a w ⟨G,x,y,I,z,A,b,E,H,u,M,N,hm⟩
  unfold tF at hm
  refine sq<|pr 1 E rfl fun a E=>sv E rfl rfl rfl (cD (i:=2) (us:=[x,y]) E H rfl rfl rfl rfl U78 rfl fR) fun a E=>pr 1 E rfl fun a E=>have H:=H.nilSl aU;bd hm fun X O hm=>cJ E rfl rfl rfl rfl rfl Vc (vQ (x20:=(⟨z,A⟩:bM)) H (t1 (u _ s)) (t1 (u _ t)) (t1 M) (t1 N) m0 O)<|?_
  rintro _ w ⟨Y,Z,b0,b1,b2,b3,c1,c2,rfl,H⟩ a E
  refine bC (i:=1) E H (wn rfl) rfl rfl rfl rfl rfl rfl bV rfl (bF H m0 mm1 mm2 mm3 mm4 mm5) fun w H=>nt<|wp_ret<|eC E rfl (dH (i:=1) (us:=(bA X.1 Y Z b0 b1 b2 b3)) H rfl rfl rfl U36 rfl bV)<|have H:=H.drs [1,1];?_
  cases hm
  exact X8 ⟨rfl,H.reads (aA m0 (aA mm1 (aA mm2 (aA mm3 (aA mm4 (aA mm5 (aA mm6 (aA (t1 mm6) (fun r hr=>(t1 (t8 (u r hr))))))))))))⟩

def pL(b:aE×(List aJ)×(List aC))(c:(List ((Int)×aE))):Option (aE×(List aJ)×(List aC)×(List ((Int)×aE))):=
  some (b.1,b.2.1,b.2.2,c)
def lV(b:aE×(List aJ)×(List aC))(c:List ((Int)×aE))(x20:aV)(e:Bool):Option (aE×(List aJ)×(List aC)×(List ((Int)×aE))):=
  if e=true then ((mpt (kyI .i64) c x20.Id b.1).bind fun d=>pL b d) else (pL b c)
def pM(c:List ((Int)×aE))(x20:aV)(d:List aJ)(e:List aC)(f:Bool):Option (aE×(List aJ)×(List aC)×(List ((Int)×aE))):=
  if f=true then ((eH 2).bind fun g=>some (g,d,e,c)) else ((vR d e x20).bind fun b=>if (x20.Id != 0)=true then (if (b.1.Err != 131)=true then (lV b c x20 (b.1.Err != 132)) else (lV b c x20 false)) else (lV b c x20 false))
def tT(b:List ((Int)×aE))(x20:aV)(c:List aJ)(d:List aC)(e:Bool)(f:Int)(g:Int)(i:Bool)(j:Int)(k:(List cR))(l:(List aF))(m:(List aI))(n:(List bK))(o:(List oB))(p:(List Int)):Option (aE×(List aJ)×(List aC)×(List ((Int)×aE))):=
  if e=true then (some ((⟨f,g,i,j,k,(⟨l,m⟩:aW),n,o,p⟩:aE),c,d,b)) else (if (x20.Id != 0)=true then (pM b x20 c d ((b.length:Int) == 512)) else (pM b x20 c d false))
def wU(d:List aJ)(e:List aC)(c:List ((Int)×aE))(x20:aV):Option (aE×(List aJ)×(List aC)×(List ((Int)×aE))):=
  (K5 (kyI .i64) c x20.Id qP).bind fun b=>tT c x20 d e b.2 b.1.Err b.1.At b.1.Yes b.1.Epoch b.1.Results b.1.Store.Nodes b.1.Store.Turns b.1.Events b.1.Mounts b.1.Wounded
theorem V3{o f:Nat}{O P I J L M p q s t u x:Value}{c0:List aJ}{c1:List aC}{y:List ((Int)×aE)}{x20:aV}(H:Sep w (Blk o 82 [p,q,s,t,O,P,.map (some f),u,x]::cC Tryz.prog 2 (kyI .i64) bI true f y::Fo) rs)(b7:rSl aY O c0 ∈ rs)(b8:rSl aO P c1 ∈ rs){r:aE×(List aJ)×(List aC)×(List ((Int)×aE))}(hm:wU c0 c1 y x20=some r) :
    Calls Tryz.prog 25 [pt o 0,.agg (aS x20 I J L M).toArray,.func (.func 21) #[] #[]].toArray w (Ret fun v w'=>∃ f9 g0 g1 g2 g3 g4 g5 f3,.agg (bA r.1 f9 g0 g1 g2 g3 g4).toArray=v∧Sep w' (Blk o 82 [p,q,s,t,g5,f3,.map (some f),u,x]::cC Tryz.prog 2 (kyI .i64) bI true f r.2.2.2::Fo) (rSl bE f9 r.1.Results::rSl aG g0 r.1.Store.Nodes::rSl aK g1 r.1.Store.Turns::rSl aU g2 r.1.Events::rSl bN g3 r.1.Mounts::rSl (kI .i64) g4 r.1.Wounded::rSl aY g5 r.2.1::rSl aO f3 r.2.2.1::rs)):=by
 unfold wU at hm
 refine ent Tryz.func25 rfl Tryz.ntmps25 rfl rfl fun a E=>sq<|bS E H (wn rfl) rfl rfl rfl rfl rfl fun l w a H E=>al E H rfl rfl rfl rfl iO fun z w a H E=>nt<|wp_seq<|aT (fun a w=>∃ c9 X Y Z b0 b1 b2 d0 b3 b4 b5 b6 d1 d2 d3 d4 d5 d6 g,Env 59 a [(0,pt o 0),(2,.func (.func 21) #[] #[]),(4,pt l 0),(6,pt z 0),(7,pt c9 0),(8,.bool d0)]∧Sep w (Blk o 82 [p,q,s,t,O,P,.map (some f),u,x]::Blk l 43 (aS x20 I J L M)::Blk z 36 bO::Blk c9 36 [.int .i64 b3,.int .i64 b4,.bool b5,.int .i64 b6,X,Y,Z,b0,b1,b2]::cC Tryz.prog 2 (kyI .i64) bI true f y::Fo) g∧(∀ r,r ∈ rs→r ∈ g)∧rSl bE X d1 ∈ g∧rSl aG Y d2 ∈ g∧rSl aK Z d3 ∈ g∧rSl aU b0 d4 ∈ g∧rSl bN b1 d5 ∈ g∧rSl (kI .i64) b2 d6 ∈ g∧tT y x20 c0 c1 d0 b3 b4 b5 b6 d1 d2 d3 d4 d5 d6=some r) ?_ ?_
 ·refine bd hm fun i3 c2 hm=>?_
  have hI:eK [Blk l 43 (aS x20 I J L M),Blk o 82 [p,q,s,t,O,P,.map (some f),u,x]] [] { w with drawn:=w.drawn+1 }:=⟨_,_,H.kept (Kp.drawn _ w _),(aB mm1 (aB mm2 (aL))),(aN)⟩
  refine lZ _ (.go 0 0 (.go 1 0 (.go 2 0 (.go 3 0 (.go 4 0 (.go 5 0 (.alt 6 (.go 7 0 (.go 8 0 (.go 9 0 (.go 10 1 (.go 11 1 (.go 12 2 .nil)))))) 10 (.go 6 1 (.go 7 0 (.go 8 0 (.go 9 0 (.go 11 1 (.go 12 2 .nil))))))))))))) [12] mI (by kernel_rfl) (fun _ _ _ h=>False.elim h.2) hI<|have H:=H.kept (Kp.drawn _ w (w.drawn+1));?_
  generalize ({ w with drawn:=w.drawn+1 }:World)=w at H hI ⊢
  replace hI:∃ W,eK [Blk l 43 (aS x20 I J L M),Blk o 82 [p,q,s,t,O,P,.map (some f),u,x]] [] W:=⟨_,hI⟩
  obtain ⟨W0,hI⟩:=hI
  refine aZ E rfl (wn rfl) rfl rfl (fun w hW=>(bD E rfl rfl)) fun a E=>aZ E rfl (wn rfl) rfl rfl (fun w hW=>(wE E rfl rfl)) fun a E=>aZ E rfl (wn rfl) rfl rfl (fun w hW=>lB E rfl rfl (v:=pt o 6) (Ah _ _)) fun a E=>aZ E rfl (wn rfl) rfl rfl (fun w hW=>gK E rfl rfl (mE mm1 rfl U79 rfl w hW)) fun a E=>aZ E rfl (wn rfl) rfl rfl (fun w hW=>lB E rfl rfl (v:=pt l 1) (Ag _ _)) fun a E=>aZ E rfl (wn rfl) rfl rfl (fun w hW=>gK E rfl rfl (mE m0 rfl U2 rfl w hW)) fun a E=>?_
  refine mS rfl rfl ?_ ?_
  ·refine oD (i:=3) (K:=(kyI .i64)) E H (wn rfl) rfl rfl rfl rfl rfl rfl (fD U2) U79 A8 K8 c2 fun i4 a H E=>?_
   obtain ⟨i5,i6,i7,i8,i9,j0,rfl,h⟩:=lF H;clear H;have H:=h
   refine nt<|?_
   refine ⟨⟨_,_,H,(aB mm1 (aB mm2 (aL))),(aN)⟩,?_⟩
   refine aZ E rfl (wn rfl) rfl rfl (fun w hW=>(bD E rfl rfl)) fun a E=>aZ E rfl (wn rfl) rfl rfl (fun w hW=>(dK E rfl rfl rfl)) fun a E=>aZ E rfl (wn rfl) rfl rfl (fun w hW=>(dK E rfl rfl rfl)) fun a E=>cP rfl<|al E H rfl rfl rfl rfl iO fun j1 w a H E=>nt<|?_
   refine ⟨⟨_,_,H,(aB mm2 (aB mm3 (aL))),(aN)⟩,?_⟩
   refine cP rfl<|bC (i:=0) E H (wn rfl) rfl rfl rfl rfl rfl rfl bV rfl (bF H mm5 mm4 mm3 mm2 mm1 m0) fun w H=>nt<|?_
   refine ⟨⟨_,_,H,(aB mm2 (aB mm3 (aL))),(aN)⟩,?_⟩
   refine dA rfl<|pr 1 E rfl fun a E=>nt<|eV<|?_
   clear hI
   exact aD<|have H:=H.frs [4,1,2,3,4] rfl;X19 ⟨E.to rfl,H,(Y7 Y0),mm5,mm4,mm3,mm2,mm1,m0,hm⟩
  ·refine al E H rfl rfl rfl rfl iO fun j2 w a H E=>nt<|?_
   refine ⟨⟨_,_,H,(aB mm2 (aB mm3 (aL))),(aN)⟩,?_⟩
   refine cP rfl<|oD (i:=4) (K:=(kyI .i64)) E H (wn rfl) rfl rfl rfl rfl rfl rfl (fD U2) U79 A8 K8 c2 fun j3 a H E=>?_
   obtain ⟨j4,j5,j6,j7,j8,j9,rfl,h⟩:=lF H;clear H;have H:=h
   refine nt<|?_
   refine ⟨⟨_,_,H,(aB mm2 (aB mm3 (aL))),(aN)⟩,?_⟩
   refine aZ E rfl (wn rfl) rfl rfl (fun w hW=>(bD E rfl rfl)) fun a E=>aZ E rfl (wn rfl) rfl rfl (fun w hW=>(dK E rfl rfl rfl)) fun a E=>aZ E rfl (wn rfl) rfl rfl (fun w hW=>(dK E rfl rfl rfl)) fun a E=>cP rfl<|bC (i:=0) E H (wn rfl) rfl rfl rfl rfl rfl rfl bV rfl (bF H mm5 mm4 mm3 mm2 mm1 m0) fun w H=>nt<|?_
   refine ⟨⟨_,_,H,(aB mm2 (aB mm3 (aL))),(aN)⟩,?_⟩
   refine dA rfl<|pr 1 E rfl fun a E=>nt<|eV<|?_
   clear hI
   exact aD<|have H:=H.frs [4,1,2,3,4] rfl;X19 ⟨E.to rfl,H,(Y7 Y0),mm5,mm4,mm3,mm2,mm1,m0,hm⟩
 ·clear E H hm
  rintro a w ⟨c9,X,Y,Z,b0,b1,b2,d0,b3,b4,b5,b6,d1,d2,d3,d4,d5,d6,g,E,H,N,d7,d8,d9,e0,e1,e2,hm⟩
  unfold tT at hm
  refine sq<|pr 1 E rfl fun a E=>nt<|wif E hm rfl (fun hm=>?_) fun hm=>?_
  ·refine sq<|sv E rfl rfl rfl (cD (i:=3) (us:=[.int .i64 b3,.int .i64 b4,.bool b5,.int .i64 b6,X,Y,Z,b0,b1,b2]) E H rfl rfl rfl rfl U36 rfl bV) fun a E=>bC (i:=2) E H (wn rfl) rfl rfl rfl rfl rfl rfl bV rfl (bF H d7 d8 d9 e0 e1 e2) fun w H=>nt<|wp_ret<|aP<|eC E rfl (dH (i:=2) (us:=[.int .i64 b3,.int .i64 b4,.bool b5,.int .i64 b6,X,Y,Z,b0,b1,b2]) H rfl rfl rfl U36 rfl bV)<|have H:=H.drs [1,1,1];?_
   cases hm
   exact X8 ⟨rfl,H.reads (aA d7 (aA d8 (aA d9 (aA e0 (aA e1 (aA e2 (aA (N _ b7) (aA (N _ b8) (N)))))))))⟩
  ·refine wp_skip<|aD<|wp_seq<|aT (fun a w=>∃ e3 b9,Env 59 a [(0,pt o 0),(2,.func (.func 21) #[] #[]),(4,pt l 0),(6,pt z 0),(32,.bool e3)]∧Sep w (Blk o 82 [p,q,s,t,O,P,.map (some f),u,x]::Blk l 43 (aS x20 I J L M)::Blk z 36 bO::cC Tryz.prog 2 (kyI .i64) bI true f y::Fo) b9∧(∀ r,r ∈ rs→r ∈ b9)∧pM y x20 c0 c1 e3=some r) ?_ ?_
   ·refine wp_region_lit<|pr 1 E rfl fun a E=>lb E H 1 rfl rfl rfl rfl rfl rfl rfl U2 rfl fun a E=>pr 2 E rfl fun a E=>cs hm (fun k hm=>?_) fun k hm=>?_
    ·exact pk 3 E (kc 25 rfl k) rfl fun a E=>aQ E (ws' (d:=25) E rfl rfl rfl rfl k) rfl rfl (bT (i:=0) E H rfl rfl rfl rfl U79 rfl) fun a E=>aQ E (ws' (d:=25) E rfl rfl rfl rfl k) rfl rfl (F2 (i:=4) E H rfl rfl rfl U79) fun a E=>pk 2 E (kc 25 rfl k) rfl fun a E=>nt<|have H:=H.drop 3;⟨_,_,E.to rfl,H,N,hm⟩
    ·exact pk 7 E (kc 25 rfl k) rfl fun a E=>nt<|have H:=H.drop 3;⟨_,_,E.to rfl,H,N,hm⟩
   ·clear E H hm
    rintro a w ⟨e3,b9,E,H,j,hm⟩
    unfold pM at hm
    refine wif E hm rfl (fun hm=>?_) fun hm=>?_
    ·refine sq<|bd hm fun g6 f4 hm=>cJ E rfl rfl rfl rfl rfl xU (eS H f4)<|?_
     rintro _ w ⟨g7,g8,g9,i0,i1,i2,rfl,H⟩ a E
     refine bC (i:=2) E H (wn rfl) rfl rfl rfl rfl rfl rfl bV rfl (bF H m0 mm1 mm2 mm3 mm4 mm5) fun w H=>nt<|wp_ret<|aP<|eC E rfl (dH (i:=2) (us:=(bA g6 g7 g8 g9 i0 i1 i2)) H rfl rfl rfl U36 rfl bV)<|have H:=H.drs [1,1];?_
     cases hm
     exact X8 ⟨rfl,H.reads (aA m0 (aA mm1 (aA mm2 (aA mm3 (aA mm4 (aA mm5 (aA (t6 (j _ b7)) (aA (t6 (j _ b8)) (fun r hr=>(t6 (j r hr)))))))))))⟩
    ·refine wp_skip<|aD<|sq<|pr 2 E rfl fun a E=>sv E rfl rfl rfl (cD (i:=1) (us:=(aS x20 I J L M)) E H rfl rfl rfl rfl U43 rfl G4) fun a E=>bd hm fun b f5 hm=>aX E (wn rfl) rfl rfl (bP E rfl rfl rfl (KU _)) (S9 H (j _ b7) (j _ b8) f5)<|?_
     rintro _ w ⟨A,B,C,D,F,G,c3,c4,rfl,H⟩ a E
     refine al E H rfl rfl rfl rfl iO fun c5 w a H E=>bC (i:=0) E H (wn rfl) rfl rfl rfl rfl rfl rfl bV rfl (bF H m0 mm1 mm2 mm3 mm4 mm5) fun w H=>nt<|aT (fun a w=>∃ e4 e,Env 59 a [(6,pt z 0),(9,pt c5 0)]∧Sep w (Blk z 36 bO::Blk c5 36 (bA b.1 A B C D F G)::Blk o 82 [p,q,s,t,c3,c4,.map (some f),u,x]::cC Tryz.prog 2 (kyI .i64) bI true f e4::Fo) e∧(∀ r,r ∈ rs→r ∈ e)∧rSl bE A b.1.Results ∈ e∧rSl aG B b.1.Store.Nodes ∈ e∧rSl aK C b.1.Store.Turns ∈ e∧rSl aU D b.1.Events ∈ e∧rSl bN F b.1.Mounts ∈ e∧rSl (kI .i64) G b.1.Wounded ∈ e∧rSl aY c3 b.2.1 ∈ e∧rSl aO c4 b.2.2 ∈ e∧pL b e4=some r) ?_ ?_
     ·refine aT (fun a w=>∃ e5 c,Env 59 a [(0,pt o 0),(4,pt l 0),(6,pt z 0),(9,pt c5 0),(50,.bool e5)]∧Sep w (Blk o 82 [p,q,s,t,c3,c4,.map (some f),u,x]::Blk l 43 (aS x20 I J L M)::Blk z 36 bO::Blk c5 36 (bA b.1 A B C D F G)::cC Tryz.prog 2 (kyI .i64) bI true f y::Fo) c∧(∀ r,r ∈ rs→r ∈ c)∧rSl aY c3 b.2.1 ∈ c∧rSl aO c4 b.2.2 ∈ c∧rSl bE A b.1.Results ∈ c∧rSl aG B b.1.Store.Nodes ∈ c∧rSl aK C b.1.Store.Turns ∈ c∧rSl aU D b.1.Events ∈ c∧rSl bN F b.1.Mounts ∈ c∧rSl (kI .i64) G b.1.Wounded ∈ c∧lV b y x20 e5=some r) ?_ ?_
      ·refine wp_region_lit<|pr 1 E rfl fun a E=>lb E H 2 rfl rfl rfl rfl rfl rfl rfl U2 rfl fun a E=>pr 2 E rfl fun a E=>cs hm (fun m hm=>?_) fun m hm=>?_
       ·refine pk 1 E (kc 41 rfl m) rfl fun a E=>aQ E (ws' (d:=41) E rfl rfl rfl rfl m) rfl rfl (bT (i:=0) E H rfl rfl rfl rfl U26 rfl) fun a E=>pk 3 E (kc 41 rfl m) rfl fun a E=>cs hm (fun n hm=>?_) fun n hm=>?_
        ·exact pk 1 E (kc 46 rfl n) rfl fun a E=>aQ E (ws' (d:=46) E rfl rfl rfl rfl n) rfl rfl (bT (i:=0) E H rfl rfl rfl rfl U26 rfl) fun a E=>pk 2 E (kc 46 rfl n) rfl fun a E=>nt<|have H:=H.frs [4,1,4,4,4] rfl;⟨_,_,E.to rfl,H,(Y8 j),mm6,(t1 mm6),m0,mm1,mm2,mm3,mm4,mm5,hm⟩
        ·exact pk 4 E (kc 46 rfl n) rfl fun a E=>nt<|have H:=H.frs [4,1,4,4,4] rfl;⟨_,_,E.to rfl,H,(Y8 j),mm6,(t1 mm6),m0,mm1,mm2,mm3,mm4,mm5,hm⟩
       ·exact pk 9 E (kc 41 rfl m) rfl fun a E=>nt<|have H:=H.frs [4,1,4,4,4] rfl;⟨_,_,E.to rfl,H,(Y8 j),mm6,(t1 mm6),m0,mm1,mm2,mm3,mm4,mm5,hm⟩
      ·clear E H hm
       rintro a w ⟨e5,c,E,H,c6,c7,c8,Q,R,S,T,U,V,hm⟩
       unfold lV at hm
       refine wif E hm rfl (fun hm=>?_) fun hm=>?_
       ·refine dw [(0,0),(1,0),(2,0),(3,0),(4,0),(5,0),(6,0),(7,2)] [0,1,3] [] H (by kernel_rfl) (fun _ _ _ h=>False.elim h.2) fun w W0 hI H=>fn 3 E rfl fun a E=>fb E rfl (wn rfl) rfl rfl rfl rfl m0 rfl U79 rfl fun a E=>fn 1 E rfl fun a E=>fb E rfl (wn rfl) rfl rfl rfl rfl mm1 rfl U2 rfl fun a E=>fbn E (bA b.1 A B C D F G) rfl (wn rfl) rfl rfl rfl rfl mm2 rfl U36 rfl bV fun a E=>bQ rfl<|bd hm fun k0 f2 hm=>C9 (i:=4) (K:=(kyI .i64)) (v:=b.1) (cs:=[.int .i64 b.1.Err,.int .i64 b.1.At,.bool b.1.Yes,.int .i64 b.1.Epoch,A,B,C,D,F,G]) E H (wn rfl) rfl rfl rfl rfl rfl rfl (fD U2) U79 f2 (fun ok hr=>(oF (hr _ Q) (hr _ R) (hr _ S) (hr _ T) (hr _ U) (hr _ V))) fun w H=>?_
        refine nt<|bR<|?_
        clear hI
        exact aD<|have H:=H.drop 1;have H:=H.frs [3,1,3,3] rfl;⟨_,_,E.to rfl,H,c6,Q,R,S,T,U,V,c7,c8,hm⟩
       ·exact wp_skip<|aD<|have H:=H.drop 1;have H:=H.frs [3,1,3,3] rfl;⟨_,_,E.to rfl,H,c6,Q,R,S,T,U,V,c7,c8,hm⟩
     ·clear E H hm
      rintro a w ⟨e4,e,E,H,f6,e6,e7,e8,e9,f0,f1,f7,f8,hm⟩
      unfold pL at hm
      refine sq<|sv E rfl rfl rfl (cD (i:=1) (us:=(bA b.1 A B C D F G)) E H rfl rfl rfl rfl U36 rfl bV) fun a E=>bC (i:=0) E H (wn rfl) rfl rfl rfl rfl rfl rfl bV rfl (bF H e6 e7 e8 e9 f0 f1) fun w H=>nt<|wp_ret<|eC E rfl (dH (i:=0) (us:=(bA b.1 A B C D F G)) H rfl rfl rfl U36 rfl bV)<|have H:=H.drs [0,0];?_
      cases hm
      exact X8 ⟨rfl,H.reads (aA e6 (aA e7 (aA e8 (aA e9 (aA f0 (aA f1 (aA f7 (aA f8 (f6)))))))))⟩

def D6(b:(List aC))(c:(List aJ)):Option (bM×Int):=
  some ((⟨c,b⟩:bM),0)
def r7(x1:bM)(b:aJ)(c:(List aC)):Option (bM×Int):=
  (ck (x1.Watches.length ≤ LIM)).bind fun d=>(ck (x1.Watches.length+([b]:List aJ).length ≤ LIM)).bind fun e=>D6 c (x1.Watches ++ ([b]:List aJ))
def r8(x1:bM)(c:aJ)(d:Bool):Option (bM×Int):=
  if d=true then (some ((⟨[],[]⟩:bM),1)) else ((B5 x1 c.Session c.Num).bind fun e=>if (decide (e ≥ 0))=true then (some (x1,61)) else (if ((x1.Watches.length:Int) == 64)=true then (some (x1,2)) else ((cX x1.Sessions c.Session).bind fun b=>if (!b.2)=true then ((ck (x1.Sessions.length ≤ LIM)).bind fun f=>(ck (0 ≤ b.1∧b.1 ≤ x1.Sessions.length∧x1.Sessions.length ≤ 1000000)).bind fun g=>r7 x1 c (x1.Sessions.take b.1.toNat ++ (⟨c.Session,0,[]⟩:aC)::x1.Sessions.drop b.1.toNat)) else (r7 x1 c x1.Sessions))))
def Q2(x1:bM)(c:aJ):Option (bM×Int):=
  (pB x1).bind fun b=>if (!b)=true then (r8 x1 c (!b)) else ((w5 c).bind fun d=>r8 x1 c (!d))
theorem Dc{x1:bM}{f m:Value}{b:aJ}(H:Sep w (Fo) rs)(g:rSl aY f x1.Watches ∈ rs)(j:rSl aO m x1.Sessions ∈ rs){r:bM×Int}(hm:Q2 x1 b=some r) :
    Calls Tryz.prog 57 [.agg #[f,m],.agg (eG b).toArray].toArray w (Ret fun v w'=>∃ O P,.tuple #[.agg #[O,P],.int .i64 r.2]=v∧Sep w' (Fo) (rSl aY O r.1.Watches::rSl aO P r.1.Sessions::rs)):=by
 unfold Q2 at hm
 refine ent Tryz.func57 rfl Tryz.ntmps57 rfl rfl fun a E=>sq<|bS E H (wn rfl) rfl rfl rfl rfl rfl fun l w a H E=>bS E H (wn rfl) rfl rfl rfl rfl rfl fun o w a H E=>al E H rfl rfl rfl rfl T8 fun z w a H E=>pr 1 E rfl fun a E=>nt<|wp_seq<|wp_block<|aT (fun a w=>∃ A t,Env 59 a [(2,pt l 0),(3,pt o 0),(4,pt z 0),(8,.bool A)]∧Sep w (Blk l 78 [f,m]::Blk o 39 (eG b)::Blk z 78 [.slice none 0 0,.slice none 0 0]::Fo) t∧(∀ r,r ∈ rs→r ∈ t)∧r8 x1 b A=some r) ?_ ?_
 ·refine sq<|sv E rfl rfl rfl (cD (i:=2) (us:=[f,m]) E H rfl rfl rfl rfl U78 rfl fR) fun a E=>bd hm fun S J hm=>xk E rfl rfl rfl rfl rfl Jj (w6 H g j J) fun w H a E=>pr 2 E rfl fun a E=>nt<|wif E hm rfl (fun hm=>?_) fun hm=>?_
  ·exact wp_skip<|aD<|have H:=H.frs [0,1,2] rfl;⟨_,_,E.to rfl,H,Y0,hm⟩
  ·exact wp_region_lit<|sv E rfl rfl rfl (cD (i:=1) (us:=(eG b)) E H rfl rfl rfl rfl U39 rfl sY) fun a E=>bd hm fun T K hm=>xk E rfl rfl rfl rfl rfl Xi (W8 H K) fun w H a E=>pr 2 E rfl fun a E=>nt<|have H:=H.frs [0,1,2] rfl;⟨_,_,E.to rfl,H,Y0,hm⟩
 ·clear E H hm
  rintro a w ⟨A,t,E,H,c,hm⟩
  unfold r8 at hm
  refine wif E hm rfl (fun hm=>?_) fun hm=>?_
  ·refine sq<|sv E rfl rfl rfl (cN E rfl (E.evs rfl) (v:=.agg #[.slice none 0 0,.slice none 0 0]) (by kernel_rfl)) fun a E=>bC (i:=2) E H (wn rfl) rfl rfl rfl rfl rfl rfl fR rfl rfl fun w H=>pr 1 E rfl fun a E=>nt<|wp_ret<|bU<|aP<|uX E rfl (dH (i:=2) (us:=[.slice none 0 0,.slice none 0 0]) H rfl rfl rfl U78 rfl fR) (rvT rfl)<|?_
   refine have H:=H.nilSl aY;have H:=H.nilSl aO;have H:=H.drs [0,0,0];?_
   cases hm
   exact ⟨_,_,rfl,H.reads (aA mm1 (aA m0 (fun r hr=>(t2 (c r hr)))))⟩
  ·refine sq<|sv E rfl rfl rfl (cD (i:=0) (us:=[f,m]) E H rfl rfl rfl rfl U78 rfl fR) fun a E=>pr 1 E rfl fun a E=>lb E H 1 rfl rfl rfl rfl rfl rfl rfl U2 rfl fun a E=>pr 1 E rfl fun a E=>lb E H 1 rfl rfl rfl rfl rfl rfl rfl U2 rfl fun a E=>bd hm fun X L hm=>xk E rfl rfl rfl rfl rfl Xl (Ax H (c _ g) L) fun w H a E=>pr 2 E rfl fun a E=>?_
   refine nt<|wif E hm rfl (fun hm=>?_) fun hm=>?_
   ·refine sq<|sv E rfl rfl rfl (cD (i:=0) (us:=[f,m]) E H rfl rfl rfl rfl U78 rfl fR) fun a E=>bC (i:=2) E H (wn rfl) rfl rfl rfl rfl rfl rfl fR rfl (iH H (c _ g) (c _ j)) fun w H=>pr 1 E rfl fun a E=>nt<|wp_ret<|bU<|aP<|uX E rfl (dH (i:=2) (us:=[f,m]) H rfl rfl rfl U78 rfl fR) (rvT rfl)<|?_
    refine have H:=H.drs [0,0,0];?_
    cases hm
    exact ⟨_,_,rfl,H.reads (aA (c _ g) (aA (c _ j) (c)))⟩
   ·refine sq<|pr 1 E rfl fun a E=>lb E H 0 rfl rfl rfl rfl rfl rfl rfl U75 rfl fun a E=>sv E rfl rfl rfl (dB E H rfl rfl (c _ g) U75) fun a E=>pr 2 E rfl fun a E=>nt<|wif E hm rfl (fun hm=>?_) fun hm=>?_
    ·refine sq<|sv E rfl rfl rfl (cD (i:=0) (us:=[f,m]) E H rfl rfl rfl rfl U78 rfl fR) fun a E=>bC (i:=2) E H (wn rfl) rfl rfl rfl rfl rfl rfl fR rfl (iH H (c _ g) (c _ j)) fun w H=>pr 1 E rfl fun a E=>nt<|wp_ret<|bU<|aP<|uX E rfl (dH (i:=2) (us:=[f,m]) H rfl rfl rfl U78 rfl fR) (rvT rfl)<|?_
     refine have H:=H.drs [0,0,0];?_
     cases hm
     exact ⟨_,_,rfl,H.reads (aA (c _ g) (aA (c _ j) (c)))⟩
    ·refine wp_skip<|bY<|aD<|aT (fun a w=>∃ k n p,Env 59 a [(2,pt l 0),(3,pt o 0),(4,pt z 0)]∧Sep w (Blk l 78 [f,k]::Blk o 39 (eG b)::Blk z 78 [.slice none 0 0,.slice none 0 0]::Fo) p∧(∀ r,r ∈ rs→r ∈ p)∧rSl aO k n ∈ p∧r7 x1 b n=some r) ?_ ?_
     ·refine sq<|pr 1 E rfl fun a E=>lb E H 0 rfl rfl rfl rfl rfl rfl rfl U76 rfl fun a E=>pr 1 E rfl fun a E=>lb E H 1 rfl rfl rfl rfl rfl rfl rfl U2 rfl fun a E=>bd hm fun Y M hm=>xk E rfl rfl rfl rfl rfl Po (jD H (c _ j) M) fun w H a E=>pr 5 E rfl fun a E=>nx<|?_
      refine pr 2 E rfl fun a E=>nt<|wif E hm rfl (fun hm=>?_) fun hm=>?_
      ·refine bk hm fun B hm=>bk hm fun C hm=>?_
       have hI:eK [Blk l 78 [f,m],Blk o 39 (eG b)] [] { w with drawn:=w.drawn+1 }:=⟨_,_,H.kept (Kp.drawn _ w _),(aB m0 (aB mm1 (aL))),(aN)⟩
       refine lZ _ (.go 0 0 (.go 1 0 (.go 3 0 (.go 4 0 (.go 5 0 (.go 6 0 (.alt 2 (.go 7 1 (.go 8 1 (.go 9 2 (.go 10 2 .nil)))) 7 (.go 2 1 (.go 8 1 (.go 9 2 (.go 10 2 .nil))))))))))) [9,10] mI (by kernel_rfl) (fun _ _ _ h=>False.elim h.2) hI<|have H:=H.kept (Kp.drawn _ w (w.drawn+1));?_
       generalize ({ w with drawn:=w.drawn+1 }:World)=w at H hI ⊢
       replace hI:∃ W,eK [Blk l 78 [f,m],Blk o 39 (eG b)] [] W:=⟨_,hI⟩
       obtain ⟨W0,hI⟩:=hI
       refine aZ E rfl (wn rfl) rfl rfl (fun w hW=>lB E rfl rfl (v:=pt l 1) (Ry _ _)) fun a E=>aZ E rfl (wn rfl) rfl rfl (fun w hW=>gK E rfl rfl (mE m0 rfl U76 rfl w hW)) fun a E=>aZ E rfl (wn rfl) rfl rfl (fun w hW=>(bD E rfl rfl)) fun a E=>aZ E rfl (wn rfl) rfl rfl (fun w hW=>lB E rfl rfl (v:=pt o 0) (Fu _ _)) fun a E=>aZ E rfl (wn rfl) rfl rfl (fun w hW=>gK E rfl rfl (mE mm1 rfl U2 rfl w hW)) fun a E=>aZ E rfl (wn rfl) rfl rfl (fun w hW=>(cN E rfl (E.evs rfl) (v:=.agg #[.int .i64 b.Session,.int .i64 0,.slice none 0 0]) (by kernel_rfl))) fun a E=>?_
       refine mS rfl rfl ?_ ?_
       ·refine aX E (wn rfl) rfl rfl (cG E rfl rfl (Jm _)) (fU H (c _ j) B) fun Z w H a E=>nt<|?_
        refine ⟨⟨_,_,H,(aB mm1 (aB mm2 (aL))),(aN)⟩,?_⟩
        refine cP rfl<|hG (e:=193) (d:=aO) (cs:=[.int .i64 b.Session,.int .i64 0,.slice none 0 0]) (xs:=[(⟨b.Session,0,[]⟩:aC)]) E H (wn rfl) rfl rfl rfl (E.evs rfl) (by kernel_rfl) rfl rfl (fun ok hr=>(Rows.single (d:=aO) (cs:=[.int .i64 b.Session,.int .i64 0,.slice none 0 0]) (x:=(⟨b.Session,0,[]⟩:aC)) (lE (Sl.nil _ _ _)))) fun b0 w a H E=>nt<|?_
        refine ⟨⟨_,_,H,(aB mm2 (aB mm3 (aL))),(aN)⟩,?_⟩
        refine cP rfl<|aX E (wn rfl) rfl rfl (cG E rfl rfl (Ps _)) (Se.insert_a (ix:=1) (iu:=0) H rfl rfl (by decide) C) fun b1 w H a E=>nt<|?_
        refine ⟨⟨_,_,H,(aB mm2 (aB mm3 (aL))),(aN)⟩,?_⟩
        refine dA rfl<|pr 1 E rfl fun a E=>nt<|dA rfl<|?_
        obtain ⟨q92,b2,rfl⟩:=H.rowform (i:=1) rfl
        refine bC (i:=2) E H (wn rfl) rfl rfl rfl rfl rfl rfl Le rfl rfl fun w H=>nt<|eV<|?_
        clear hI
        exact aD<|have H:=H.thaw (i:=1) rfl;have H:=H.drop 0;X3 ⟨E.to rfl,H,(Y1 c),m0,hm⟩
       ·refine hG (e:=193) (d:=aO) (cs:=[.int .i64 b.Session,.int .i64 0,.slice none 0 0]) (xs:=[(⟨b.Session,0,[]⟩:aC)]) E H (wn rfl) rfl rfl rfl (E.evs rfl) (by kernel_rfl) rfl rfl (fun ok hr=>(Rows.single (d:=aO) (cs:=[.int .i64 b.Session,.int .i64 0,.slice none 0 0]) (x:=(⟨b.Session,0,[]⟩:aC)) (lE (Sl.nil _ _ _)))) fun b3 w a H E=>nt<|?_
        refine ⟨⟨_,_,H,(aB mm1 (aB mm2 (aL))),(aN)⟩,?_⟩
        refine cP rfl<|aX E (wn rfl) rfl rfl (cG E rfl rfl (Jm _)) (fU H (c _ j) B) fun b4 w H a E=>nt<|?_
        refine ⟨⟨_,_,H,(aB mm2 (aB mm3 (aL))),(aN)⟩,?_⟩
        refine cP rfl<|aX E (wn rfl) rfl rfl (cG E rfl rfl (Ps _)) (Se.insert_a (ix:=0) (iu:=1) H rfl rfl (by decide) C) fun U w H a E=>nt<|?_
        refine ⟨⟨_,_,H,(aB mm2 (aB mm3 (aL))),(aN)⟩,?_⟩
        refine dA rfl<|pr 1 E rfl fun a E=>nt<|dA rfl<|?_
        obtain ⟨q101,V,rfl⟩:=H.rowform (i:=0) rfl
        refine bC (i:=2) E H (wn rfl) rfl rfl rfl rfl rfl rfl Le rfl rfl fun w H=>nt<|eV<|?_
        clear hI
        exact aD<|have H:=H.thaw (i:=0) rfl;have H:=H.drop 0;X3 ⟨E.to rfl,H,(Y1 c),m0,hm⟩
      ·exact wp_skip<|aD<|X3 ⟨E.to rfl,H,c,(c _ j),hm⟩
     ·clear E H hm
      rintro a w ⟨k,n,p,E,H,q,D,hm⟩
      unfold r7 at hm
      refine aT (fun a w=>∃ u y s,Env 59 a [(2,pt l 0),(4,pt z 0)]∧Sep w (Blk l 78 [u,k]::Blk z 78 [.slice none 0 0,.slice none 0 0]::Row 39 aY u y::Fo) s∧(∀ r,r ∈ rs→r ∈ s)∧rSl aO k n ∈ s∧D6 n y=some r) ?_ ?_
      ·refine bk hm fun F hm=>bk hm fun G hm=>?_
       have hI:eK [Blk l 78 [f,k],Blk o 39 (eG b)] [] { w with drawn:=w.drawn+1 }:=⟨_,_,H.kept (Kp.drawn _ w _),(aB m0 (aB mm1 (aL))),(aN)⟩
       refine lZ _ (.go 0 0 (.go 1 0 (.go 3 0 (.alt 2 (.go 4 1 (.go 5 1 (.go 6 2 (.go 7 2 .nil)))) 4 (.go 2 1 (.go 5 1 (.go 6 2 (.go 7 2 .nil)))))))) [6,7] mI (by kernel_rfl) (fun _ _ _ h=>False.elim h.2) hI<|have H:=H.kept (Kp.drawn _ w (w.drawn+1));?_
       generalize ({ w with drawn:=w.drawn+1 }:World)=w at H hI ⊢
       replace hI:∃ W,eK [Blk l 78 [f,k],Blk o 39 (eG b)] [] W:=⟨_,hI⟩
       obtain ⟨W0,hI⟩:=hI
       refine aZ E rfl (wn rfl) rfl rfl (fun w hW=>lB E rfl rfl (v:=pt l 0) (Rx _ _)) fun a E=>aZ E rfl (wn rfl) rfl rfl (fun w hW=>gK E rfl rfl (mE m0 rfl U75 rfl w hW)) fun a E=>aZ E rfl (wn rfl) rfl rfl (fun w hW=>gK E rfl rfl (z7 (us:=(eG b)) mm1 rfl U39 rfl sY w hW)) fun a E=>?_
       refine mS rfl rfl ?_ ?_
       ·refine aX E (wn rfl) rfl rfl (cG E rfl rfl (Jo _)) (gR H (q _ g) F) fun b5 w H a E=>nt<|?_
        refine ⟨⟨_,_,H,(aB mm1 (aB mm2 (aL))),(aN)⟩,?_⟩
        refine cP rfl<|sT (e:=39) (d:=aY) (cs:=[.int .i64 b.Session,.int .i64 b.Num,.string b.Path,.bool b.Deep]) (xs:=[b]) E H (wn rfl) rfl rfl rfl (E.evs rfl) (by kernel_rfl) rfl (fun ok hr=>(Rows.single (d:=aY) (cs:=[.int .i64 b.Session,.int .i64 b.Num,.string b.Path,.bool b.Deep]) (x:=b) D2)) fun b6 w a H E=>nt<|?_
        refine ⟨⟨_,_,H,(aB mm1 (aB mm2 (aL))),(aN)⟩,?_⟩
        refine cP rfl<|eU (i:=0) E H (wn rfl) rfl rfl rfl rfl rfl rfl (lD m0) U75 Pq rfl G rfl fun b7 w a H E=>nt<|?_
        refine ⟨⟨_,_,H,(aB mm1 (aB mm2 (aL))),(aN)⟩,?_⟩
        refine dA rfl<|pr 1 E rfl fun a E=>nt<|dA rfl<|?_
        obtain ⟨q54,b8,rfl⟩:=H.rowform (i:=0) rfl
        refine bC (i:=1) E H (wn rfl) rfl rfl rfl rfl rfl rfl Pr rfl rfl fun w H=>nt<|eV<|?_
        clear hI
        exact aD<|have H:=H.drop 2;have H:=H.frs [0,2,2] rfl;X3 ⟨E.to rfl,H,(Y1 q),(t1 D),hm⟩
       ·refine sT (e:=39) (d:=aY) (cs:=[.int .i64 b.Session,.int .i64 b.Num,.string b.Path,.bool b.Deep]) (xs:=[b]) E H (wn rfl) rfl rfl rfl (E.evs rfl) (by kernel_rfl) rfl (fun ok hr=>(Rows.single (d:=aY) (cs:=[.int .i64 b.Session,.int .i64 b.Num,.string b.Path,.bool b.Deep]) (x:=b) D2)) fun b9 w a H E=>nt<|?_
        refine ⟨⟨_,_,H,(aB m0 (aB mm1 (aL))),(aN)⟩,?_⟩
        refine cP rfl<|aX E (wn rfl) rfl rfl (cG E rfl rfl (Jo _)) (gR H (t1 (q _ g)) F) fun c0 w H a E=>nt<|?_
        refine ⟨⟨_,_,H,(aB mm1 (aB mm2 (aL))),(aN)⟩,?_⟩
        refine cP rfl<|eU (i:=0) E H (wn rfl) rfl rfl rfl rfl rfl rfl (lD m0) U75 Pq rfl G rfl fun c1 w a H E=>nt<|?_
        refine ⟨⟨_,_,H,(aB mm1 (aB mm2 (aL))),(aN)⟩,?_⟩
        refine dA rfl<|pr 1 E rfl fun a E=>nt<|dA rfl<|?_
        obtain ⟨q63,c2,rfl⟩:=H.rowform (i:=0) rfl
        refine bC (i:=1) E H (wn rfl) rfl rfl rfl rfl rfl rfl Pr rfl rfl fun w H=>nt<|eV<|?_
        clear hI
        exact aD<|have H:=H.drop 2;have H:=H.frs [0,2,2] rfl;X3 ⟨E.to rfl,H,(Y1 q),(t1 D),hm⟩
      ·clear E H hm
       rintro a w ⟨u,y,s,E,H,N,I,hm⟩
       unfold D6 at hm
       refine sq<|sv E rfl rfl rfl (cD (i:=0) (us:=[u,k]) E H rfl rfl rfl rfl U78 rfl fR) fun a E=>?_
       obtain ⟨q25,Q,rfl⟩:=H.rowform (i:=2) rfl
       obtain ⟨q27,R,rfl⟩:=H.slform I
       refine bC (i:=1) E H (wn rfl) rfl rfl rfl rfl rfl rfl fR rfl rfl fun w H=>pr 1 E rfl fun a E=>nt<|wp_ret<|uX E rfl (dH (i:=1) (us:=[(.slice q25 y.length Q),(.slice q27 n.length R)]) H rfl rfl rfl U78 rfl fR) (rvT rfl)<|have H:=H.thaw (i:=2) rfl;have H:=H.drs [0,0];?_
       cases hm
       exact ⟨_,_,rfl,H.reads (aA m0 (aA (t1 I) (fun r hr=>(t1 (N r hr)))))⟩

def uW(c:List aJ)(d:List aC)(e:Int)(f:(List aJ))(g:(List aC)):Option (aE×(List aJ)×(List aC)):=
  (kY c d (⟨f,g⟩:bM) ([]:List bK) e).bind fun b=>some (b.1,b.2.1,b.2.2)
def yI(c:List aJ)(d:List aC)(x20:aV):Option (aE×(List aJ)×(List aC)):=
  (Q2 (⟨c,d⟩:bM) x20.Watch).bind fun b=>uW c d b.2 b.1.Watches b.1.Sessions
theorem Z4{e:Nat}{c d A B C D f g j k l m n:Value}{o:List aJ}{p:List aC}{x20:aV}(H:Sep w (Blk e 82 [f,g,j,k,c,d,l,m,n]::Fo) rs)(q:rSl aY c o ∈ rs)(s:rSl aO d p ∈ rs){r:aE×(List aJ)×(List aC)}(hm:yI o p x20=some r) :
    Calls Tryz.prog 20 [pt e 0,.agg (aS x20 A B C D).toArray].toArray w (Ret fun v w'=>∃ P Q R S T U V K,.agg (bA r.1 P Q R S T U).toArray=v∧Sep w' (Blk e 82 [f,g,j,k,V,K,l,m,n]::Fo) (rSl bE P r.1.Results::rSl aG Q r.1.Store.Nodes::rSl aK R r.1.Store.Turns::rSl aU S r.1.Events::rSl bN T r.1.Mounts::rSl (kI .i64) U r.1.Wounded::rSl aY V r.2.1::rSl aO K r.2.2::rs)):=by
 unfold yI at hm
 refine ent Tryz.func20 rfl Tryz.ntmps20 rfl rfl fun a E=>sq<|bS E H (wn rfl) rfl rfl rfl rfl rfl fun F w a H E=>al E H rfl rfl rfl rfl iO fun L w a H E=>nt<|aT (fun a w=>∃ G u x I y z b,Env 21 a [(0,pt e 0),(4,pt L 0),(5,pt G 0),(6,.int .i64 I)]∧Sep w (Blk e 82 [f,g,j,k,c,d,l,m,n]::Blk L 36 bO::Blk G 78 [u,x]::Fo) b∧(∀ r,r ∈ rs→r ∈ b)∧rSl aY u y ∈ b∧rSl aO x z ∈ b∧uW o p I y z=some r) ?_ ?_
 ·refine bd hm fun b4 J hm=>?_
  have hI:eK [Blk F 43 (aS x20 A B C D),Blk e 82 [f,g,j,k,c,d,l,m,n]] [] { w with drawn:=w.drawn+1 }:=⟨_,_,H.kept (Kp.drawn _ w _),(aB mm1 (aB mm2 (aL))),(aN)⟩
  refine lZ _ (.go 0 0 (.go 1 0 (.go 2 0 (.go 3 0 (.go 4 0 (.go 5 0 (.alt 6 (.go 7 0 (.go 8 0 (.go 9 0 (.go 10 1 (.go 11 1 (.go 12 2 .nil)))))) 10 (.go 6 1 (.go 7 0 (.go 8 0 (.go 9 0 (.go 11 1 (.go 12 2 .nil))))))))))))) [12] mI (by kernel_rfl) (fun _ _ _ h=>False.elim h.2) hI<|have H:=H.kept (Kp.drawn _ w (w.drawn+1));?_
  generalize ({ w with drawn:=w.drawn+1 }:World)=w at H hI ⊢
  replace hI:∃ W,eK [Blk F 43 (aS x20 A B C D),Blk e 82 [f,g,j,k,c,d,l,m,n]] [] W:=⟨_,hI⟩
  obtain ⟨W0,hI⟩:=hI
  refine aZ E rfl (wn rfl) rfl rfl (fun w hW=>(bD E rfl rfl)) fun a E=>aZ E rfl (wn rfl) rfl rfl (fun w hW=>(wE E rfl rfl)) fun a E=>aZ E rfl (wn rfl) rfl rfl (fun w hW=>lB E rfl rfl (v:=pt e 4) (Lc _ _)) fun a E=>aZ E rfl (wn rfl) rfl rfl (fun w hW=>gK E rfl rfl (z7 (us:=[c,d]) mm1 rfl U78 rfl fR w hW)) fun a E=>aZ E rfl (wn rfl) rfl rfl (fun w hW=>lB E rfl rfl (v:=pt F 12) (Br _ _)) fun a E=>aZ E rfl (wn rfl) rfl rfl (fun w hW=>gK E rfl rfl (z7 (us:=(eG x20.Watch)) m0 rfl U39 rfl sY w hW)) fun a E=>?_
  refine mS rfl rfl ?_ ?_
  ·refine cJ E rfl rfl rfl rfl rfl DF (Dc (x1:=(⟨o,p⟩:bM)) H q s J)<|?_
   rintro _ w ⟨b5,b6,rfl,H⟩ a E
   refine nt<|?_
   refine ⟨⟨_,_,H,(aB mm1 (aB mm2 (aL))),(aN)⟩,?_⟩
   refine aZ E rfl (wn rfl) rfl rfl (fun w hW=>(bD E rfl rfl)) fun a E=>aZ E rfl (wn rfl) rfl rfl (fun w hW=>(dK E rfl rfl rfl)) fun a E=>aZ E rfl (wn rfl) rfl rfl (fun w hW=>(dK E rfl rfl rfl)) fun a E=>cP rfl<|al E H rfl rfl rfl rfl T8 fun b7 w a H E=>nt<|?_
   refine ⟨⟨_,_,H,(aB mm2 (aB mm3 (aL))),(aN)⟩,?_⟩
   refine cP rfl<|bC (i:=0) E H (wn rfl) rfl rfl rfl rfl rfl rfl fR rfl (iH H m0 mm1) fun w H=>nt<|?_
   refine ⟨⟨_,_,H,(aB mm2 (aB mm3 (aL))),(aN)⟩,?_⟩
   refine dA rfl<|pr 1 E rfl fun a E=>nt<|eV<|?_
   clear hI
   exact aD<|have H:=H.drop 2;have H:=H.frs [0,1,2] rfl;X7 ⟨E.to rfl,H,(Y2 Y0),m0,mm1,hm⟩
  ·refine al E H rfl rfl rfl rfl T8 fun b8 w a H E=>nt<|?_
   refine ⟨⟨_,_,H,(aB mm2 (aB mm3 (aL))),(aN)⟩,?_⟩
   refine cP rfl<|cJ E rfl rfl rfl rfl rfl DF (Dc (x1:=(⟨o,p⟩:bM)) H q s J)<|?_
   rintro _ w ⟨b9,c0,rfl,H⟩ a E
   refine nt<|?_
   refine ⟨⟨_,_,H,(aB mm2 (aB mm3 (aL))),(aN)⟩,?_⟩
   refine aZ E rfl (wn rfl) rfl rfl (fun w hW=>(bD E rfl rfl)) fun a E=>aZ E rfl (wn rfl) rfl rfl (fun w hW=>(dK E rfl rfl rfl)) fun a E=>aZ E rfl (wn rfl) rfl rfl (fun w hW=>(dK E rfl rfl rfl)) fun a E=>cP rfl<|bC (i:=0) E H (wn rfl) rfl rfl rfl rfl rfl rfl fR rfl (iH H m0 mm1) fun w H=>nt<|?_
   refine ⟨⟨_,_,H,(aB mm2 (aB mm3 (aL))),(aN)⟩,?_⟩
   refine dA rfl<|pr 1 E rfl fun a E=>nt<|eV<|?_
   clear hI
   exact aD<|have H:=H.drop 2;have H:=H.frs [0,1,2] rfl;X7 ⟨E.to rfl,H,(Y2 Y0),m0,mm1,hm⟩
 ·clear E H hm
  rintro a w ⟨G,u,x,I,y,z,b,E,H,t,M,N,hm⟩
  unfold uW at hm
  refine sq<|pr 1 E rfl fun a E=>sv E rfl rfl rfl (cD (i:=2) (us:=[u,x]) E H rfl rfl rfl rfl U78 rfl fR) fun a E=>pr 1 E rfl fun a E=>have H:=H.nilSl aU;bd hm fun X O hm=>cJ E rfl rfl rfl rfl rfl Vc (vQ (x20:=(⟨y,z⟩:bM)) H (t1 (t _ q)) (t1 (t _ s)) (t1 M) (t1 N) m0 O)<|?_
  rintro _ w ⟨Y,Z,b0,b1,b2,b3,c1,c2,rfl,H⟩ a E
  refine bC (i:=1) E H (wn rfl) rfl rfl rfl rfl rfl rfl bV rfl (bF H m0 mm1 mm2 mm3 mm4 mm5) fun w H=>nt<|wp_ret<|eC E rfl (dH (i:=1) (us:=(bA X.1 Y Z b0 b1 b2 b3)) H rfl rfl rfl U36 rfl bV)<|have H:=H.drs [1,1];?_
  cases hm
  exact X8 ⟨rfl,H.reads (aA m0 (aA mm1 (aA mm2 (aA mm3 (aA mm4 (aA mm5 (aA mm6 (aA (t1 mm6) (fun r hr=>(t1 (t8 (t r hr))))))))))))⟩

def pN(b:aE×(List aJ)×(List aC))(c:(List ((Int)×aE))):Option (aE×(List aJ)×(List aC)×(List ((Int)×aE))):=
  some (b.1,b.2.1,b.2.2,c)
def lW(b:aE×(List aJ)×(List aC))(c:List ((Int)×aE))(x20:aV)(e:Bool):Option (aE×(List aJ)×(List aC)×(List ((Int)×aE))):=
  if e=true then ((mpt (kyI .i64) c x20.Id b.1).bind fun d=>pN b d) else (pN b c)
def pO(c:List ((Int)×aE))(x20:aV)(d:List aJ)(e:List aC)(f:Bool):Option (aE×(List aJ)×(List aC)×(List ((Int)×aE))):=
  if f=true then ((eH 2).bind fun g=>some (g,d,e,c)) else ((yI d e x20).bind fun b=>if (x20.Id != 0)=true then (if (b.1.Err != 131)=true then (lW b c x20 (b.1.Err != 132)) else (lW b c x20 false)) else (lW b c x20 false))
def tU(b:List ((Int)×aE))(x20:aV)(c:List aJ)(d:List aC)(e:Bool)(f:Int)(g:Int)(i:Bool)(j:Int)(k:(List cR))(l:(List aF))(m:(List aI))(n:(List bK))(o:(List oB))(p:(List Int)):Option (aE×(List aJ)×(List aC)×(List ((Int)×aE))):=
  if e=true then (some ((⟨f,g,i,j,k,(⟨l,m⟩:aW),n,o,p⟩:aE),c,d,b)) else (if (x20.Id != 0)=true then (pO b x20 c d ((b.length:Int) == 512)) else (pO b x20 c d false))
def wV(d:List aJ)(e:List aC)(c:List ((Int)×aE))(x20:aV):Option (aE×(List aJ)×(List aC)×(List ((Int)×aE))):=
  (K5 (kyI .i64) c x20.Id qP).bind fun b=>tU c x20 d e b.2 b.1.Err b.1.At b.1.Yes b.1.Epoch b.1.Results b.1.Store.Nodes b.1.Store.Turns b.1.Events b.1.Mounts b.1.Wounded
theorem V4{o f:Nat}{O P I J L M p q s t u x:Value}{c0:List aJ}{c1:List aC}{y:List ((Int)×aE)}{x20:aV}(H:Sep w (Blk o 82 [p,q,s,t,O,P,.map (some f),u,x]::cC Tryz.prog 2 (kyI .i64) bI true f y::Fo) rs)(b7:rSl aY O c0 ∈ rs)(b8:rSl aO P c1 ∈ rs){r:aE×(List aJ)×(List aC)×(List ((Int)×aE))}(hm:wV c0 c1 y x20=some r) :
    Calls Tryz.prog 25 [pt o 0,.agg (aS x20 I J L M).toArray,.func (.func 20) #[] #[]].toArray w (Ret fun v w'=>∃ f9 g0 g1 g2 g3 g4 g5 f3,.agg (bA r.1 f9 g0 g1 g2 g3 g4).toArray=v∧Sep w' (Blk o 82 [p,q,s,t,g5,f3,.map (some f),u,x]::cC Tryz.prog 2 (kyI .i64) bI true f r.2.2.2::Fo) (rSl bE f9 r.1.Results::rSl aG g0 r.1.Store.Nodes::rSl aK g1 r.1.Store.Turns::rSl aU g2 r.1.Events::rSl bN g3 r.1.Mounts::rSl (kI .i64) g4 r.1.Wounded::rSl aY g5 r.2.1::rSl aO f3 r.2.2.1::rs)):=by
 unfold wV at hm
 refine ent Tryz.func25 rfl Tryz.ntmps25 rfl rfl fun a E=>sq<|bS E H (wn rfl) rfl rfl rfl rfl rfl fun l w a H E=>al E H rfl rfl rfl rfl iO fun z w a H E=>nt<|wp_seq<|aT (fun a w=>∃ c9 X Y Z b0 b1 b2 d0 b3 b4 b5 b6 d1 d2 d3 d4 d5 d6 g,Env 59 a [(0,pt o 0),(2,.func (.func 20) #[] #[]),(4,pt l 0),(6,pt z 0),(7,pt c9 0),(8,.bool d0)]∧Sep w (Blk o 82 [p,q,s,t,O,P,.map (some f),u,x]::Blk l 43 (aS x20 I J L M)::Blk z 36 bO::Blk c9 36 [.int .i64 b3,.int .i64 b4,.bool b5,.int .i64 b6,X,Y,Z,b0,b1,b2]::cC Tryz.prog 2 (kyI .i64) bI true f y::Fo) g∧(∀ r,r ∈ rs→r ∈ g)∧rSl bE X d1 ∈ g∧rSl aG Y d2 ∈ g∧rSl aK Z d3 ∈ g∧rSl aU b0 d4 ∈ g∧rSl bN b1 d5 ∈ g∧rSl (kI .i64) b2 d6 ∈ g∧tU y x20 c0 c1 d0 b3 b4 b5 b6 d1 d2 d3 d4 d5 d6=some r) ?_ ?_
 ·refine bd hm fun i3 c2 hm=>?_
  have hI:eK [Blk l 43 (aS x20 I J L M),Blk o 82 [p,q,s,t,O,P,.map (some f),u,x]] [] { w with drawn:=w.drawn+1 }:=⟨_,_,H.kept (Kp.drawn _ w _),(aB mm1 (aB mm2 (aL))),(aN)⟩
  refine lZ _ (.go 0 0 (.go 1 0 (.go 2 0 (.go 3 0 (.go 4 0 (.go 5 0 (.alt 6 (.go 7 0 (.go 8 0 (.go 9 0 (.go 10 1 (.go 11 1 (.go 12 2 .nil)))))) 10 (.go 6 1 (.go 7 0 (.go 8 0 (.go 9 0 (.go 11 1 (.go 12 2 .nil))))))))))))) [12] mI (by kernel_rfl) (fun _ _ _ h=>False.elim h.2) hI<|have H:=H.kept (Kp.drawn _ w (w.drawn+1));?_
  generalize ({ w with drawn:=w.drawn+1 }:World)=w at H hI ⊢
  replace hI:∃ W,eK [Blk l 43 (aS x20 I J L M),Blk o 82 [p,q,s,t,O,P,.map (some f),u,x]] [] W:=⟨_,hI⟩
  obtain ⟨W0,hI⟩:=hI
  refine aZ E rfl (wn rfl) rfl rfl (fun w hW=>(bD E rfl rfl)) fun a E=>aZ E rfl (wn rfl) rfl rfl (fun w hW=>(wE E rfl rfl)) fun a E=>aZ E rfl (wn rfl) rfl rfl (fun w hW=>lB E rfl rfl (v:=pt o 6) (Ah _ _)) fun a E=>aZ E rfl (wn rfl) rfl rfl (fun w hW=>gK E rfl rfl (mE mm1 rfl U79 rfl w hW)) fun a E=>aZ E rfl (wn rfl) rfl rfl (fun w hW=>lB E rfl rfl (v:=pt l 1) (Ag _ _)) fun a E=>aZ E rfl (wn rfl) rfl rfl (fun w hW=>gK E rfl rfl (mE m0 rfl U2 rfl w hW)) fun a E=>?_
  refine mS rfl rfl ?_ ?_
  ·refine oD (i:=3) (K:=(kyI .i64)) E H (wn rfl) rfl rfl rfl rfl rfl rfl (fD U2) U79 A8 K8 c2 fun i4 a H E=>?_
   obtain ⟨i5,i6,i7,i8,i9,j0,rfl,h⟩:=lF H;clear H;have H:=h
   refine nt<|?_
   refine ⟨⟨_,_,H,(aB mm1 (aB mm2 (aL))),(aN)⟩,?_⟩
   refine aZ E rfl (wn rfl) rfl rfl (fun w hW=>(bD E rfl rfl)) fun a E=>aZ E rfl (wn rfl) rfl rfl (fun w hW=>(dK E rfl rfl rfl)) fun a E=>aZ E rfl (wn rfl) rfl rfl (fun w hW=>(dK E rfl rfl rfl)) fun a E=>cP rfl<|al E H rfl rfl rfl rfl iO fun j1 w a H E=>nt<|?_
   refine ⟨⟨_,_,H,(aB mm2 (aB mm3 (aL))),(aN)⟩,?_⟩
   refine cP rfl<|bC (i:=0) E H (wn rfl) rfl rfl rfl rfl rfl rfl bV rfl (bF H mm5 mm4 mm3 mm2 mm1 m0) fun w H=>nt<|?_
   refine ⟨⟨_,_,H,(aB mm2 (aB mm3 (aL))),(aN)⟩,?_⟩
   refine dA rfl<|pr 1 E rfl fun a E=>nt<|eV<|?_
   clear hI
   exact aD<|have H:=H.frs [4,1,2,3,4] rfl;X19 ⟨E.to rfl,H,(Y7 Y0),mm5,mm4,mm3,mm2,mm1,m0,hm⟩
  ·refine al E H rfl rfl rfl rfl iO fun j2 w a H E=>nt<|?_
   refine ⟨⟨_,_,H,(aB mm2 (aB mm3 (aL))),(aN)⟩,?_⟩
   refine cP rfl<|oD (i:=4) (K:=(kyI .i64)) E H (wn rfl) rfl rfl rfl rfl rfl rfl (fD U2) U79 A8 K8 c2 fun j3 a H E=>?_
   obtain ⟨j4,j5,j6,j7,j8,j9,rfl,h⟩:=lF H;clear H;have H:=h
   refine nt<|?_
   refine ⟨⟨_,_,H,(aB mm2 (aB mm3 (aL))),(aN)⟩,?_⟩
   refine aZ E rfl (wn rfl) rfl rfl (fun w hW=>(bD E rfl rfl)) fun a E=>aZ E rfl (wn rfl) rfl rfl (fun w hW=>(dK E rfl rfl rfl)) fun a E=>aZ E rfl (wn rfl) rfl rfl (fun w hW=>(dK E rfl rfl rfl)) fun a E=>cP rfl<|bC (i:=0) E H (wn rfl) rfl rfl rfl rfl rfl rfl bV rfl (bF H mm5 mm4 mm3 mm2 mm1 m0) fun w H=>nt<|?_
   refine ⟨⟨_,_,H,(aB mm2 (aB mm3 (aL))),(aN)⟩,?_⟩
   refine dA rfl<|pr 1 E rfl fun a E=>nt<|eV<|?_
   clear hI
   exact aD<|have H:=H.frs [4,1,2,3,4] rfl;X19 ⟨E.to rfl,H,(Y7 Y0),mm5,mm4,mm3,mm2,mm1,m0,hm⟩
 ·clear E H hm
  rintro a w ⟨c9,X,Y,Z,b0,b1,b2,d0,b3,b4,b5,b6,d1,d2,d3,d4,d5,d6,g,E,H,N,d7,d8,d9,e0,e1,e2,hm⟩
  unfold tU at hm
  refine sq<|pr 1 E rfl fun a E=>nt<|wif E hm rfl (fun hm=>?_) fun hm=>?_
  ·refine sq<|sv E rfl rfl rfl (cD (i:=3) (us:=[.int .i64 b3,.int .i64 b4,.bool b5,.int .i64 b6,X,Y,Z,b0,b1,b2]) E H rfl rfl rfl rfl U36 rfl bV) fun a E=>bC (i:=2) E H (wn rfl) rfl rfl rfl rfl rfl rfl bV rfl (bF H d7 d8 d9 e0 e1 e2) fun w H=>nt<|wp_ret<|aP<|eC E rfl (dH (i:=2) (us:=[.int .i64 b3,.int .i64 b4,.bool b5,.int .i64 b6,X,Y,Z,b0,b1,b2]) H rfl rfl rfl U36 rfl bV)<|have H:=H.drs [1,1,1];?_
   cases hm
   exact X8 ⟨rfl,H.reads (aA d7 (aA d8 (aA d9 (aA e0 (aA e1 (aA e2 (aA (N _ b7) (aA (N _ b8) (N)))))))))⟩
  ·refine wp_skip<|aD<|wp_seq<|aT (fun a w=>∃ e3 b9,Env 59 a [(0,pt o 0),(2,.func (.func 20) #[] #[]),(4,pt l 0),(6,pt z 0),(32,.bool e3)]∧Sep w (Blk o 82 [p,q,s,t,O,P,.map (some f),u,x]::Blk l 43 (aS x20 I J L M)::Blk z 36 bO::cC Tryz.prog 2 (kyI .i64) bI true f y::Fo) b9∧(∀ r,r ∈ rs→r ∈ b9)∧pO y x20 c0 c1 e3=some r) ?_ ?_
   ·refine wp_region_lit<|pr 1 E rfl fun a E=>lb E H 1 rfl rfl rfl rfl rfl rfl rfl U2 rfl fun a E=>pr 2 E rfl fun a E=>cs hm (fun k hm=>?_) fun k hm=>?_
    ·exact pk 3 E (kc 25 rfl k) rfl fun a E=>aQ E (ws' (d:=25) E rfl rfl rfl rfl k) rfl rfl (bT (i:=0) E H rfl rfl rfl rfl U79 rfl) fun a E=>aQ E (ws' (d:=25) E rfl rfl rfl rfl k) rfl rfl (F2 (i:=4) E H rfl rfl rfl U79) fun a E=>pk 2 E (kc 25 rfl k) rfl fun a E=>nt<|have H:=H.drop 3;⟨_,_,E.to rfl,H,N,hm⟩
    ·exact pk 7 E (kc 25 rfl k) rfl fun a E=>nt<|have H:=H.drop 3;⟨_,_,E.to rfl,H,N,hm⟩
   ·clear E H hm
    rintro a w ⟨e3,b9,E,H,j,hm⟩
    unfold pO at hm
    refine wif E hm rfl (fun hm=>?_) fun hm=>?_
    ·refine sq<|bd hm fun g6 f4 hm=>cJ E rfl rfl rfl rfl rfl xU (eS H f4)<|?_
     rintro _ w ⟨g7,g8,g9,i0,i1,i2,rfl,H⟩ a E
     refine bC (i:=2) E H (wn rfl) rfl rfl rfl rfl rfl rfl bV rfl (bF H m0 mm1 mm2 mm3 mm4 mm5) fun w H=>nt<|wp_ret<|aP<|eC E rfl (dH (i:=2) (us:=(bA g6 g7 g8 g9 i0 i1 i2)) H rfl rfl rfl U36 rfl bV)<|have H:=H.drs [1,1];?_
     cases hm
     exact X8 ⟨rfl,H.reads (aA m0 (aA mm1 (aA mm2 (aA mm3 (aA mm4 (aA mm5 (aA (t6 (j _ b7)) (aA (t6 (j _ b8)) (fun r hr=>(t6 (j r hr)))))))))))⟩
    ·refine wp_skip<|aD<|sq<|pr 2 E rfl fun a E=>sv E rfl rfl rfl (cD (i:=1) (us:=(aS x20 I J L M)) E H rfl rfl rfl rfl U43 rfl G4) fun a E=>bd hm fun b f5 hm=>aX E (wn rfl) rfl rfl (bP E rfl rfl rfl (KV _)) (Z4 H (j _ b7) (j _ b8) f5)<|?_
     rintro _ w ⟨A,B,C,D,F,G,c3,c4,rfl,H⟩ a E
     refine al E H rfl rfl rfl rfl iO fun c5 w a H E=>bC (i:=0) E H (wn rfl) rfl rfl rfl rfl rfl rfl bV rfl (bF H m0 mm1 mm2 mm3 mm4 mm5) fun w H=>nt<|aT (fun a w=>∃ e4 e,Env 59 a [(6,pt z 0),(9,pt c5 0)]∧Sep w (Blk z 36 bO::Blk c5 36 (bA b.1 A B C D F G)::Blk o 82 [p,q,s,t,c3,c4,.map (some f),u,x]::cC Tryz.prog 2 (kyI .i64) bI true f e4::Fo) e∧(∀ r,r ∈ rs→r ∈ e)∧rSl bE A b.1.Results ∈ e∧rSl aG B b.1.Store.Nodes ∈ e∧rSl aK C b.1.Store.Turns ∈ e∧rSl aU D b.1.Events ∈ e∧rSl bN F b.1.Mounts ∈ e∧rSl (kI .i64) G b.1.Wounded ∈ e∧rSl aY c3 b.2.1 ∈ e∧rSl aO c4 b.2.2 ∈ e∧pN b e4=some r) ?_ ?_
     ·refine aT (fun a w=>∃ e5 c,Env 59 a [(0,pt o 0),(4,pt l 0),(6,pt z 0),(9,pt c5 0),(50,.bool e5)]∧Sep w (Blk o 82 [p,q,s,t,c3,c4,.map (some f),u,x]::Blk l 43 (aS x20 I J L M)::Blk z 36 bO::Blk c5 36 (bA b.1 A B C D F G)::cC Tryz.prog 2 (kyI .i64) bI true f y::Fo) c∧(∀ r,r ∈ rs→r ∈ c)∧rSl aY c3 b.2.1 ∈ c∧rSl aO c4 b.2.2 ∈ c∧rSl bE A b.1.Results ∈ c∧rSl aG B b.1.Store.Nodes ∈ c∧rSl aK C b.1.Store.Turns ∈ c∧rSl aU D b.1.Events ∈ c∧rSl bN F b.1.Mounts ∈ c∧rSl (kI .i64) G b.1.Wounded ∈ c∧lW b y x20 e5=some r) ?_ ?_
      ·refine wp_region_lit<|pr 1 E rfl fun a E=>lb E H 2 rfl rfl rfl rfl rfl rfl rfl U2 rfl fun a E=>pr 2 E rfl fun a E=>cs hm (fun m hm=>?_) fun m hm=>?_
       ·refine pk 1 E (kc 41 rfl m) rfl fun a E=>aQ E (ws' (d:=41) E rfl rfl rfl rfl m) rfl rfl (bT (i:=0) E H rfl rfl rfl rfl U26 rfl) fun a E=>pk 3 E (kc 41 rfl m) rfl fun a E=>cs hm (fun n hm=>?_) fun n hm=>?_
        ·exact pk 1 E (kc 46 rfl n) rfl fun a E=>aQ E (ws' (d:=46) E rfl rfl rfl rfl n) rfl rfl (bT (i:=0) E H rfl rfl rfl rfl U26 rfl) fun a E=>pk 2 E (kc 46 rfl n) rfl fun a E=>nt<|have H:=H.frs [4,1,4,4,4] rfl;⟨_,_,E.to rfl,H,(Y8 j),mm6,(t1 mm6),m0,mm1,mm2,mm3,mm4,mm5,hm⟩
        ·exact pk 4 E (kc 46 rfl n) rfl fun a E=>nt<|have H:=H.frs [4,1,4,4,4] rfl;⟨_,_,E.to rfl,H,(Y8 j),mm6,(t1 mm6),m0,mm1,mm2,mm3,mm4,mm5,hm⟩
       ·exact pk 9 E (kc 41 rfl m) rfl fun a E=>nt<|have H:=H.frs [4,1,4,4,4] rfl;⟨_,_,E.to rfl,H,(Y8 j),mm6,(t1 mm6),m0,mm1,mm2,mm3,mm4,mm5,hm⟩
      ·clear E H hm
       rintro a w ⟨e5,c,E,H,c6,c7,c8,Q,R,S,T,U,V,hm⟩
       unfold lW at hm
       refine wif E hm rfl (fun hm=>?_) fun hm=>?_
       ·refine dw [(0,0),(1,0),(2,0),(3,0),(4,0),(5,0),(6,0),(7,2)] [0,1,3] [] H (by kernel_rfl) (fun _ _ _ h=>False.elim h.2) fun w W0 hI H=>fn 3 E rfl fun a E=>fb E rfl (wn rfl) rfl rfl rfl rfl m0 rfl U79 rfl fun a E=>fn 1 E rfl fun a E=>fb E rfl (wn rfl) rfl rfl rfl rfl mm1 rfl U2 rfl fun a E=>fbn E (bA b.1 A B C D F G) rfl (wn rfl) rfl rfl rfl rfl mm2 rfl U36 rfl bV fun a E=>bQ rfl<|bd hm fun k0 f2 hm=>C9 (i:=4) (K:=(kyI .i64)) (v:=b.1) (cs:=[.int .i64 b.1.Err,.int .i64 b.1.At,.bool b.1.Yes,.int .i64 b.1.Epoch,A,B,C,D,F,G]) E H (wn rfl) rfl rfl rfl rfl rfl rfl (fD U2) U79 f2 (fun ok hr=>(oF (hr _ Q) (hr _ R) (hr _ S) (hr _ T) (hr _ U) (hr _ V))) fun w H=>?_
        refine nt<|bR<|?_
        clear hI
        exact aD<|have H:=H.drop 1;have H:=H.frs [3,1,3,3] rfl;⟨_,_,E.to rfl,H,c6,Q,R,S,T,U,V,c7,c8,hm⟩
       ·exact wp_skip<|aD<|have H:=H.drop 1;have H:=H.frs [3,1,3,3] rfl;⟨_,_,E.to rfl,H,c6,Q,R,S,T,U,V,c7,c8,hm⟩
     ·clear E H hm
      rintro a w ⟨e4,e,E,H,f6,e6,e7,e8,e9,f0,f1,f7,f8,hm⟩
      unfold pN at hm
      refine sq<|sv E rfl rfl rfl (cD (i:=1) (us:=(bA b.1 A B C D F G)) E H rfl rfl rfl rfl U36 rfl bV) fun a E=>bC (i:=0) E H (wn rfl) rfl rfl rfl rfl rfl rfl bV rfl (bF H e6 e7 e8 e9 f0 f1) fun w H=>nt<|wp_ret<|eC E rfl (dH (i:=0) (us:=(bA b.1 A B C D F G)) H rfl rfl rfl U36 rfl bV)<|have H:=H.drs [0,0];?_
      cases hm
      exact X8 ⟨rfl,H.reads (aA e6 (aA e7 (aA e8 (aA e9 (aA f0 (aA f1 (aA f7 (aA f8 (f6)))))))))⟩

def rJ(c:List cH):Nat→(List ByteArray)→Int→Option (List ByteArray)
  | 0,_,_=>none
  | f+1,b,d=>
    if (decide (d < (c.length:Int)))=true then ((idx c d).bind fun e=>(ck (b.length+([e.Part.Dir]:List ByteArray).length ≤ LIM)).bind fun g=>rJ c f (b ++ ([e.Part.Dir]:List ByteArray)) (IntKind.i64.wrap (d+1))) else ((ck (b.length ≤ 1000000)).bind fun i=>(ck ((uJ b).length ≤ 1000000)).bind fun j=>some (qM (uJ b)))
def vS(b:List cH):Option (List ByteArray):=
  rJ b (((b.length:Int) - 0:Int).toNat+1) [] 0
theorem Ay{l:Value}{c:List cH}(H:Sep w (Fo) rs)(k:rSl cF l c ∈ rs){r:(List ByteArray)}(hm:vS c=some r) :
    Calls Tryz.prog 34 [l].toArray w (Ret fun v w'=>∃ u,u=v∧Sep w' (Row 9 kS u r::Fo) (rs)):=by
 unfold vS at hm
 refine ent Tryz.func34 rfl Tryz.ntmps34 rfl rfl fun a E=>sq<|pr 1 E rfl fun a E=>nx<|pr 1 E rfl fun a E=>nt<|wp_seq<|sq<|pr 1 E rfl fun a E=>?_
 refine sv E rfl rfl rfl (dB E H rfl rfl k U40) fun a E=>pr 1 E rfl fun a E=>nt<|wp_block<|cA (fun b a w=>∃ m n o f,Env 23 a [(3,m),(6,l),(7,.int .i64 (c.length:Int)),(8,.int .i64 o)]∧Sep w (Row 9 kS m n::Fo) f∧(∀ r,r ∈ rs→r ∈ f)∧rJ c b n o=some r) (((c.length:Int) - 0:Int).toNat+1) ?_ ?_
 ·exact have H:=H.nilRow 9 kS;X4 ⟨E.to rfl,H,Y0,hm⟩
 ·clear E H hm
  rintro b a w ⟨m,n,o,f,E,H,g,hm⟩
  cases b with
  | zero=>exact (bW hm rfl).elim
  | succ b=>
   unfold rJ at hm
   refine sq<|pr 1 E rfl fun a E=>nt<|wp_seq<|wif E hm rfl (fun hm=>?_) fun hm=>?_
   ·refine wp_skip<|aD<|wp_seq<|wp_block<|sq<|bd hm fun j p hm=>dF E H (wn rfl) rfl rfl rfl rfl rfl (g _ k) U40 G5 p fun q11 a H E=>ldf wJ E H rfl rfl rfl rfl rfl m0 U73 rfl G5 fun a E=>al E H rfl rfl rfl rfl Pk fun y w a H E=>?_
    refine bC (i:=0) E H (wn rfl) rfl rfl rfl rfl rfl rfl G5 rfl rfl fun w H=>nt<|wp_region_lit<|pr 3 E rfl fun a E=>lb E H 0 rfl rfl rfl rfl rfl rfl rfl U9 rfl fun a E=>sT (e:=9) (d:=kS) (cs:=[.string j.Part.Dir]) (xs:=[j.Part.Dir]) E H (wn rfl) rfl rfl rfl (E.evs rfl) (by kernel_rfl) rfl (fun ok hr=>(Rows.single (d:=kS) (cs:=[.string j.Part.Dir]) (x:=j.Part.Dir) rfl)) fun z w a H E=>bk hm fun q hm=>eU (i:=1) E H (wn rfl) rfl rfl rfl rfl rfl rfl (lD m0) U41 Pj rfl q rfl fun A w a H E=>pr 1 E rfl fun a E=>?_
    exact wpList_nil<|bY<|aD<|wp_region_lit<|pr 2 E rfl fun a E=>nt<|have H:=H.drop 0;⟨b,Nat.lt_succ_self b,X4 ⟨E.to rfl,H,(Y2 g),hm⟩⟩
   ·refine wp_exit<|bH<|bH<|dZ<|aD<|sq<|pr 1 E rfl fun a E=>bk hm fun s hm=>cJ E rfl rfl rfl rfl rfl KX (Zr (ix:=0) H rfl s)<|?_
    rintro _ w ⟨rfl,H⟩ a E
    refine nx<|pr 1 E rfl fun a E=>bk hm fun t hm=>aX E (wn rfl) rfl rfl (cG E rfl rfl (KY _)) (Zs (ix:=0) H rfl t) fun B w H a E=>pr 1 E rfl fun a E=>nt<|wp_ret<|bB E rfl rfl<|?_
    cases hm
    exact ⟨_,rfl,H.reads g⟩

def xL(b:List aH)(d:ByteArray):Option Int:=
  (qL b d).bind fun c=>if (decide (c ≥ 0))=true then ((idx b c).bind fun e=>some (e.State)) else (some (3))
theorem Jc{c:Value}{d:List aH}{e:ByteArray}(H:Sep w (Fo) rs)(b:rSl aR c d ∈ rs){r:Int}(hm:xL d e=some r) :
    Calls Tryz.prog 91 [c,.string e].toArray w (Ret fun v w'=>.int .i64 r=v∧Sep w' (Fo) (rs)):=by
 unfold xL at hm
 refine ent Tryz.func91 rfl Tryz.ntmps91 rfl rfl fun a E=>sq<|pr 1 E rfl fun a E=>nt<|wp_seq<|sq<|pr 2 E rfl fun a E=>bd hm fun j f hm=>xk E rfl rfl rfl rfl rfl Ef (wL H b f) fun w H a E=>?_
 refine pr 1 E rfl fun a E=>nx<|pr 2 E rfl fun a E=>nt<|wif E hm rfl (fun hm=>?_) fun hm=>?_
 ·refine sq<|pr 2 E rfl fun a E=>bd hm fun i g hm=>dF E H (wn rfl) rfl rfl rfl rfl rfl b U54 iU g fun q9 a H E=>have H:=H.derive1 m0 (rAt (kI .i64) (q9.add 2) i.State) (fun ok h=>A6 h);pr 1 E rfl fun a E=>sv E rfl rfl rfl (nB E H rfl rfl m0 U3 rfl) fun a E=>pr 1 E rfl fun a E=>nt<|?_
  refine wp_ret<|aP<|bB E rfl rfl<|?_
  cases hm
  exact ⟨rfl,H.reads (Y2 Y0)⟩
 ·refine wp_skip<|aD<|sq<|pr 1 E rfl fun a E=>nt<|wp_ret<|bB E rfl rfl<|?_
  cases hm
  exact ⟨rfl,H.reads Y0⟩

def pP(d:ByteArray)(e:List aH)(b:Int):Option Bool:=
  (xL e d).bind fun c=>some (c == b)
theorem M5{s:ByteArray}{n d b:Nat}{o e f g i j k l m:Value}{t:List aH}{c:Int}(H:Sep w (Blk n 24 [pt d 0]::Blk d 82 [e,f,o,g,i,j,k,l,m]::Blk b 3 [.int .i64 c]::Fo) rs)(p:rSl aR o t ∈ rs){r:Bool}(hm:pP s t c=some r) :
    Calls Tryz.prog 90 [.string s,pt n 0,pt b 0].toArray w (Ret fun v w'=>.bool r=v∧Sep w' (Blk n 24 [pt d 0]::Blk d 82 [e,f,o,g,i,j,k,l,m]::Blk b 3 [.int .i64 c]::Fo) (rs)):=by
 unfold pP at hm
 refine ent Tryz.func90 rfl Tryz.ntmps90 rfl rfl fun a E=>sq<|pr 1 E rfl fun a E=>nt<|wp_seq<|dw [(0,0),(1,0),(2,0),(3,0),(4,0),(6,0),(5,1),(7,0),(8,2)] [0,1,2] [] H (by kernel_rfl) (fun _ _ _ h=>False.elim h.2) fun w W0 hI H=>fb E rfl (wn rfl) rfl rfl rfl rfl m0 rfl U24 rfl fun a E=>fn 2 E rfl fun a E=>fb E rfl (wn rfl) rfl rfl rfl rfl mm1 rfl U54 rfl fun a E=>?_
 refine fn 1 E rfl fun a E=>fb E rfl (wn rfl) rfl rfl rfl rfl mm2 rfl U3 rfl fun a E=>cE rfl<|bd hm fun u q hm=>xk E rfl rfl rfl rfl rfl LD (Jc H p q) fun w H a E=>nt<|?_
 refine ⟨⟨_,_,H,(aB m0 (aB mm1 (aB mm2 (aL)))),(aN)⟩,?_⟩
 refine fn 1 E rfl fun a E=>bQ rfl<|pr 1 E rfl fun a E=>nt<|bR<|?_
 clear hI
 refine aD<|wp_ret<|bB E rfl rfl<|?_
 cases hm
 exact ⟨rfl,H.reads Y0⟩

def dM(e:List ByteArray)(c:List aH)(d:Int):Nat→Int→Option Int
  | 0,_=>none
  | i+1,b=>
    if (decide (b < (e.length:Int)))=true then ((idx e b).bind fun f=>(pP f c d).bind fun g=>if g=true then (some (b)) else (dM e c d i (IntKind.i64.wrap (b+1)))) else (some ((-1)))
def iY(b:List ByteArray)(c:List aH)(d:Int):Option Int:=
  dM b c d (((b.length:Int) - 0:Int).toNat+1) 0
theorem s5{z y i j k l m n o p:Value}{q:List ByteArray}{s f c:Nat}{t:List aH}{d:Int}(H:Sep w (Blk s 24 [pt f 0]::Blk f 82 [i,j,y,k,l,m,n,o,p]::Blk c 3 [.int .i64 d]::Fo) rs)(u:rSl kS z q ∈ rs)(A:rSl aR y t ∈ rs){r:Int}(hm:iY q t d=some r) :
    Calls Tryz.prog 86 [z,.func (.func 90) #[] #[pt s 0,pt c 0]].toArray w (Ret fun v w'=>.int .i64 r=v∧Sep w' (Blk s 24 [pt f 0]::Blk f 82 [i,j,y,k,l,m,n,o,p]::Blk c 3 [.int .i64 d]::Fo) (rs)):=by
 unfold iY at hm
 refine ent Tryz.func86 rfl Tryz.ntmps86 rfl rfl fun a E=>sq<|pr 1 E rfl fun a E=>nt<|wp_seq<|sq<|pr 1 E rfl fun a E=>sv E rfl rfl rfl (dB E H rfl rfl u U41) fun a E=>pr 1 E rfl fun a E=>?_
 refine nt<|wp_block<|cA (fun g a w=>∃ x e,Env 19 a [(0,z),(1,.func (.func 90) #[] #[pt s 0,pt c 0]),(7,.int .i64 (q.length:Int)),(8,.int .i64 x)]∧Sep w (Blk s 24 [pt f 0]::Blk c 3 [.int .i64 d]::Blk f 82 [i,j,y,k,l,m,n,o,p]::Fo) e∧(∀ r,r ∈ rs→r ∈ e)∧dM q t d g x=some r) (((q.length:Int) - 0:Int).toNat+1) ?_ ?_
 ·exact have H:=H.frs [1,2,2] rfl;⟨_,_,E.to rfl,H,Y0,hm⟩
 ·clear E H hm
  rintro g a w ⟨x,e,E,H,b,hm⟩
  cases g with
  | zero=>exact (bW hm rfl).elim
  | succ g=>
   unfold dM at hm
   refine sq<|pr 1 E rfl fun a E=>nt<|wp_seq<|wif E hm rfl (fun hm=>?_) fun hm=>?_
   ·refine wp_skip<|aD<|wp_seq<|wp_block<|sq<|pr 2 E rfl fun a E=>nx<|pr 3 E rfl fun a E=>bd hm fun D B hm=>?_
    refine dF E H (wn rfl) rfl rfl rfl rfl rfl (b _ u) U41 sz9 B fun q40 a H E=>sv E rfl rfl rfl (nB E H rfl rfl m0 U9 rfl) fun a E=>have H:=H.frs [1,2,2] rfl;bd hm fun F C hm=>aX E (wn rfl) rfl rfl (bP E rfl rfl rfl (LC _)) (M5 H (t1 (b _ A)) C)<|?_
    rintro _ w ⟨rfl,H⟩ a E
    refine nt<|wif E hm rfl (fun hm=>?_) fun hm=>?_
    ·refine sq<|pr 2 E rfl fun a E=>nt<|wp_ret<|bU<|aP<|aP<|bU<|aP<|?_
     refine bB E rfl rfl<|?_
     cases hm
     exact ⟨rfl,H.reads (Y1 b)⟩
    ·exact wp_skip<|bY<|aD<|wp_region_lit<|pr 2 E rfl fun a E=>nt<|have H:=H.frs [1,2,2] rfl;⟨g,Nat.lt_succ_self g,_,_,E.to rfl,H,(Y1 b),hm⟩
   ·refine wp_exit<|bH<|bH<|dZ<|aD<|sq<|pr 1 E rfl fun a E=>nt<|wp_ret<|?_
    refine bB E rfl rfl<|have H:=H.frs [1,2,2] rfl;?_
    cases hm
    exact ⟨rfl,H.reads b⟩

def hU(e:List ByteArray)(b:List aH)(c:Int):Option Bool:=
  (iY e b c).bind fun d=>some (decide (d ≥ 0))
theorem yT{u o e f g i j k l m:Value}{x:List ByteArray}{p d b:Nat}{n:List aH}{c:Int}(H:Sep w (Blk p 24 [pt d 0]::Blk d 82 [e,f,o,g,i,j,k,l,m]::Blk b 3 [.int .i64 c]::Fo) rs)(q:rSl kS u x ∈ rs)(s:rSl aR o n ∈ rs){r:Bool}(hm:hU x n c=some r) :
    Calls Tryz.prog 35 [u,.func (.func 90) #[] #[pt p 0,pt b 0]].toArray w (Ret fun v w'=>.bool r=v∧Sep w' (Blk p 24 [pt d 0]::Blk d 82 [e,f,o,g,i,j,k,l,m]::Blk b 3 [.int .i64 c]::Fo) (rs)):=by
 unfold hU at hm
 refine ent Tryz.func35 rfl Tryz.ntmps35 rfl rfl fun a E=>sq<|pr 1 E rfl fun a E=>nx<|pr 2 E rfl fun a E=>bd hm fun y t hm=>xk E rfl rfl rfl rfl rfl Ve (s5 H q s t) fun w H a E=>pr 2 E rfl fun a E=>nt<|?_
 refine wp_ret<|bB E rfl rfl<|?_
 cases hm
 exact ⟨rfl,H.reads Y0⟩

def nV(x1:Int)(d:List ByteArray)(b:List aH):Option Bool:=
  (hU d b x1).bind fun c=>some (c)
theorem y6{x1:Int}{n o c:Nat}{p b d e f g i j k l:Value}{u:List ByteArray}{m:List aH}(H:Sep w (Blk n 41 [p]::Blk o 24 [pt c 0]::Blk c 82 [d,e,b,f,g,i,j,k,l]::Fo) rs)(q:rSl kS p u ∈ rs)(s:rSl aR b m ∈ rs){r:Bool}(hm:nV x1 u m=some r) :
    Calls Tryz.prog 89 [.int .i64 x1,pt n 0,pt o 0].toArray w (Ret fun v w'=>.bool r=v∧Sep w' (Blk n 41 [p]::Blk o 24 [pt c 0]::Blk c 82 [d,e,b,f,g,i,j,k,l]::Fo) (rs)):=by
 unfold nV at hm
 refine ent Tryz.func89 rfl Tryz.ntmps89 rfl rfl fun a E=>sq<|bS E H (wn rfl) rfl rfl rfl rfl rfl fun x w a H E=>pr 1 E rfl fun a E=>nx<|lb E H 1 rfl rfl rfl rfl rfl rfl rfl U41 rfl fun a E=>sv E rfl rfl rfl (kH E rfl rfl rfl) fun a E=>have H:=H.frs [1,1,3,3] rfl;bd hm fun y t hm=>?_
 refine xk E rfl rfl rfl rfl rfl Vd (yT H q s t) fun w H a E=>pr 1 E rfl fun a E=>nt<|wp_ret<|bB E rfl rfl<|have H:=H.drop 2;have H:=H.frs [1,1,2] rfl;?_
 cases hm
 exact ⟨rfl,H.reads Y0⟩

def mO(c:List aH)(b:List ByteArray):Option Int:=
  (nV 3 b c).bind fun d=>if d=true then (some (132)) else ((nV 2 b c).bind fun e=>if e=true then (some (131)) else (some (0)))
theorem C6{o:Nat}{p d e f g i j k l m:Value}{t:List aH}{n:List ByteArray}(H:Sep w (Blk o 82 [e,f,p,g,i,j,k,l,m]::Fo) rs)(c:rSl aR p t ∈ rs)(b:rSl kS d n ∈ rs){r:Int}(hm:mO t n=some r) :
    Calls Tryz.prog 38 [pt o 0,d].toArray w (Ret fun v w'=>.int .i64 r=v∧Sep w' (Blk o 82 [e,f,p,g,i,j,k,l,m]::Fo) (rs)):=by
 unfold mO at hm
 refine ent Tryz.func38 rfl Tryz.ntmps38 rfl rfl fun a E=>sq<|bS E H (wn rfl) rfl rfl rfl rfl rfl fun u w a H E=>?_
 obtain ⟨q34,x,rfl⟩:=H.slform b
 refine bS E H (wn rfl) rfl rfl rfl rfl rfl fun y w a H E=>pr 1 E rfl fun a E=>nx<|sv E rfl rfl rfl (kH E rfl rfl rfl) fun a E=>pr 1 E rfl fun a E=>nt<|wp_seq<|wp_block<|sq<|?_
 refine pr 1 E rfl fun a E=>bd hm fun z q hm=>aX E (wn rfl) rfl rfl (bP E rfl rfl rfl (DL _)) (y6 H b c q)<|?_
 rintro _ w ⟨rfl,H⟩ a E
 refine pr 1 E rfl fun a E=>nt<|wif E hm rfl (fun hm=>?_) fun hm=>?_
 ·refine sq<|pr 1 E rfl fun a E=>nt<|wp_ret<|bU<|aP<|bB E rfl rfl<|have H:=H.drs [0,0];?_
  cases hm
  exact ⟨rfl,H.reads Y0⟩
 ·refine sq<|pr 1 E rfl fun a E=>bd hm fun A s hm=>aX E (wn rfl) rfl rfl (bP E rfl rfl rfl (DL _)) (y6 H b c s)<|?_
  rintro _ w ⟨rfl,H⟩ a E
  refine pr 1 E rfl fun a E=>nt<|wif E hm rfl (fun hm=>?_) fun hm=>?_
  ·refine sq<|pr 1 E rfl fun a E=>nt<|wp_ret<|bU<|aP<|bB E rfl rfl<|have H:=H.drs [0,0];?_
   cases hm
   exact ⟨rfl,H.reads Y0⟩
  ·refine wp_skip<|bY<|aD<|sq<|pr 1 E rfl fun a E=>nt<|wp_ret<|bB E rfl rfl<|have H:=H.drs [0,0];?_
   cases hm
   exact ⟨rfl,H.reads Y0⟩

def D7(x1:aM)(b:ByteArray):Option Bool:=
  some (sEq x1.Dir b)
theorem Hh{x1:aM}{b:Nat}{c:ByteArray}(H:Sep w (Blk b 9 [.string c]::Fo) rs){r:Bool}(hm:D7 x1 c=some r) :
    Calls Tryz.prog 88 [.agg (qF x1).toArray,pt b 0].toArray w (Ret fun v w'=>.bool r=v∧Sep w' (Blk b 9 [.string c]::Fo) (rs)):=by
 unfold D7 at hm
 refine ent Tryz.func88 rfl Tryz.ntmps88 rfl rfl fun a E=>sq<|bS E H (wn rfl) rfl rfl rfl rfl rfl fun d w a H E=>pr 1 E rfl fun a E=>nx<|pr 1 E rfl fun a E=>lb E H 0 rfl rfl rfl rfl rfl rfl rfl U9 rfl fun a E=>lb E H 1 rfl rfl rfl rfl rfl rfl rfl U9 rfl fun a E=>pr 2 E rfl fun a E=>?_
 refine nt<|wp_ret<|bB E rfl rfl<|have H:=H.drop 0;?_
 cases hm
 exact ⟨rfl,H.reads Y0⟩

end Go.Cb
