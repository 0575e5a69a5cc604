/- Functions of the program, walked: each comes to its plain function. -/
import Derived.Test.YteakhlfapjaodaaGreatDoorKsg2
import Derived.Test.YteakhlfapjaodaaGreatDoorExsg
import Derived.Test.YteakhlfapjaodaaGreatDoorS1sg
import Derived.Test.YteakhlfapjaodaaGreatDoorSssg
import Derived.Test.YteakhlfapjaodaaGreatDoorStsg
set_option linter.unusedVariables false
set_option linter.unusedSimpArgs false
set_option maxRecDepth 20000
set_option maxHeartbeats 1000000
namespace Go.Cb
open Go.Proofs Go.RowKit Tryz
variable {w:WD} {Fo:List Ob} {rs:List Rp}

def tH(g:List aH)(i:List aL)(c:List aO)(d:List aE)(e:List cR):Option Yw:=
  (D3 (⟨g,i⟩:aR) e).bind λ b=>if (b.2.2.1 != 0)=true then (some ((⟨b.2.2.1,b.2.2.2,false,0,[],(⟨[],[]⟩:aR),[],[],[]⟩:aX),g,i,c,d)) else ((vX c d e b.2.1).bind λ f=>some ((⟨0,0,false,0,b.2.1,(⟨[],[]⟩:aR),[],[],[]⟩:aX),b.1.Nodes,b.1.Turns,f.1,f.2))
theorem Ab{D:Nat}{F G j k l n o p q s:VL}{I:List aH}{J:List aL}{t:List aO}{u:List aE}{x:List cR}(H:Sep w (Blk D 87 [F,G,n,o,j,k,p,q,s]::Fo) rs)(c:rSl aB F I ∈ rs)(d:rSl aC G J ∈ rs)(e:rSl aP j t ∈ rs)(f:rSl aI k u ∈ rs)(g:rSl bR l x ∈ rs)(K:N5 Tryz.prog ∈ rs){r:aX×eI×dU×fQ×eD}(m:tH I J t u x=some r) :
    Cf 101 [pt D 0,l] w λ v w'=>∃ N O P Q R S T y A B,.agg (aW r.1 N O P Q R S).toArray=v/\Sep w' (Blk D 87 [T,y,n,o,A,B,p,q,s]::Fo) (rSl aZ N r.1.Results::rSl aB O r.1.Store.Nodes::rSl aC P r.1.Store.Turns::rSl aS Q r.1.Events::rSl bI R r.1.Mounts::rSl (kI .i64) S r.1.Wounded::rSl aB T r.2.1::rSl aC y r.2.2.1::rSl aP A r.2.2.2.1::rSl aI B r.2.2.2.2::rs):=by
 unfold tH at m
 refine ent func101 z ntmps101 z z λ a E=>sq<|al2 E H z lQ λ W w a H E=>xp 3 E z λ a E=>ln 1 [F,G] E H U25 z dN λ a E=>pr 1 E z λ a E=>bd m λ b L m=>xc2 E z (cf_ 23) (Cx (x1:=(⟨I,J⟩:aR)) H c d g K L)<|?_
 rintro _ w ⟨U,V,X,rfl,H⟩ a E
 refine pr 5 E z λ a E=>al2 E H z pJ λ Y w a H E=>ss 0 E H z dN (pD H m0 mm1) λ w H=>pn 3 E z λ a E=>wS<|sq<|pn 2 E z λ a E=>wif E m z (λ m=>?_) λ m=>?_
 ·refine sp 2 E z λ a E=>sv2 E z (cH E z (E.evs z) (v:=.agg #[.int .i64 b.2.2.1,.int .i64 b.2.2.2,.bool false,.int .i64 0,nS,nS,nS,nS,nS,nS]) (by kernel_rfl)) λ a E=>ss 2 E H z bV z λ w H=>nt<|wR<|aG<|oB 2 [.int .i64 b.2.2.1,.int .i64 b.2.2.2,.bool false,.int .i64 0,nS,nS,nS,nS,nS,nS] E H U48 z bV<|have H:=H.nilSl aZ;have H:=H.nilSl aB;have H:=H.nilSl aC;have H:=H.nilSl aS;have H:=H.nilSl bI;have H:=H.nilSl (kI .i64);have H:=H.drs [0,0,0];?_
  cases m
  exact X10 ⟨z,H.rdx [5,4,3,2,1,0] z (aD (t8 c) (aD (t8 d) (aD (t8 e) (aD (t8 f) (λ r hr=>(t8 hr))))))⟩
 ·refine wK<|aA<|sp 1 E z λ a E=>ln 0 [U,V] E H U25 z dN λ a E=>pr 2 E z λ a E=>ss 3 E H z dN (pD H m0 mm1) λ w H=>xp 3 E z λ a E=>have H:=H.thaw (i:=1) z;have H:=H.frs [1,1,2] z;bd m λ Z M m=>xc2 E z (cf_ 158) (Ie H (t3 e) (t3 f) (t3 g) m0 M)<|?_
  rintro _ w ⟨b0,b1,rfl,H⟩ a E
  refine xp 1 E z λ a E=>?_
  obtain ⟨q44,C,rfl⟩:=H.slform mm2
  refine sv2 E z (cH E z (E.evs z) (v:=.agg #[.int .i64 0,.int .i64 0,.bool false,.int .i64 0,(.slice q44 b.2.1.length C),nS,nS,nS,nS,nS]) (by kernel_rfl)) λ a E=>ss 2 E H z bV z λ w H=>nt<|wR<|oB 2 [.int .i64 0,.int .i64 0,.bool false,.int .i64 0,(.slice q44 b.2.1.length C),nS,nS,nS,nS,nS] E H U48 z bV<|have H:=H.nilSl aB;have H:=H.nilSl aC;have H:=H.nilSl aS;have H:=H.nilSl bI;have H:=H.nilSl (kI .i64);have H:=H.drs [1,1];?_
  cases m
  exact X10 ⟨z,H.reads (aD (t1 mm6) (aD mm4 (aD mm3 (aD mm2 (aD mm1 (aD m0 (aD (t2 mm6) (aD (t3 mm6) (aD mm5 (aD mm6 (λ r hr=>(t2 (t8 hr)))))))))))))⟩

def mE(b:jG)(c:List xN)(d:eI)(e:dU)(f:fQ)(g:eD):Option Qb:=
  some ((⟨0,0,false,0,[],(⟨[],[]⟩:aR),[],[],[]⟩:aX),d,e,b,f,g,c)
def mF(c:jG)(d:List xN)(i:List aH)(j:List aL)(e:List aO)(f:List aE)(k:z8)(g:Bool):Option Qb:=
  if g=true then ((tH i j e f k).bind λ b=>mE c d b.2.1 b.2.2.1 b.2.2.2.1 b.2.2.2.2) else (mE c d i j e f)
def mG(g:List aH)(i:List aL)(b:List aO)(c:List aE)(j:z8)(k:List aQ)(d:List xN)(l:Bool)(x20:aK)(m:Bool)(n:Bool):Option Qb:=
  if n=true then ((dJ 2).bind λ o=>some (o,g,i,k,b,c,d)) else (if l=true then (some ((⟨0,0,false,0,[],(⟨[],[]⟩:aR),[],[],[]⟩:aX),g,i,k,b,c,d)) else ((mpt (kyI .i64) d x20.Txn (⟨true,[],(⟨0,0,false,0,[],(⟨[],[]⟩:aR),[],[],[]⟩:aX)⟩:gC)).bind λ e=>(G9 k x20.Txn).bind λ f=>if x20.Yes=true then (mF f e g i b c j m) else (mF f e g i b c j false)))
def mH(i:List aH)(j:List aL)(c:List aO)(d:List aE)(e:z8)(k:List aQ)(b:List xN)(f:Bool)(x20:aK)(g:Bool)(l:Bool)(m:Bool):Option Qb:=
  if m=true then ((dJ 62).bind λ n=>some (n,i,j,k,c,d,b)) else (if (!l)=true then (mG i j c d e k b f x20 g ((b.length:Int) == 128)) else (mG i j c d e k b f x20 g false))
def tR(j:List aH)(k:List aL)(c:List aO)(d:List aE)(l:List aQ)(e:List xN)(x20:aK)(b:Bool)(f:Bool)(g:z8)(m:Int)(n:Int)(i:Bool)(o:Int)(p:Q4)(q:eI)(s:dU)(t:zZ)(u:Jk)(v:(List Int)):Option Qb:=
  if (!b)=true then (mH j k c d g l e f x20 i b x20.Yes) else (mH j k c d g l e f x20 i b false)
def sV(f:List aH)(g:List aL)(i:List aQ)(d:List aO)(e:List aE)(c:List xN)(x20:aK):Option Qb:=
  (L3 (kyI .i64) c x20.Txn W2).bind λ b=>tR f g d e i c x20 b.2 b.1.over_ b.1.pieces_ b.1.a_.Err b.1.a_.At b.1.a_.Yes b.1.a_.Epoch b.1.a_.Results b.1.a_.Store.Nodes b.1.a_.Store.Turns b.1.a_.Events b.1.a_.Mounts b.1.a_.Wounded
theorem Ex{l d:Nat}{b3 b4 c2 A B N O P Q n o p:VL}{d3:List aH}{d4:List aL}{d5:List aQ}{R:List aO}{S:List aE}{C:List xN}{x20:aK}(H:Sep w (Blk l 87 [b3,b4,n,c2,A,B,o,.map (some d),p]::bX Tryz.prog 2 (kyI .i64) dC true d C::Fo) rs)(I:rSl aB b3 d3 ∈ rs)(J:rSl aC b4 d4 ∈ rs)(X:rSl aY c2 d5 ∈ rs)(L:rSl aP A R ∈ rs)(M:rSl aI B S ∈ rs)(g1:N5 Tryz.prog ∈ rs){r:aX×eI×dU×jG×fQ×eD×Q5}(m:sV d3 d4 d5 R S C x20=some r) :
    Cf 44 [pt l 0,.agg (aM x20 N O P Q).toArray] w λ v w'=>∃ i0 i1 i2 i3 i4 i5 i6 f1 f2 f3 f4,.agg (aW r.1 i0 i1 i2 i3 i4 i5).toArray=v/\Sep w' (Blk l 87 [i6,f1,n,f2,f3,f4,o,.map (some d),p]::bX Tryz.prog 2 (kyI .i64) dC true d r.2.2.2.2.2.2::Fo) (rSl aZ i0 r.1.Results::rSl aB i1 r.1.Store.Nodes::rSl aC i2 r.1.Store.Turns::rSl aS i3 r.1.Events::rSl bI i4 r.1.Mounts::rSl (kI .i64) i5 r.1.Wounded::rSl aB i6 r.2.1::rSl aC f1 r.2.2.1::rSl aY f2 r.2.2.2.1::rSl aP f3 r.2.2.2.2.1::rSl aI f4 r.2.2.2.2.2.1::rs):=by
 unfold sV at m
 refine ent func44 z ntmps44 z z λ a E=>sq<|bx E H z λ q w a H E=>al2 E H z lQ λ k w a H E=>nt<|aJ (λ a w=>∃ s t b5 b6 b7 b8 b9 c0 c1 D u T U F V f5 f6 f7 f8 f9 g0 Y,Env 70 a [(0,pt l 0),(3,pt q 0),(4,pt k 0),(5,pt s 0),(6,.bool c1)]/\Sep w (Blk l 87 [b3,b4,n,c2,A,B,o,.map (some d),p]::Blk q 37 (aM x20 N O P Q)::Blk k 48 bJ::Blk s 154 [.bool D,t,.int .i64 T,.int .i64 U,.bool F,.int .i64 V,b5,b6,b7,b8,b9,c0]::bX Tryz.prog 2 (kyI .i64) dC true d C::Fo) Y/\(∀ r,r ∈ rs->r ∈ Y)/\rSl bR t u ∈ Y/\tR d3 d4 R S d5 C x20 c1 D u T U F V f5 f6 f7 f8 f9 g0=some r) ?_ ?_
 ·refine bd m λ j5 d2 m=>?_
  have hI:dI [Blk q 37 (aM x20 N O P Q),Blk l 87 [b3,b4,n,c2,A,B,o,.map (some d),p]] [] { w with drawn:=w.drawn+1 }:=⟨_,_,H.kept (Kp.drawn _ w _),(aU mm1 (aU mm2 (bH))),(bO)⟩
  refine oN _ (.go 0 0 (.go 1 0 (.go 2 0 (.go 3 0 (.go 4 0 (.go 5 0 (.alt 6 (.go 7 0 (.go 8 0 (.go 9 0 (.go 10 1 (.go 11 1 (.go 12 2 .nil)))))) 10 (.go 6 1 (.go 7 0 (.go 8 0 (.go 9 0 (.go 11 1 (.go 12 2 .nil))))))))))))) [12] pI (by kernel_rfl) (λ _ _ _ h=>False.elim h.2) hI<|have H:=H.kept (Kp.drawn _ w (w.drawn+1));?_
  generalize ({ w with drawn:=w.drawn+1 }:WD)=w at H hI ⊢
  replace hI:∃ W,dI [Blk q 37 (aM x20 N O P Q),Blk l 87 [b3,b4,n,c2,A,B,o,.map (some d),p]] [] W:=⟨_,hI⟩
  obtain ⟨W0,hI⟩:=hI
  refine om E z λ a E=>ov E z (λ w hW=>(zB E z z)) λ a E=>ov E z (λ w hW=>mM E z z (v:=pt l 7) (Ul _ _)) λ a E=>ol E mm1 U85 z λ a E=>ov E z (λ w hW=>mM E z z (v:=pt q 2) (Od _ _)) λ a E=>ol E m0 U2 z λ a E=>oO z z ?_ ?_
  ·refine sL (i:=3) (K:=(kyI .i64)) E H (wn z) z z z z z z (gA U2) U85 Ok So d2 λ j6 a H E=>?_
   obtain ⟨j7,j8,j9,k0,k1,k2,k3,rfl,h⟩:=W1 H;clear H;have H:=h
   refine nt<|⟨sx H [1,2] z,om E z λ a E=>ox E z λ a E=>ox E z λ a E=>cF z<|al2 E H z Sp λ k4 w a H E=>nt<|⟨sx H [2,3] z,cF z<|ss 0 E H z Sq (M3 H mm6 mm5 mm4 mm3 mm2 mm1 m0) λ w H=>nt<|⟨sx H [2,3] z,cV z<|pn 1 E z λ a E=>fA<|?_⟩⟩⟩
   clear hI
   exact aA<|have H:=H.frs [4,1,2,3,4] z;X22 ⟨E.to z,H,(Y8 Y0),mm6,m⟩
  ·refine al2 E H z Sp λ k5 w a H E=>nt<|⟨sx H [2,3] z,cF z<|sL (i:=4) (K:=(kyI .i64)) E H (wn z) z z z z z z (gA U2) U85 Ok So d2 λ k6 a H E=>?_⟩
   obtain ⟨k7,k8,k9,l0,l1,l2,l3,rfl,h⟩:=W1 H;clear H;have H:=h
   refine nt<|⟨sx H [2,3] z,om E z λ a E=>ox E z λ a E=>ox E z λ a E=>cF z<|ss 0 E H z Sq (M3 H mm6 mm5 mm4 mm3 mm2 mm1 m0) λ w H=>nt<|⟨sx H [2,3] z,cV z<|pn 1 E z λ a E=>fA<|?_⟩⟩
   clear hI
   exact aA<|have H:=H.frs [4,1,2,3,4] z;X22 ⟨E.to z,H,(Y8 Y0),mm6,m⟩
 ·clear E H m
  rintro a w ⟨s,t,b5,b6,b7,b8,b9,c0,c1,D,u,T,U,F,V,f5,f6,f7,f8,f9,g0,Y,E,H,d6,d7,m⟩
  unfold tR at m
  refine wS<|wB<|aJ (λ a w=>∃ d8 Z,Env 70 a [(0,pt l 0),(3,pt q 0),(4,pt k 0),(5,pt s 0),(6,.bool c1),(17,.bool d8)]/\Sep w (Blk l 87 [b3,b4,n,c2,A,B,o,.map (some d),p]::Blk q 37 (aM x20 N O P Q)::Blk k 48 bJ::Blk s 154 [.bool D,t,.int .i64 T,.int .i64 U,.bool F,.int .i64 V,b5,b6,b7,b8,b9,c0]::bX Tryz.prog 2 (kyI .i64) dC true d C::Fo) Z/\(∀ r,r ∈ rs->r ∈ Z)/\rSl bR t u ∈ Z/\mH d3 d4 R S u d5 C D x20 F c1 d8=some r) ?_ ?_
  ·refine wG<|pr 3 E z λ a E=>cs m (λ x m=>?_) λ x m=>?_
   ·exact pk 1 E (kc 20 z x) z λ a E=>gl 20 E H 1 x U4 z λ a E=>pk 2 E (kc 20 z x) z λ a E=>nt<|⟨_,_,E.to z,H,d6,d7,m⟩
   ·exact pk 4 E (kc 20 z x) z λ a E=>nt<|⟨_,_,E.to z,H,d6,d7,m⟩
  ·clear E H m
   rintro a w ⟨d8,Z,E,H,f,d9,m⟩
   unfold mH at m
   refine wif E m z (λ m=>?_) λ m=>?_
   ·refine sq<|bd m λ i7 g2 m=>xc2 E z (cf_ 53) (fB H g2)<|?_
    rintro _ w ⟨i8,i9,j0,j1,j2,j3,rfl,H⟩ a E
    refine ss 2 E H z bV (bA H m0 mm1 mm2 mm3 mm4 mm5) λ w H=>nt<|wR<|bD<|aG<|oB 2 (aW i7 i8 i9 j0 j1 j2 j3) E H U48 z bV<|have H:=H.drs [1,1,1];?_
    cases m
    exact X11 ⟨z,H.rdx [0,1,2,3,4,5] z (aD (t6 (f _ I)) (aD (t6 (f _ J)) (aD (t6 (f _ X)) (aD (t6 (f _ L)) (aD (t6 (f _ M)) (λ r hr=>(t6 (f r hr))))))))⟩
   ·refine aJ (λ a w=>∃ e0 b0,Env 70 a [(0,pt l 0),(3,pt q 0),(4,pt k 0),(5,pt s 0),(25,.bool e0)]/\Sep w (Blk l 87 [b3,b4,n,c2,A,B,o,.map (some d),p]::Blk q 37 (aM x20 N O P Q)::Blk k 48 bJ::Blk s 154 [.bool D,t,.int .i64 T,.int .i64 U,.bool F,.int .i64 V,b5,b6,b7,b8,b9,c0]::bX Tryz.prog 2 (kyI .i64) dC true d C::Fo) b0/\(∀ r,r ∈ rs->r ∈ b0)/\rSl bR t u ∈ b0/\mG d3 d4 R S u d5 C D x20 F e0=some r) ?_ ?_
    ·refine wG<|pr 3 E z λ a E=>cs m (λ j m=>?_) λ j m=>?_
     ·exact pk 3 E (kc 28 z j) z λ a E=>gl 28 E H 0 j U85 z λ a E=>gv 28 E j z (X2 (i:=4) E H z z z U85) λ a E=>pk 3 E (kc 28 z j) z λ a E=>nt<|⟨_,_,E.to z,H,f,d9,m⟩
     ·exact pk 8 E (kc 28 z j) z λ a E=>nt<|⟨_,_,E.to z,H,f,d9,m⟩
    ·clear E H m
     rintro a w ⟨e0,b0,E,H,b,e1,m⟩
     unfold mG at m
     refine wif E m z (λ m=>?_) λ m=>?_
     ·refine sq<|bd m λ j4 g3 m=>xc2 E z (cf_ 53) (fB H g3)<|?_
      rintro _ w ⟨g4,g5,g6,g7,g8,g9,rfl,H⟩ a E
      refine ss 2 E H z bV (bA H m0 mm1 mm2 mm3 mm4 mm5) λ w H=>nt<|wR<|bD<|aG<|oB 2 (aW j4 g4 g5 g6 g7 g8 g9) E H U48 z bV<|have H:=H.drs [1,1,1];?_
      cases m
      exact X11 ⟨z,H.rdx [0,1,2,3,4,5] z (aD (t6 (b _ I)) (aD (t6 (b _ J)) (aD (t6 (b _ X)) (aD (t6 (b _ L)) (aD (t6 (b _ M)) (λ r hr=>(t6 (b r hr))))))))⟩
     ·refine sp 1 E z λ a E=>lb2 E H 3 U4 z λ a E=>pn 1 E z λ a E=>wif E m z (λ m=>?_) λ m=>?_
      ·refine sq<|sv2 E z (cH E z (E.evs z) (v:=.agg bJ.toArray) (by kernel_rfl)) λ a E=>ss 2 E H z bV z λ w H=>nt<|wR<|bD<|aG<|Ei E z (qH (i:=2) (us:=bJ) H z z z U48 z bV)<|have H:=H.nilSl aZ;have H:=H.nilSl aB;have H:=H.nilSl aC;have H:=H.nilSl aS;have H:=H.nilSl bI;have H:=H.nilSl (kI .i64);have H:=H.drs [1,1,1];?_
       cases m
       exact X11 ⟨z,H.rdx [5,4,3,2,1,0] z (aD (t6 (b _ I)) (aD (t6 (b _ J)) (aD (t6 (b _ X)) (aD (t6 (b _ L)) (aD (t6 (b _ M)) (λ r hr=>(t6 (b r hr))))))))⟩
      ·refine wK<|bP<|aA<|wS<|dz [0,0,0,0,0,0,0,2] [0,1] H λ w W0 hI H=>fn 3 E z λ a E=>fb2 E m0 U85 z λ a E=>fn 1 E z λ a E=>fb2 E mm1 U2 z λ a E=>fv E z (λ w hW=>(cH E z (E.evs z) (v:=.agg #[.bool true,nS,.int .i64 0,.int .i64 0,.bool false,.int .i64 0,nS,nS,nS,nS,nS,nS]) (by kernel_rfl))) λ a E=>bL z<|bd m λ b1 e2 m=>T8 (i:=4) (K:=(kyI .i64)) (v:=(⟨true,[],(⟨0,0,false,0,[],(⟨[],[]⟩:aR),[],[],[]⟩:aX)⟩:gC)) (cs:=[.bool true,nS,.int .i64 0,.int .i64 0,.bool false,.int .i64 0,nS,nS,nS,nS,nS,nS]) E H (wn z) z z z z z z (gA U2) U85 e2 (λ ok hr=>(U7 (Sl.nil _ _ _) (Sl.nil _ _ _) (Sl.nil _ _ _) (Sl.nil _ _ _) (Sl.nil _ _ _) (Sl.nil _ _ _) (Sl.nil _ _ _))) λ w H=>nt<|bB<|?_
       clear hI
       refine aA<|wS<|dz [0,0,0,0,0,0,0,1,2,2,2] [0,1] H λ w W0 hI H=>fn 4 E z λ a E=>fb2 E m0 U58 z λ a E=>fn 1 E z λ a E=>fb2 E mm1 U2 z λ a E=>bQ z<|bd m λ g e3 m=>xc2 E z (cf_ 103) (Uq H (b _ X) e3)<|?_
       rintro _ w ⟨l4,rfl,H⟩ a E
       refine nt<|⟨sx H [1,2] z,bL z<|pn 1 E z λ a E=>bL z<|pn 1 E z λ a E=>bL z<|?_⟩
       obtain ⟨q111,b2,rfl⟩:=H.rowform (i:=0) z
       refine ss 1 E H z ME z λ w H=>nt<|bB<|?_
       clear hI
       refine aA<|aJ (λ a w=>∃ c3 c4 c5 c6 c7 c8 c9 d0 e,Env 70 a [(4,pt k 0)]/\Sep w (Blk k 48 bJ::Blk l 87 [c3,c4,n,(.slice q111 g.length b2),c5,c6,o,.map (some d),p]::bX Tryz.prog 2 (kyI .i64) dC true d b1::Row 78 aY (.slice q111 g.length b2) g::Fo) e/\(∀ r,r ∈ rs->r ∈ e)/\rSl aB c3 c7 ∈ e/\rSl aC c4 c8 ∈ e/\rSl aP c5 c9 ∈ e/\rSl aI c6 d0 ∈ e/\mE g b1 c7 c8 c9 d0=some r) ?_ ?_
       ·refine aJ (λ a w=>∃ d1 G,Env 70 a [(0,pt l 0),(4,pt k 0),(5,pt s 0),(64,.bool d1)]/\Sep w (Blk l 87 [b3,b4,n,(.slice q111 g.length b2),A,B,o,.map (some d),p]::Blk k 48 bJ::Blk s 154 [.bool D,t,.int .i64 T,.int .i64 U,.bool F,.int .i64 V,b5,b6,b7,b8,b9,c0]::bX Tryz.prog 2 (kyI .i64) dC true d b1::Row 78 aY (.slice q111 g.length b2) g::Fo) G/\(∀ r,r ∈ rs->r ∈ G)/\rSl bR t u ∈ G/\mF g b1 d3 d4 R S u d1=some r) ?_ ?_
        ·refine wG<|pr 1 E z λ a E=>lb2 E H 2 U4 z λ a E=>pr 1 E z λ a E=>cs m (λ y m=>?_) λ y m=>?_
         ·exact pk 2 E (kc 60 z y) z λ a E=>gl 60 E H 4 y U4 z λ a E=>pk 1 E (kc 60 z y) z λ a E=>nt<|have H:=H.drop 2;have H:=H.frs [0,4,4,4,4] z;⟨_,_,E.to z,H,b,e1,m⟩
         ·exact pk 4 E (kc 60 z y) z λ a E=>nt<|have H:=H.drop 2;have H:=H.frs [0,4,4,4,4] z;⟨_,_,E.to z,H,b,e1,m⟩
        ·clear E H m
         rintro a w ⟨d1,G,E,H,c,e4,m⟩
         unfold mF at m
         refine wif E m z (λ m=>?_) λ m=>?_
         ·refine wG<|pr 2 E z λ a E=>lb2 E H 2 U26 z λ a E=>bd m λ l5 e5 m=>xc2 E z (cf_ 101) (Ab H (c _ I) (c _ J) (c _ L) (c _ M) e4 (c _ g1) e5)<|?_
          rintro _ w ⟨l6,l7,l8,l9,m1,m2,m3,m4,m5,m6,rfl,H⟩ a E
          exact nt<|have H:=H.drop 2;have H:=H.frs [3,3,2,3] z;X9 ⟨E.to z,H,(Y2 (Y8 c)),mm6,(t1 mm6),(t2 mm6),(t3 mm6),m⟩
         ·exact wK<|aA<|have H:=H.drop 2;have H:=H.frs [3,3,2,3] z;X9 ⟨E.to z,H,c,(c _ I),(c _ J),(c _ L),(c _ M),m⟩
       ·clear E H m
        rintro a w ⟨c3,c4,c5,c6,c7,c8,c9,d0,e,E,H,e6,e7,e8,e9,f0,m⟩
        unfold mE at m
        refine sq<|sv2 E z (cH E z (E.evs z) (v:=.agg bJ.toArray) (by kernel_rfl)) λ a E=>ss 0 E H z bV z λ w H=>nt<|wR<|Ei E z (qH (i:=0) (us:=bJ) H z z z U48 z bV)<|have H:=H.nilSl aZ;have H:=H.nilSl aB;have H:=H.nilSl aC;have H:=H.nilSl aS;have H:=H.nilSl bI;have H:=H.nilSl (kI .i64);have H:=H.thaw (i:=3) z;have H:=H.drop 0;?_
        cases m
        exact X11 ⟨z,H.rdx [6,5,4,3,2,1] z (aD (t7 e7) (aD (t7 e8) (aD m0 (aD (t7 e9) (aD (t7 f0) (λ r hr=>(t7 (e6 r hr))))))))⟩

def pN(x1:aF)(b:BY):Option Bool:=
  some (sEq x1.Prefix b)
theorem Ey{x1:aF}{b:Nat}{c:BY}(H:Sep w (Blk b 9 [.string c]::Fo) rs){r:Bool}(m:pN x1 c=some r) :
    Cf 174 [.agg (qZ x1).toArray,pt b 0] w λ v w'=>.bool r=v/\Sep w' (Blk b 9 [.string c]::Fo) (rs):=by
 unfold pN at m
 refine ent func174 z ntmps174 z z λ a E=>sq<|bx E H z λ d w a H E=>pr 1 E z λ a E=>xp 1 E z λ a E=>lb2 E H 0 U9 z λ a E=>lb2 E H 1 U9 z λ a E=>pr 2 E z λ a E=>nt<|wR<|o1 E z<|have H:=H.drop 0;?_
 cases m
 exact ⟨z,H.reads Y0⟩

def eP(c:List aF)(d:BY):Nat->Int->Option Int
  | 0,_=>none
  | f+1,b=>
    if (decide (b < (c.length:Int)))=true then ((idx c b).bind λ g=>(pN g d).bind λ e=>if e=true then (some (b)) else (eP c d f (IntKind.i64.wrap (b+1)))) else (some ((-1)))
def jM(b:List aF)(c:BY):Option Int:=
  eP b c (((b.length:Int) - 0:Int).toNat+1) 0
theorem E4{i:VL}{d:List aF}{e:Nat}{f:BY}(H:Sep w (Blk e 9 [.string f]::Fo) rs)(g:rSl aN i d ∈ rs){r:Int}(m:jM d f=some r) :
    Cf 173 [i,.func (.func 174) #[] #[pt e 0]] w λ v w'=>.int .i64 r=v/\Sep w' (Blk e 9 [.string f]::Fo) (rs):=by
 unfold jM at m
 refine ent func173 z ntmps173 z z λ a E=>sq<|pn 1 E z λ a E=>wS<|sp 1 E z λ a E=>lS E H g U32 z λ a E=>pr 1 E z λ a E=>nt<|wB<|bG (λ c a w=>∃ j,Jn 19 a w [(0,i),(1,.func (.func 174) #[] #[pt e 0]),(7,.int .i64 (d.length:Int)),(8,.int .i64 j)] (Blk e 9 [.string f]::Fo) rs (eP d f c j=some r)) (((d.length:Int) - 0:Int).toNat+1) ?_ ?_
 ·exact ⟨_,_,E.to z,H,Y0,m⟩
 ·clear E H m
  rintro c a w ⟨j,n,E,H,b,m⟩
  cases c with
  | zero=>exact (bE m z).elim
  | succ c=>
   unfold eP at m
   refine sq<|pn 1 E z λ a E=>wS<|wif E m z (λ m=>?_) λ m=>?_
   ·refine wK<|aA<|wS<|wB<|sp 2 E z λ a E=>xp 3 E z λ a E=>bd m λ p k m=>dB E H (wn z) z z z z z (b _ g) U32 iY k λ q11 a H E=>ldf kZ E H z z z z z m0 U31 z iY λ a E=>bd m λ o l m=>bK E (wn z) z z (bN E z z z ((cf_ 174) _)) (Ey H l)<|?_
    rintro _ w ⟨rfl,H⟩ a E
    refine nt<|wif E m z (λ m=>?_) λ m=>?_
    ·refine sq<|pn 2 E z λ a E=>wR<|bD<|aG<|aG<|bD<|aG<|o1 E z<|?_
     cases m
     exact ⟨z,H.reads (Y1 b)⟩
    ·exact wK<|bP<|aA<|wG<|pn 2 E z λ a E=>⟨c,nL c,_,_,E.to z,H,(Y1 b),m⟩
   ·refine wX<|aT<|aT<|cL<|aA<|sq<|pn 1 E z λ a E=>wR<|o1 E z<|?_
    cases m
    exact ⟨z,H.reads b⟩

def kU(c:List aF)(d:BY):Option (aF×Bool):=
  (jM c d).bind λ b=>if (decide (b < 0))=true then (some ((⟨(ByteArray.mk #[]),0,0⟩:aF),false)) else ((idx c b).bind λ e=>some (e,true))
theorem H9{o:Nat}{p c d e f g j k l:VL}{t:List aF}{n:BY}(H:Sep w (Blk o 87 [c,d,p,e,f,g,j,k,l]::Fo) rs)(b:rSl aN p t ∈ rs){r:aF×Bool}(m:kU t n=some r) :
    Cf 104 [pt o 0,.string n] w λ v w'=>.tuple #[.agg (qZ r.1).toArray,.bool r.2]=v/\Sep w' (Blk o 87 [c,d,p,e,f,g,j,k,l]::Fo) (rs):=by
 unfold kU at m
 refine ent func104 z ntmps104 z z λ a E=>sq<|bx E H z λ x w a H E=>al2 E H z Mf λ y w a H E=>pr 1 E z λ a E=>xp 3 E z λ a E=>lb2 E H 2 U32 z λ a E=>sv2 E z (nT E z z z) λ a E=>have H:=H.frs [2,1,2] z;bd m λ A q m=>xk2 E z (cf_ 173) (E4 H b q) λ w H a E=>pn 1 E z λ a E=>wS<|sq<|pn 2 E z λ a E=>wif E m z (λ m=>?_) λ m=>?_
 ·refine sq<|sv2 E z (cH E z (E.evs z) (v:=.agg Wg.toArray) (by kernel_rfl)) λ a E=>ss 1 E H z iY z λ w H=>pn 1 E z λ a E=>wR<|aG<|zW E z (qH (i:=1) (us:=Wg) H z z z U31 z iY) (rvT z)<|have H:=H.drs [0,0];?_
  cases m
  exact ⟨z,H.reads Y0⟩
 ·refine wK<|aA<|sp 3 E z λ a E=>lb2 E H 2 U32 z λ a E=>pr 1 E z λ a E=>bd m λ u s m=>dB E H (wn z) z z z z z b U32 iY s λ q36 a H E=>ldf kZ E H z z z z z m0 U31 z iY λ a E=>ss 1 E H z iY z λ w H=>pn 1 E z λ a E=>wR<|zW E z (qH (i:=1) (us:=(qZ u)) H z z z U31 z iY) (rvT z)<|have H:=H.drs [0,0];?_
  cases m
  exact ⟨z,H.reads (Y1 Y0)⟩

def sW(x1:aQ)(b:List aF)(e:BY):Option Bool:=
  (mR b x1.Dir).bind λ c=>if (decide (c ≥ 0))=true then ((idx b c).bind λ d=>some (sEq d.Prefix e)) else (some (false))
theorem Ez{x1:aQ}{e f:Nat}{g:VL}{q:List aF}{i:BY}(H:Sep w (Blk e 32 [g]::Blk f 9 [.string i]::Fo) rs)(c:rSl aN g q ∈ rs){r:Bool}(m:sW x1 q i=some r) :
    Cf 176 [.agg (uY x1).toArray,pt e 0,pt f 0] w λ v w'=>.bool r=v/\Sep w' (Blk e 32 [g]::Blk f 9 [.string i]::Fo) (rs):=by
 unfold sW at m
 refine ent func176 z ntmps176 z z λ a E=>sq<|bx E H z λ x w a H E=>pr 1 E z λ a E=>nx<|lb2 E H 1 U32 z λ a E=>pr 1 E z λ a E=>lb2 E H 0 U9 z λ a E=>bd m λ y j m=>xk2 E z (cf_ 24) (A2 H c j) λ w H a E=>pn 1 E z λ a E=>wS<|?_
 obtain ⟨s,H⟩:=H.raw c
 refine dw [(0,0),(1,0),(2,0),(3,0),(4,0),(5,0),(6,0),(7,0),(8,0),(9,0),(10,0),(11,2)] [1,2] [0] H (by kernel_rfl) (λ _ _ _ h=>False.elim h.2) λ w W0 hI H=>fn 3 E z λ a E=>cs m (λ b m=>?_) λ b m=>?_
 ·refine fb E z (ws' (d:=12) E z z z z b) z z z z m0 z U32 z λ a E=>fk 1 E (kc 12 z b) z λ a E=>bd m λ t l m=>?_
  obtain ⟨q15,u,n,o⟩:=fW (P:=Tryz.prog) (k:=.i64) hI (fV (.head _)) U32 iY l
  refine cU E z (ws' (d:=12) E z z z z b) z z (λ w hW=>iD E z z z (n w)) λ a E=>?_
  have p:=gY o (λ _ _ _ h=>sN h)
  refine fk 1 E (kc 12 z b) z λ a E=>fa E z (ws' (d:=12) E z z z z b) z z z z p U9 z λ a E=>fb E z (ws' (d:=12) E z z z z b) z z z z mm1 z U9 z λ a E=>fk 2 E (kc 12 z b) z λ a E=>bL z<|pn 1 E z λ a E=>bB<|?_
  clear hI
  refine aA<|wR<|o1 E z<|have H:=H.drop 0;?_
  cases m
  exact ⟨z,H.reads (Y1 Y0)⟩
 ·refine fk 8 E (kc 12 z b) z λ a E=>bL z<|pn 1 E z λ a E=>bB<|?_
  clear hI
  refine aA<|wR<|o1 E z<|have H:=H.drop 0;?_
  cases m
  exact ⟨z,H.reads (Y1 Y0)⟩

def eQ(c:List aQ)(d:List aF)(e:BY):Nat->Int->Option Int
  | 0,_=>none
  | i+1,b=>
    if (decide (b < (c.length:Int)))=true then ((idx c b).bind λ f=>(sW f d e).bind λ g=>if g=true then (some (b)) else (eQ c d e i (IntKind.i64.wrap (b+1)))) else (some ((-1)))
def jN(b:List aQ)(c:List aF)(d:BY):Option Int:=
  eQ b c d (((b.length:Int) - 0:Int).toNat+1) 0
theorem E5{l j:VL}{d:List aQ}{e f:Nat}{n:List aF}{g:BY}(H:Sep w (Blk e 32 [j]::Blk f 9 [.string g]::Fo) rs)(k:rSl aY l d ∈ rs)(q:rSl aN j n ∈ rs){r:Int}(m:jN d n g=some r) :
    Cf 154 [l,.func (.func 176) #[] #[pt e 0,pt f 0]] w λ v w'=>.int .i64 r=v/\Sep w' (Blk e 32 [j]::Blk f 9 [.string g]::Fo) (rs):=by
 unfold jN at m
 refine ent func154 z ntmps154 z z λ a E=>sq<|pn 1 E z λ a E=>wS<|sp 1 E z λ a E=>lS E H k U58 z λ a E=>pr 1 E z λ a E=>nt<|wB<|bG (λ c a w=>∃ i,Jn 19 a w [(0,l),(1,.func (.func 176) #[] #[pt e 0,pt f 0]),(7,.int .i64 (d.length:Int)),(8,.int .i64 i)] (Blk e 32 [j]::Blk f 9 [.string g]::Fo) rs (eQ d n g c i=some r)) (((d.length:Int) - 0:Int).toNat+1) ?_ ?_
 ·exact ⟨_,_,E.to z,H,Y0,m⟩
 ·clear E H m
  rintro c a w ⟨i,s,E,H,b,m⟩
  cases c with
  | zero=>exact (bE m z).elim
  | succ c=>
   unfold eQ at m
   refine sq<|pn 1 E z λ a E=>wS<|wif E m z (λ m=>?_) λ m=>?_
   ·refine wK<|aA<|wS<|wB<|sp 2 E z λ a E=>xp 3 E z λ a E=>bd m λ t o m=>dB E H (wn z) z z z z z (b _ k) U58 jZ o λ q15 a H E=>ldf gR E H z z z z z m0 U78 z jZ λ a E=>bd m λ u p m=>bK E (wn z) z z (bN E z z z ((cf_ 176) _)) (Ez H (t1 (b _ q)) p)<|?_
    rintro _ w ⟨rfl,H⟩ a E
    refine nt<|wif E m z (λ m=>?_) λ m=>?_
    ·refine sq<|pn 2 E z λ a E=>wR<|bD<|aG<|aG<|bD<|aG<|o1 E z<|?_
     cases m
     exact ⟨z,H.reads (Y1 b)⟩
    ·exact wK<|bP<|aA<|wG<|pn 2 E z λ a E=>⟨c,nL c,_,_,E.to z,H,(Y1 b),m⟩
   ·refine wX<|aT<|aT<|cL<|aA<|sq<|pn 1 E z λ a E=>wR<|o1 E z<|?_
    cases m
    exact ⟨z,H.reads b⟩

def iW(c:List aQ)(d:List aF)(e:BY):Option Bool:=
  (jN c d e).bind λ b=>some (decide (b ≥ 0))
theorem C5{g b:VL}{i:List aQ}{c d:Nat}{j:List aF}{e:BY}(H:Sep w (Blk c 32 [b]::Blk d 9 [.string e]::Fo) rs)(k:rSl aY g i ∈ rs)(l:rSl aN b j ∈ rs){r:Bool}(m:iW i j e=some r) :
    Cf 160 [g,.func (.func 176) #[] #[pt c 0,pt d 0]] w λ v w'=>.bool r=v/\Sep w' (Blk c 32 [b]::Blk d 9 [.string e]::Fo) (rs):=by
 unfold iW at m
 refine ent func160 z ntmps160 z z λ a E=>sp 1 E z λ a E=>xp 2 E z λ a E=>bd m λ n f m=>xk2 E z (cf_ 154) (E5 H k l f) λ w H a E=>pn 2 E z λ a E=>wR<|o1 E z<|?_
 cases m
 exact ⟨z,H.reads Y0⟩

def oX(e:List aQ)(b:List aF)(c:BY):Option Bool:=
  (iW e b c).bind λ d=>some (d)
theorem Z2{p:Nat}{q c d e f g i j k l:VL}{u:List aQ}{n:List aF}{o:BY}(H:Sep w (Blk p 87 [d,e,f,q,g,i,j,k,l]::Fo) rs)(s:rSl aY q u ∈ rs)(b:rSl aN c n ∈ rs){r:Bool}(m:oX u n o=some r) :
    Cf 106 [pt p 0,c,.string o] w λ v w'=>.bool r=v/\Sep w' (Blk p 87 [d,e,f,q,g,i,j,k,l]::Fo) (rs):=by
 unfold oX at m
 refine ent func106 z ntmps106 z z λ a E=>sq<|?_
 obtain ⟨q34,x,rfl⟩:=H.slform b
 refine bx E H z λ y w a H E=>bx E H z λ A w a H E=>pr 1 E z λ a E=>xp 3 E z λ a E=>lb2 E H 2 U58 z λ a E=>sv2 E z (nT E z z z) λ a E=>have H:=H.frs [2,1,2] z;bd m λ B t m=>xk2 E z (cf_ 160) (C5 H s b t) λ w H a E=>pn 1 E z λ a E=>wR<|o1 E z<|have H:=H.drs [0,0];?_
 cases m
 exact ⟨z,H.reads Y0⟩

def tS(b:aF×Bool)(c:iS)(d:eI)(e:dU):Option Ss:=
  some ((⟨0,0,false,b.1.Epoch,[],(⟨d,e⟩:aR),[],[],[]⟩:aX),c)
def qB(x20:aK)(e:List aH)(f:List aL)(b:iS):Option Ss:=
  (kU b x20.Prefix).bind λ d=>(vF (⟨e,f⟩:aR) b x20.Prefix).bind λ c=>tS d b c.1 c.2.1
def qC(x20:aK)(l:List aH)(m:List aL)(c:List aF)(n:List aQ)(d:Bool):Option Ss:=
  if d=true then ((uQ c x20.Prefix).bind λ b=>if (!b.2)=true then ((dJ 132).bind λ e=>some (e,c)) else ((mR b.1 x20.Prefix).bind λ f=>(idx b.1 f).bind λ g=>if (g.Epoch != x20.Epoch)=true then ((dJ 133).bind λ i=>some (i,c)) else ((oX n b.1 x20.Prefix).bind λ j=>if j=true then ((dJ 131).bind λ k=>some (k,c)) else (qB x20 l m b.1)))) else (qB x20 l m c)
def sX(d:List aH)(e:List aL)(c:List aF)(f:List aQ)(x20:aK):Option Ss:=
  (kU c x20.Prefix).bind λ b=>if (b.1.State != 2)=true then (qC x20 d e c f true) else (qC x20 d e c f (b.1.Epoch != x20.Epoch))
theorem Fa{g:Nat}{A B c1 I J K L M j l n o p:VL}{C:List aH}{D:List aL}{c2:List aF}{c3:List aQ}{x20:aK}(H:Sep w (Blk g 87 [A,B,c1,I,j,l,n,o,p]::Fo) rs)(q:rSl aB A C ∈ rs)(s:rSl aC B D ∈ rs)(f:rSl aN c1 c2 ∈ rs)(c4:rSl aY I c3 ∈ rs){r:aX×iS}(m:sX C D c2 c3 x20=some r) :
    Cf 46 [pt g 0,.agg (aM x20 J K L M).toArray] w λ v w'=>∃ e9 f0 f1 f2 f3 f4 f5,.agg (aW r.1 e9 f0 f1 f2 f3 f4).toArray=v/\Sep w' (Blk g 87 [A,B,f5,I,j,l,n,o,p]::Fo) (rSl aZ e9 r.1.Results::rSl aB f0 r.1.Store.Nodes::rSl aC f1 r.1.Store.Turns::rSl aS f2 r.1.Events::rSl bI f3 r.1.Mounts::rSl (kI .i64) f4 r.1.Wounded::rSl aN f5 r.2::rs):=by
 unfold sX at m
 refine ent func46 z ntmps46 z z λ a E=>sq<|bx E H z λ t w a H E=>al2 E H z lQ λ y w a H E=>nt<|aJ (λ a w=>∃ u N F,Env 90 a [(0,pt g 0),(3,pt t 0),(4,pt y 0)]/\Sep w (Blk g 87 [A,B,u,I,j,l,n,o,p]::Blk t 37 (aM x20 J K L M)::Blk y 48 bJ::Fo) F/\(∀ r,r ∈ rs->r ∈ F)/\rSl aN u N ∈ F/\qB x20 C D N=some r) ?_ ?_
 ·refine sp 2 E z λ a E=>lb2 E H 1 U9 z λ a E=>have H:=H.frs [1,1,2] z;bd m λ f7 X m=>xk2 E z (cf_ 104) (H9 H f X) λ w H a E=>pr 3 E z λ a E=>al2 E H z Mf λ f8 w a H E=>ss 0 E H z iY z λ w H=>pn 1 E z λ a E=>aJ (λ a w=>∃ R,Jn 90 a w [(0,pt g 0),(3,pt t 0),(4,pt y 0),(29,.bool R)] (Blk g 87 [A,B,c1,I,j,l,n,o,p]::Blk t 37 (aM x20 J K L M)::Blk y 48 bJ::Fo) rs (qC x20 C D c2 c3 R=some r)) ?_ ?_
  ·refine wG<|pr 1 E z λ a E=>lb2 E H 0 U3 z λ a E=>pr 2 E z λ a E=>cs m (λ e m=>?_) λ e m=>?_
   ·exact pk 6 E (kc 23 z e) z λ a E=>nt<|have H:=H.drop 0;have H:=H.frs [1,2,2] z;⟨_,_,E.to z,H,Y0,m⟩
   ·exact pk 1 E (kc 23 z e) z λ a E=>gl 23 E H 0 e U2 z λ a E=>pk 1 E (kc 23 z e) z λ a E=>gl 23 E H 3 e U2 z λ a E=>pk 2 E (kc 23 z e) z λ a E=>nt<|have H:=H.drop 0;have H:=H.frs [1,2,2] z;⟨_,_,E.to z,H,Y0,m⟩
  ·clear E H m
   rintro a w ⟨R,f6,E,H,c,m⟩
   unfold qC at m
   refine wif E m z (λ m=>?_) λ m=>?_
   ·refine wS<|dz [0,0,0,0,0,0,1,0,0,0,1,2] [0,1] H λ w W0 hI H=>fn 3 E z λ a E=>fb2 E m0 U32 z λ a E=>fn 1 E z λ a E=>fb2 E mm1 U9 z λ a E=>bQ z<|bd m λ f9 Y m=>xc2 E z (cf_ 105) (Qf H (c _ f) Y)<|?_
    rintro _ w ⟨g0,rfl,H⟩ a E
    refine nt<|⟨sx H [1,2] z,fn 3 E z λ a E=>bQ z<|pn 1 E z λ a E=>⟨sx H [1,2] z,bL z<|pn 1 E z λ a E=>bB<|?_⟩⟩
    clear hI
    refine aA<|wS<|sq<|pn 2 E z λ a E=>wif E m z (λ m=>?_) λ m=>?_
    ·refine sq<|bd m λ c5 Z m=>xc2 E z (cf_ 53) (fB H Z)<|?_
     rintro _ w ⟨c6,c7,c8,c9,d0,d1,rfl,H⟩ a E
     refine ss 3 E H z bV (bA H m0 mm1 mm2 mm3 mm4 mm5) λ w H=>nt<|wR<|aG<|aG<|oB 3 (aW c5 c6 c7 c8 c9 d0 d1) E H U48 z bV<|have H:=H.drs [0,1,1];?_
     cases m
     exact X7 ⟨z,H.rdx [0,1,2,3,4,5] z (aD (t6 (c _ f)) (λ r hr=>(t6 (c r hr))))⟩
    ·refine wK<|aA<|wS<|wS<|have H:=H.thaw (i:=0) z;?_
     obtain ⟨g1,H⟩:=H.raw m0
     refine dw [(0,0),(1,0),(2,0),(3,0),(8,0),(9,0),(4,1),(5,0),(6,0),(7,0),(10,0)] [1] [0] H (by kernel_rfl) (λ _ _ _ h=>False.elim h.2) λ w W0 hI H=>fn 3 E z λ a E=>fb2 E m0 U9 z λ a E=>fn 1 E z λ a E=>fb2 E m0 U2 z λ a E=>bQ z<|bd m λ g2 b0 m=>xk2 E z (cf_ 24) (A2 H mm1 b0) λ w H a E=>nt<|⟨⟨_,_,H,(aU mm1 (bH)),(aD m0 (bO))⟩,bd m λ g3 b1 m=>?_⟩
     obtain ⟨q258,g4,b2,b3⟩:=fW (P:=Tryz.prog) (k:=.i64) hI (fV (.head _)) U32 iY b1
     refine fv E z (λ w hW=>iD E z z z (b2 w)) λ a E=>?_
     have b4:=gY b3 (λ _ _ _ h=>Nw h)
     refine fn 1 E z λ a E=>fa E z (wn z) z z z z b4 U2 z λ a E=>fn 1 E z λ a E=>bB<|?_
     clear hI
     refine aA<|wif E m z (λ m=>?_) λ m=>?_
     ·refine sq<|bd m λ d2 b5 m=>xc2 E z (cf_ 53) (fB H b5)<|?_
      rintro _ w ⟨d3,d4,d5,d6,d7,d8,rfl,H⟩ a E
      refine ss 2 E H z bV (bA H m0 mm1 mm2 mm3 mm4 mm5) λ w H=>nt<|wR<|aG<|aG<|oB 2 (aW d2 d3 d4 d5 d6 d7 d8) E H U48 z bV<|have H:=H.drs [1,1];?_
      cases m
      exact X7 ⟨z,H.rdx [0,1,2,3,4,5] z (aD (t8 (c _ f)) (λ r hr=>(t8 (c r hr))))⟩
     ·refine wK<|aA<|wS<|sp 3 E z λ a E=>lb2 E H 1 U9 z λ a E=>bd m λ g5 b6 m=>xk2 E z (cf_ 106) (Z2 H (t2 (c _ c4)) mm1 b6) λ w H a E=>nt<|wif E m z (λ m=>?_) λ m=>?_
      ·refine sq<|bd m λ d9 b7 m=>xc2 E z (cf_ 53) (fB H b7)<|?_
       rintro _ w ⟨e0,e1,e2,e3,e4,e5,rfl,H⟩ a E
       refine ss 2 E H z bV (bA H m0 mm1 mm2 mm3 mm4 mm5) λ w H=>nt<|wR<|aG<|aG<|oB 2 (aW d9 e0 e1 e2 e3 e4 e5) E H U48 z bV<|have H:=H.drs [1,1];?_
       cases m
       exact X7 ⟨z,H.rdx [0,1,2,3,4,5] z (aD (t8 (c _ f)) (λ r hr=>(t8 (c r hr))))⟩
      ·refine wK<|aA<|wG<|pr 4 E z λ a E=>?_
       obtain ⟨q281,g6,rfl⟩:=H.slform mm1
       exact ss 0 E H z DT z λ w H=>nt<|X3 ⟨E.to z,H,(Y2 c),mm1,m⟩
   ·exact wK<|aA<|X3 ⟨E.to z,H,c,(c _ f),m⟩
 ·clear E H m
  rintro a w ⟨u,N,F,E,H,b,d,m⟩
  unfold qB at m
  refine sp 2 E z λ a E=>lb2 E H 1 U9 z λ a E=>bd m λ S e6 m=>xk2 E z (cf_ 104) (H9 H d e6) λ w H a E=>pr 3 E z λ a E=>al2 E H z Mf λ b8 w a H E=>ss 0 E H z iY z λ w H=>pr 1 E z λ a E=>nt<|aJ (λ a w=>∃ V T U O Q G,Env 90 a [(4,pt y 0),(9,pt b8 0),(11,pt V 0)]/\Sep w (Blk y 48 bJ::Blk b8 31 (qZ S.1)::Blk V 25 [T,U]::Blk g 87 [A,B,u,I,j,l,n,o,p]::Row 107 aB T O::Row 89 aC U Q::Fo) G/\(∀ r,r ∈ rs->r ∈ G)/\rSl aN u N ∈ G/\tS S N O Q=some r) ?_ ?_
  ·refine bd m λ n2 x m=>?_
   have hI:dI [Blk g 87 [A,B,u,I,j,l,n,o,p],Blk t 37 (aM x20 J K L M)] [] { w with drawn:=w.drawn+1 }:=⟨_,_,H.kept (Kp.drawn _ w _),(aU mm1 (aU mm2 (bH))),(bO)⟩
   refine oN _ (.go 0 0 (.go 1 0 (.go 2 0 (.go 3 0 (.go 4 0 (.go 5 0 (.go 6 0 (.go 7 0 (.go 8 0 (.go 9 0 (.alt3 10 (.go 11 0 (.go 12 0 (.go 13 0 (.alt 14 (.go 15 1 (.go 16 1 (.go 17 2 .nil))) 15 (.go 14 1 (.go 16 1 (.go 17 2 .nil))))))) 14 (.alt 10 (.go 11 0 (.go 12 0 (.go 13 0 (.go 15 1 (.go 16 1 (.go 17 2 .nil)))))) 15 (.go 10 1 (.go 11 0 (.go 12 0 (.go 13 0 (.go 16 1 (.go 17 2 .nil))))))) 15 (.alt 10 (.go 11 0 (.go 12 0 (.go 13 0 (.go 14 1 (.go 16 1 (.go 17 2 .nil)))))) 14 (.go 10 1 (.go 11 0 (.go 12 0 (.go 13 0 (.go 16 1 (.go 17 2 .nil)))))))))))))))))) [17] pI (by kernel_rfl) (λ _ _ _ h=>False.elim h.2) hI<|have H:=H.kept (Kp.drawn _ w (w.drawn+1));?_
   generalize ({ w with drawn:=w.drawn+1 }:WD)=w at H hI ⊢
   replace hI:∃ W,dI [Blk g 87 [A,B,u,I,j,l,n,o,p],Blk t 37 (aM x20 J K L M)] [] W:=⟨_,hI⟩
   obtain ⟨W0,hI⟩:=hI
   refine om E z λ a E=>ov E z (λ w hW=>(zB E z z)) λ a E=>ov E z (λ w hW=>mM E z z (v:=pt g 0) (Og _ _)) λ a E=>ov E z (λ w hW=>sI E z z (P7 (us:=[A,B]) m0 z U25 z dN w hW)) λ a E=>om E z λ a E=>ov E z (λ w hW=>(zB E z z)) λ a E=>ov E z (λ w hW=>mM E z z (v:=pt g 2) (AX _ _)) λ a E=>ol E m0 U32 z λ a E=>ov E z (λ w hW=>mM E z z (v:=pt t 6) (Ue _ _)) λ a E=>ol E mm1 U9 z λ a E=>Xb z z z ?_ ?_ ?_
   ·refine xc2 E z (cf_ 107) (pG (x1:=(⟨C,D⟩:aR)) H (b _ q) (b _ s) d x)<|?_
    rintro _ w ⟨g7,g8,g9,i0,rfl,H⟩ a E
    refine nt<|⟨sx H [5,6] z,om E z λ a E=>ox E z λ a E=>ox E z λ a E=>oO z z ?_ ?_⟩
    ·refine al2 E H z pJ λ i1 w a H E=>nt<|⟨⟨_,_,H,(aU mm6 (aU (t1 mm6) (bH))),(bO)⟩,cF z<|al2 E H z pJ λ i2 w a H E=>nt<|⟨⟨_,_,H,(aU (t1 mm6) (aU (t2 mm6) (bH))),(bO)⟩,cF z<|?_⟩⟩
     obtain ⟨q156,i3,rfl⟩:=H.rowform (i:=2) z
     obtain ⟨q158,i4,rfl⟩:=H.rowform (i:=3) z
     refine ss 1 E H z dN z λ w H=>nt<|⟨⟨_,_,H,(aU (t1 mm6) (aU (t2 mm6) (bH))),(bO)⟩,cV z<|?_⟩
     obtain ⟨q160,i5,rfl⟩:=H.rowform (i:=4) z
     obtain ⟨q162,i6,rfl⟩:=H.rowform (i:=5) z
     refine ss 0 E H z dN z λ w H=>nt<|fA<|?_
     clear hI
     exact aA<|have H:=H.drs [0,3,3,5];have H:=H.frs [2,2,4,3,4,5] z;X6 ⟨E.to z,H,b,d,m⟩
    ·refine al2 E H z pJ λ i7 w a H E=>nt<|⟨⟨_,_,H,(aU mm6 (aU (t1 mm6) (bH))),(bO)⟩,cF z<|al2 E H z pJ λ i8 w a H E=>nt<|⟨⟨_,_,H,(aU (t1 mm6) (aU (t2 mm6) (bH))),(bO)⟩,cF z<|?_⟩⟩
     obtain ⟨q166,i9,rfl⟩:=H.rowform (i:=2) z
     obtain ⟨q168,j0,rfl⟩:=H.rowform (i:=3) z
     refine ss 0 E H z dN z λ w H=>nt<|⟨⟨_,_,H,(aU (t1 mm6) (aU (t2 mm6) (bH))),(bO)⟩,cV z<|?_⟩
     obtain ⟨q170,j1,rfl⟩:=H.rowform (i:=4) z
     obtain ⟨q172,j2,rfl⟩:=H.rowform (i:=5) z
     refine ss 1 E H z dN z λ w H=>nt<|fA<|?_
     clear hI
     exact aA<|have H:=H.drs [1,3,3,5];have H:=H.frs [2,2,4,3,4,5] z;X6 ⟨E.to z,H,b,d,m⟩
   ·refine al2 E H z pJ λ j3 w a H E=>nt<|⟨sx H [2,3] z,oO z z ?_ ?_⟩
    ·refine xc2 E z (cf_ 107) (pG (x1:=(⟨C,D⟩:aR)) H (b _ q) (b _ s) d x)<|?_
     rintro _ w ⟨j4,j5,j6,j7,rfl,H⟩ a E
     refine nt<|⟨⟨_,_,H,(aU mm6 (aU (t1 mm6) (bH))),(bO)⟩,om E z λ a E=>ox E z λ a E=>ox E z λ a E=>cF z<|al2 E H z pJ λ j8 w a H E=>nt<|⟨⟨_,_,H,(aU (t1 mm6) (aU (t2 mm6) (bH))),(bO)⟩,cF z<|?_⟩⟩
     obtain ⟨q182,j9,rfl⟩:=H.rowform (i:=1) z
     obtain ⟨q184,k0,rfl⟩:=H.rowform (i:=2) z
     refine ss 5 E H z dN z λ w H=>nt<|⟨⟨_,_,H,(aU (t1 mm6) (aU (t2 mm6) (bH))),(bO)⟩,cV z<|?_⟩
     obtain ⟨q186,k1,rfl⟩:=H.rowform (i:=3) z
     obtain ⟨q188,k2,rfl⟩:=H.rowform (i:=4) z
     refine ss 0 E H z dN z λ w H=>nt<|fA<|?_
     clear hI
     exact aA<|have H:=H.drs [0,2,2,5];have H:=H.frs [1,1,4,3,4,5] z;X6 ⟨E.to z,H,b,d,m⟩
    ·refine al2 E H z pJ λ k3 w a H E=>nt<|⟨sx H [3,4] z,cF z<|xc2 E z (cf_ 107) (pG (x1:=(⟨C,D⟩:aR)) H (b _ q) (b _ s) d x)<|?_⟩
     rintro _ w ⟨k4,k5,k6,k7,rfl,H⟩ a E
     refine nt<|⟨⟨_,_,H,(aU (t1 mm6) (aU (t2 mm6) (bH))),(bO)⟩,om E z λ a E=>ox E z λ a E=>ox E z λ a E=>cF z<|?_⟩
     obtain ⟨q197,k8,rfl⟩:=H.rowform (i:=0) z
     obtain ⟨q199,k9,rfl⟩:=H.rowform (i:=1) z
     refine ss 5 E H z dN z λ w H=>nt<|⟨⟨_,_,H,(aU (t1 mm6) (aU (t2 mm6) (bH))),(bO)⟩,cV z<|?_⟩
     obtain ⟨q201,l0,rfl⟩:=H.rowform (i:=2) z
     obtain ⟨q203,l1,rfl⟩:=H.rowform (i:=3) z
     refine ss 4 E H z dN z λ w H=>nt<|fA<|?_
     clear hI
     exact aA<|have H:=H.drs [2,2,2,5];have H:=H.frs [1,1,4,3,4,5] z;X6 ⟨E.to z,H,b,d,m⟩
   ·refine al2 E H z pJ λ l2 w a H E=>nt<|⟨sx H [2,3] z,oO z z ?_ ?_⟩
    ·refine xc2 E z (cf_ 107) (pG (x1:=(⟨C,D⟩:aR)) H (b _ q) (b _ s) d x)<|?_
     rintro _ w ⟨l3,l4,l5,l6,rfl,H⟩ a E
     refine nt<|⟨⟨_,_,H,(aU mm6 (aU (t1 mm6) (bH))),(bO)⟩,om E z λ a E=>ox E z λ a E=>ox E z λ a E=>cF z<|al2 E H z pJ λ l7 w a H E=>nt<|⟨⟨_,_,H,(aU (t1 mm6) (aU (t2 mm6) (bH))),(bO)⟩,cF z<|?_⟩⟩
     obtain ⟨q213,l8,rfl⟩:=H.rowform (i:=1) z
     obtain ⟨q215,l9,rfl⟩:=H.rowform (i:=2) z
     refine ss 0 E H z dN z λ w H=>nt<|⟨⟨_,_,H,(aU (t1 mm6) (aU (t2 mm6) (bH))),(bO)⟩,cV z<|?_⟩
     obtain ⟨q217,m1,rfl⟩:=H.rowform (i:=3) z
     obtain ⟨q219,m2,rfl⟩:=H.rowform (i:=4) z
     refine ss 5 E H z dN z λ w H=>nt<|fA<|?_
     clear hI
     exact aA<|have H:=H.drs [3,3,3,5];have H:=H.frs [2,2,4,3,4,5] z;X6 ⟨E.to z,H,b,d,m⟩
    ·refine al2 E H z pJ λ m3 w a H E=>nt<|⟨sx H [3,4] z,cF z<|xc2 E z (cf_ 107) (pG (x1:=(⟨C,D⟩:aR)) H (b _ q) (b _ s) d x)<|?_⟩
     rintro _ w ⟨m4,m5,m6,m7,rfl,H⟩ a E
     refine nt<|⟨⟨_,_,H,(aU (t1 mm6) (aU (t2 mm6) (bH))),(bO)⟩,om E z λ a E=>ox E z λ a E=>ox E z λ a E=>cF z<|?_⟩
     obtain ⟨q228,m8,rfl⟩:=H.rowform (i:=0) z
     obtain ⟨q230,m9,rfl⟩:=H.rowform (i:=1) z
     refine ss 4 E H z dN z λ w H=>nt<|⟨⟨_,_,H,(aU (t1 mm6) (aU (t2 mm6) (bH))),(bO)⟩,cV z<|?_⟩
     obtain ⟨q232,n0,rfl⟩:=H.rowform (i:=2) z
     obtain ⟨q234,n1,rfl⟩:=H.rowform (i:=3) z
     refine ss 5 E H z dN z λ w H=>nt<|fA<|?_
     clear hI
     exact aA<|have H:=H.drs [2,2,3,5];have H:=H.frs [1,1,4,3,4,5] z;X6 ⟨E.to z,H,b,d,m⟩
  ·clear E H m
   rintro a w ⟨V,T,U,O,Q,G,E,H,e7,e8,m⟩
   unfold tS at m
   refine sp 1 E z λ a E=>lb2 E H 1 U2 z λ a E=>ln 2 [T,U] E H U25 z dN λ a E=>?_
   obtain ⟨q56,b9,rfl⟩:=H.rowform (i:=4) z
   obtain ⟨q58,c0,rfl⟩:=H.rowform (i:=5) z
   refine sv2 E z (cH E z (E.evs z) (v:=.agg #[.int .i64 0,.int .i64 0,.bool false,.int .i64 S.1.Epoch,nS,(.slice q56 O.length b9),(.slice q58 Q.length c0),nS,nS,nS]) (by kernel_rfl)) λ a E=>ss 0 E H z bV z λ w H=>nt<|wR<|oB 0 [.int .i64 0,.int .i64 0,.bool false,.int .i64 S.1.Epoch,nS,(.slice q56 O.length b9),(.slice q58 Q.length c0),nS,nS,nS] E H U48 z bV<|have H:=H.thaw (i:=4) z;have H:=H.thaw (i:=4) z;have H:=H.nilSl aZ;have H:=H.nilSl aS;have H:=H.nilSl bI;have H:=H.nilSl (kI .i64);have H:=H.drs [0,0,0];?_
   cases m
   exact X7 ⟨z,H.rdx [3,5,4,2,1,0] z (aD (t6 e8) (λ r hr=>(t6 (e7 r hr))))⟩

def oF(x1:aQ)(e:List aF)(b:List aF):Option Bool:=
  (mR e x1.Dir).bind λ c=>(mR b x1.Dir).bind λ d=>if (decide (c < 0))=true then (some (true)) else (if (decide (d < 0))=true then (some (true)) else ((idx e c).bind λ f=>(idx b d).bind λ g=>some (!(sEq f.Prefix g.Prefix))))
theorem Du{x1:aQ}{y j e:Nat}{A f l n o p q s t u:VL}{N x:List aF}(H:Sep w (Blk y 28 [pt j 0]::Blk j 87 [l,n,A,o,p,q,s,t,u]::Blk e 32 [f]::Fo) rs)(g:rSl aN A N ∈ rs)(i:rSl aN f x ∈ rs){r:Bool}(m:oF x1 N x=some r) :
    Cf 187 [.agg (uY x1).toArray,pt y 0,pt e 0] w λ v w'=>.bool r=v/\Sep w' (Blk y 28 [pt j 0]::Blk j 87 [l,n,A,o,p,q,s,t,u]::Blk e 32 [f]::Fo) (rs):=by
 unfold oF at m
 refine ent func187 z ntmps187 z z λ a E=>sq<|bx E H z λ O w a H E=>pn 1 E z λ a E=>wS<|dw [(0,0),(1,0),(2,0),(3,0),(4,0),(5,0),(7,0),(8,0),(9,0),(6,1),(10,1),(11,1),(12,2)] [0,1,2,3] [] H (by kernel_rfl) (λ _ _ _ h=>False.elim h.2) λ w W0 hI H=>fb2 E mm1 U28 z λ a E=>fn 2 E z λ a E=>fb2 E mm2 U32 z λ a E=>fn 1 E z λ a E=>fb2 E m0 U9 z λ a E=>fb2 E mm3 U32 z λ a E=>fn 1 E z λ a E=>fb2 E m0 U9 z λ a E=>bQ z<|bd m λ Q B m=>xk2 E z (cf_ 24) (A2 H g B) λ w H a E=>nt<|⟨sx H [0,1,2,3] z,bQ z<|bd m λ R C m=>xk2 E z (cf_ 24) (A2 H i C) λ w H a E=>nt<|⟨sx H [0,1,2,3] z,bQ z<|pn 1 E z λ a E=>⟨sx H [0,1,2,3] z,bL z<|pn 1 E z λ a E=>bB<|?_⟩⟩⟩
 clear hI
 refine aA<|wS<|?_
 obtain ⟨S,H⟩:=H.raw g
 obtain ⟨T,H⟩:=H.raw (t1 i)
 refine dw [(0,0),(1,0),(2,0),(3,0),(4,0),(5,0),(6,0),(7,0),(8,0),(9,0),(10,0),(11,0),(12,0),(13,0),(14,0),(15,0),(16,0),(17,0),(18,0),(19,0),(20,0),(21,0),(22,2)] [1,2,3] [1,0] H (by kernel_rfl) (λ _ _ _ h=>False.elim h.2) λ w W0 hI H=>fn 3 E z λ a E=>cs m (λ c m=>?_) λ c m=>?_
 ·refine fk 19 E (kc 20 z c) z λ a E=>bL z<|pn 1 E z λ a E=>bB<|?_
  clear hI
  refine aA<|wR<|o1 E z<|have H:=H.drop 0;?_
  cases m
  exact ⟨z,H.reads (Y2 Y0)⟩
 ·refine fk 4 E (kc 20 z c) z λ a E=>cs m (λ b m=>?_) λ b m=>?_
  ·refine fk 15 E (kc 24 z b) z λ a E=>bL z<|pn 1 E z λ a E=>bB<|?_
   clear hI
   refine aA<|wR<|o1 E z<|have H:=H.drop 0;?_
   cases m
   exact ⟨z,H.reads (Y2 Y0)⟩
  ·refine fb E z (ws' (d:=24) E z z z z b) z z z z m0 z U28 z λ a E=>fk 2 E (kc 24 z b) z λ a E=>fb E z (ws' (d:=24) E z z z z b) z z z z mm1 z U32 z λ a E=>fk 1 E (kc 24 z b) z λ a E=>bd m λ U D m=>?_
   obtain ⟨q46,V,F,G⟩:=fW (P:=Tryz.prog) (k:=.i64) hI (fV (.head _)) U32 iY D
   refine cU E z (ws' (d:=24) E z z z z b) z z (λ w hW=>iD E z z z (F w)) λ a E=>?_
   have I:=gY G (λ _ _ _ h=>sN h)
   refine fk 1 E (kc 24 z b) z λ a E=>fa E z (ws' (d:=24) E z z z z b) z z z z I U9 z λ a E=>fb E z (ws' (d:=24) E z z z z b) z z z z mm2 z U32 z λ a E=>fk 1 E (kc 24 z b) z λ a E=>bd m λ W J m=>?_
   obtain ⟨q53,X,K,L⟩:=fW (P:=Tryz.prog) (k:=.i64) hI (fV (.tail _ (.head _))) U32 iY J
   refine cU E z (ws' (d:=24) E z z z z b) z z (λ w hW=>iD E z z z (K w)) λ a E=>?_
   have M:=gY L (λ _ _ _ h=>sN h)
   refine fk 1 E (kc 24 z b) z λ a E=>fa E z (ws' (d:=24) E z z z z b) z z z z M U9 z λ a E=>fk 2 E (kc 24 z b) z λ a E=>bL z<|pn 1 E z λ a E=>bB<|?_
   clear hI
   refine aA<|wR<|o1 E z<|have H:=H.drop 0;?_
   cases m
   exact ⟨z,H.reads (Y2 Y0)⟩

def eR(e:List aQ)(c:List aF)(d:List aF):Nat->Int->Option Int
  | 0,_=>none
  | i+1,b=>
    if (decide (b < (e.length:Int)))=true then ((idx e b).bind λ f=>(oF f c d).bind λ g=>if g=true then (some (b)) else (eR e c d i (IntKind.i64.wrap (b+1)))) else (some ((-1)))
def jO(b:List aQ)(c:List aF)(d:List aF):Option Int:=
  eR b c d (((b.length:Int) - 0:Int).toNat+1) 0
theorem E6{B A d g i j k l n o p:VL}{q:List aQ}{s e c:Nat}{t u:List aF}(H:Sep w (Blk s 28 [pt e 0]::Blk e 87 [g,i,A,j,k,l,n,o,p]::Blk c 32 [d]::Fo) rs)(x:rSl aY B q ∈ rs)(C:rSl aN A t ∈ rs)(D:rSl aN d u ∈ rs){r:Int}(m:jO q t u=some r) :
    Cf 154 [B,.func (.func 187) #[] #[pt s 0,pt c 0]] w λ v w'=>.int .i64 r=v/\Sep w' (Blk s 28 [pt e 0]::Blk e 87 [g,i,A,j,k,l,n,o,p]::Blk c 32 [d]::Fo) (rs):=by
 unfold jO at m
 refine ent func154 z ntmps154 z z λ a E=>sq<|pn 1 E z λ a E=>wS<|sp 1 E z λ a E=>lS E H x U58 z λ a E=>pr 1 E z λ a E=>nt<|wB<|bG (λ f a w=>∃ y,Jn 19 a w [(0,B),(1,.func (.func 187) #[] #[pt s 0,pt c 0]),(7,.int .i64 (q.length:Int)),(8,.int .i64 y)] (Blk s 28 [pt e 0]::Blk c 32 [d]::Blk e 87 [g,i,A,j,k,l,n,o,p]::Fo) rs (eR q t u f y=some r)) (((q.length:Int) - 0:Int).toNat+1) ?_ ?_
 ·exact have H:=H.frs [1,2,2] z;⟨_,_,E.to z,H,Y0,m⟩
 ·clear E H m
  rintro f a w ⟨y,I,E,H,b,m⟩
  cases f with
  | zero=>exact (bE m z).elim
  | succ f=>
   unfold eR at m
   refine sq<|pn 1 E z λ a E=>wS<|wif E m z (λ m=>?_) λ m=>?_
   ·refine wK<|aA<|wS<|wB<|sp 2 E z λ a E=>xp 3 E z λ a E=>bd m λ J F m=>dB E H (wn z) z z z z z (b _ x) U58 jZ F λ q42 a H E=>ldf gR E H z z z z z m0 U78 z jZ λ a E=>have H:=H.frs [1,2,2] z;bd m λ K G m=>bK E (wn z) z z (bN E z z z ((cf_ 187) _)) (Du H (t1 (b _ C)) (t1 (b _ D)) G)<|?_
    rintro _ w ⟨rfl,H⟩ a E
    refine nt<|wif E m z (λ m=>?_) λ m=>?_
    ·refine sq<|pn 2 E z λ a E=>wR<|bD<|aG<|aG<|bD<|aG<|o1 E z<|?_
     cases m
     exact ⟨z,H.reads (Y1 b)⟩
    ·exact wK<|bP<|aA<|wG<|pn 2 E z λ a E=>have H:=H.frs [1,2,2] z;⟨f,nL f,_,_,E.to z,H,(Y1 b),m⟩
   ·refine wX<|aT<|aT<|cL<|aA<|sq<|pn 1 E z λ a E=>wR<|o1 E z<|have H:=H.frs [1,2,2] z;?_
    cases m
    exact ⟨z,H.reads b⟩

def iF(e:List aQ)(b:List aF)(c:List aF):Option Bool:=
  (jO e b c).bind λ d=>some (decide (d ≥ 0))
theorem y4{A q b e f g i j k l n:VL}{B:List aQ}{s d c:Nat}{o p:List aF}(H:Sep w (Blk s 28 [pt d 0]::Blk d 87 [e,f,q,g,i,j,k,l,n]::Blk c 32 [b]::Fo) rs)(t:rSl aY A B ∈ rs)(u:rSl aN q o ∈ rs)(x:rSl aN b p ∈ rs){r:Bool}(m:iF B o p=some r) :
    Cf 160 [A,.func (.func 187) #[] #[pt s 0,pt c 0]] w λ v w'=>.bool r=v/\Sep w' (Blk s 28 [pt d 0]::Blk d 87 [e,f,q,g,i,j,k,l,n]::Blk c 32 [b]::Fo) (rs):=by
 unfold iF at m
 refine ent func160 z ntmps160 z z λ a E=>sp 1 E z λ a E=>xp 2 E z λ a E=>bd m λ C y m=>xk2 E z (cf_ 154) (E6 H t u x y) λ w H a E=>pn 2 E z λ a E=>wR<|o1 E z<|?_
 cases m
 exact ⟨z,H.reads Y0⟩

def uD(d:List aF)(e:List aQ)(b:List aF):Option Bool:=
  (iF e d b).bind λ c=>some (c)
theorem Gm{n:Nat}{o p c d e f g i j k:VL}{u l:List aF}{x:List aQ}(H:Sep w (Blk n 87 [d,e,o,p,f,g,i,j,k]::Fo) rs)(q:rSl aN o u ∈ rs)(s:rSl aY p x ∈ rs)(b:rSl aN c l ∈ rs){r:Bool}(m:uD u x l=some r) :
    Cf 110 [pt n 0,c] w λ v w'=>.bool r=v/\Sep w' (Blk n 87 [d,e,o,p,f,g,i,j,k]::Fo) (rs):=by
 unfold uD at m
 refine ent func110 z ntmps110 z z λ a E=>sq<|bx E H z λ y w a H E=>?_
 obtain ⟨q34,A,rfl⟩:=H.slform b
 refine bx E H z λ B w a H E=>pr 1 E z λ a E=>nx<|lb2 E H 1 U28 z λ a E=>pr 2 E z λ a E=>lb2 E H 2 U58 z λ a E=>sv2 E z (nT E z z z) λ a E=>have H:=H.frs [0,2,2] z;bd m λ C t m=>xk2 E z (cf_ 160) (y4 H s q b t) λ w H a E=>pn 1 E z λ a E=>wR<|o1 E z<|have H:=H.drs [0,1];?_
 cases m
 exact ⟨z,H.reads Y0⟩

def sY(x20:aK)(e:iS)(c:eI)(d:dU):Option Qa:=
  (vF x20.Store e x20.Prefix).bind λ b=>(ck (c.length+b.1.length <= LIM)).bind λ f=>(ck (d.length+b.2.1.length <= LIM)).bind λ g=>(ck ((c ++ b.1).length <= 1000000)).bind λ i=>(ck ((d ++ b.2.1).length <= 1000000)).bind λ j=>some ((⟨0,0,false,0,[],(⟨[],[]⟩:aR),[],[],[]⟩:aX),srtN (c ++ b.1),Tn.srtN (d ++ b.2.1),e)
def oY(x20:aK)(c:iS)(d:List aH)(e:List aL)(i:List aF)(f:Bool):Option Qa:=
  if f=true then ((dJ 131).bind λ g=>some (g,d,e,i)) else ((vF (⟨d,e⟩:aR) c x20.Prefix).bind λ b=>sY x20 c b.2.2.1 b.2.2.2)
def lT(x20:aK)(b:iS)(e:List aH)(f:List aL)(d:List aF)(i:List aQ)(j:Bool):Option Qa:=
  if j=true then ((dJ 2).bind λ k=>some (k,e,f,d)) else ((oX i b x20.Prefix).bind λ c=>if c=true then (oY x20 b e f d c) else ((uD d i b).bind λ g=>oY x20 b e f d g))
def lU(x20:aK)(d:List aH)(e:List aL)(f:List aF)(g:List aQ)(c:iS×Bool)(b:iS):Option Qa:=
  if (!c.2)=true then (lT x20 b d e f g (!c.2)) else (lT x20 b d e f g (decide ((b.length:Int) > 32)))
def jD(x20:aK)(d:List aH)(e:List aL)(c:List aF)(g:List aQ)(i:Bool):Option Qa:=
  if i=true then (some ((⟨0,0,false,0,[],(⟨[],[]⟩:aR),[],[],[]⟩:aX),d,e,c)) else ((qL c x20.Prefix x20.Epoch).bind λ b=>if b.2=true then ((yG b.1 x20.Gone).bind λ f=>lU x20 d e c g b f) else (lU x20 d e c g b b.1))
def rZ(d:List aH)(e:List aL)(c:List aF)(f:List aQ)(x20:aK):Option Qa:=
  (kU c x20.Prefix).bind λ b=>if b.2=true then (jD x20 d e c f (decide (b.1.Epoch ≥ x20.Epoch))) else (jD x20 d e c f false)
theorem Dv{t:Nat}{u x A B s f g k l n o p q:VL}{Q:List aH}{R:List aL}{b5:List aF}{b6:List aQ}{x20:aK}(H:Sep w (Blk t 87 [u,x,A,B,l,n,o,p,q]::Fo) rs)(F:rSl aB u Q ∈ rs)(G:rSl aC x R ∈ rs)(P:rSl aN A b5 ∈ rs)(b7:rSl aY B b6 ∈ rs)(f9:rSl aB f x20.Store.Nodes ∈ rs)(g0:rSl aC g x20.Store.Turns ∈ rs)(g1:rSl kS k x20.Gone ∈ rs){r:aX×eI×dU×iS}(m:rZ Q R b5 b6 x20=some r) :
    Cf 47 [pt t 0,.agg (aM x20 s f g k).toArray] w λ v w'=>∃ k9 l0 l1 l2 l3 l4 l5 e6 e7,.agg (aW r.1 k9 l0 l1 l2 l3 l4).toArray=v/\Sep w' (Blk t 87 [l5,e6,e7,B,l,n,o,p,q]::Fo) (rSl aZ k9 r.1.Results::rSl aB l0 r.1.Store.Nodes::rSl aC l1 r.1.Store.Turns::rSl aS l2 r.1.Events::rSl bI l3 r.1.Mounts::rSl (kI .i64) l4 r.1.Wounded::rSl aB l5 r.2.1::rSl aC e6 r.2.2.1::rSl aN e7 r.2.2.2::rs):=by
 unfold rZ at m
 refine ent func47 z ntmps47 z z λ a E=>sq<|bx E H z λ e w a H E=>al2 E H z lQ λ j w a H E=>nt<|wS<|sp 2 E z λ a E=>lb2 E H 1 U9 z λ a E=>have H:=H.frs [1,1,2] z;bd m λ l6 g2 m=>xk2 E z (cf_ 104) (H9 H P g2) λ w H a E=>pr 3 E z λ a E=>al2 E H z Mf λ o2 w a H E=>ss 0 E H z iY z λ w H=>pn 1 E z λ a E=>aJ (λ a w=>∃ b8,Jn 110 a w [(0,pt t 0),(3,pt e 0),(4,pt j 0),(27,.bool b8)] (Blk t 87 [u,x,A,B,l,n,o,p,q]::Blk e 37 (aM x20 s f g k)::Blk j 48 bJ::Fo) rs (jD x20 Q R b5 b6 b8=some r)) ?_ ?_
 ·refine wG<|pr 2 E z λ a E=>cs m (λ C m=>?_) λ C m=>?_
  ·exact pk 1 E (kc 21 z C) z λ a E=>gl 21 E H 0 C U2 z λ a E=>pk 1 E (kc 21 z C) z λ a E=>gl 21 E H 3 C U2 z λ a E=>pk 2 E (kc 21 z C) z λ a E=>nt<|have H:=H.drop 0;have H:=H.frs [1,2,2] z;⟨decide (l6.1.Epoch ≥ x20.Epoch),_,E.sel [0,3,4,27] z,H,λ r hr=>hr,m⟩
  ·exact pk 6 E (kc 21 z C) z λ a E=>nt<|have H:=H.drop 0;have H:=H.frs [1,2,2] z;⟨false,_,E.sel [0,3,4,27] z,H,λ r hr=>hr,m⟩
 ·clear E H m
  rintro a w ⟨b8,m2,E,H,I,m⟩
  unfold jD at m
  refine wif E m z (λ m=>?_) λ m=>?_
  ·refine sq<|sv2 E z (cH E z (E.evs z) (v:=.agg bJ.toArray) (by kernel_rfl)) λ a E=>ss 2 E H z bV z λ w H=>?_
   replace H:Sep w (Blk t 87 [u,x,A,B,l,n,o,p,q]::Blk e 37 (aM x20 s f g k)::Blk j 48 bJ::Fo) _:=H
   refine nt<|wR<|aG<|Ei E z (qH (i:=2) (us:=bJ) H z z z U48 z bV)<|have H:=H.nilSl aZ;have H:=H.nilSl aB;have H:=H.nilSl aC;have H:=H.nilSl aS;have H:=H.nilSl bI;have H:=H.nilSl (kI .i64);have H:=H.drs [1,1];?_
   cases m
   exact ⟨(nS),(nS),(nS),(nS),(nS),(nS),u,x,A,z,H.rdx [5,4,3,2,1,0] z (aD (t6 (I _ F)) (aD (t6 (I _ G)) (aD (t6 (I _ P)) (λ r hr=>(t6 (I r hr))))))⟩
  ·refine wK<|aA<|wS<|dz [0,0,0,0,0,0,0,0,1,0,0,0,1,2] [0,1] H λ w W0 hI H=>fn 3 E z λ a E=>fb2 E m0 U32 z λ a E=>fn 1 E z λ a E=>fb2 E mm1 U9 z λ a E=>fn 1 E z λ a E=>fb2 E mm1 U2 z λ a E=>bQ z<|bd m λ b2 g3 m=>xc2 E z (cf_ 108) (Ow H (I _ P) g3)<|?_
   rintro _ w ⟨l7,rfl,H⟩ a E
   refine nt<|⟨sx H [1,2] z,fn 3 E z λ a E=>bQ z<|pn 1 E z λ a E=>⟨sx H [1,2] z,bL z<|pn 1 E z λ a E=>bB<|?_⟩⟩
   clear hI
   refine aA<|aJ (λ a w=>∃ L J,Jn 110 a w [(0,pt t 0),(3,pt e 0),(4,pt j 0),(7,L),(8,.bool b2.2)] (Blk t 87 [u,x,A,B,l,n,o,p,q]::Blk e 37 (aM x20 s f g k)::Blk j 48 bJ::Row 31 aN L J::Fo) rs (lU x20 Q R b5 b6 b2 J=some r)) ?_ ?_
   ·refine sq<|pn 1 E z λ a E=>wif E m z (λ m=>?_) λ m=>?_
    ·refine wG<|pr 2 E z λ a E=>lb2 E H 2 U33 z λ a E=>bd m λ g4 d9 m=>xc2 E z (cf_ 109) (Up H (I _ g1) d9)<|?_
     rintro _ w ⟨g5,rfl,H⟩ a E
     exact pn 1 E z λ a E=>have H:=H.frs [0,3,3,3] z;⟨g5,g4,_,E.sel [0,3,4,7,8] z,H,I,m⟩
    ·exact wK<|aA<|have H:=H.frs [0,3,3,3] z;⟨l7,b2.1,_,E.sel [0,3,4,7,8] z,H,I,m⟩
   ·clear E H m
    rintro a w ⟨L,J,m3,E,H,b9,m⟩
    unfold lU at m
    refine wS<|wB<|aJ (λ a w=>∃ c0,Jn 110 a w [(0,pt t 0),(3,pt e 0),(4,pt j 0),(7,L),(46,.bool c0)] (Blk t 87 [u,x,A,B,l,n,o,p,q]::Blk e 37 (aM x20 s f g k)::Blk j 48 bJ::Row 31 aN L J::Fo) rs (lT x20 J Q R b5 b6 c0=some r)) ?_ ?_
    ·refine sq<|pn 3 E z λ a E=>wif E m z (λ m=>?_) λ m=>?_
     ·exact wK<|aA<|⟨!b2.2,_,E.sel [0,3,4,7,46] z,H,b9,m⟩
     ·exact wG<|pr 1 E z λ a E=>sv2 E z (mV (i:=3) E H z z z U32) λ a E=>pn 2 E z λ a E=>⟨decide ((J.length:Int) > 32),_,E.sel [0,3,4,7,46] z,H,b9,m⟩
    ·clear E H m
     rintro a w ⟨c0,m4,E,H,D,m⟩
     unfold lT at m
     refine wif E m z (λ m=>?_) λ m=>?_
     ·refine sq<|bd m λ l8 g6 m=>xc2 E z (cf_ 53) (fB H g6)<|?_
      rintro _ w ⟨e8,e9,f0,f1,f2,f3,rfl,H⟩ a E
      refine ss 2 E H z bV (bA H m0 mm1 mm2 mm3 mm4 mm5) λ w H=>nt<|wR<|bD<|aG<|oB 2 (aW l8 e8 e9 f0 f1 f2 f3) E H U48 z bV<|have H:=H.drs [1,1,1];?_
      cases m
      exact ⟨e8,e9,f0,f1,f2,f3,u,x,A,z,H.rdx [0,1,2,3,4,5] z (aD (t6 (D _ F)) (aD (t6 (D _ G)) (aD (t6 (D _ P)) (λ r hr=>(t6 (D r hr))))))⟩
     ·refine aJ (λ a w=>∃ c1 K,Env 110 a [(0,pt t 0),(3,pt e 0),(4,pt j 0),(7,L),(53,.bool c1)]/\Sep w (Blk t 87 [u,x,A,B,l,n,o,p,q]::Blk e 37 (aM x20 s f g k)::Blk j 48 bJ::Fo) K/\(∀ r,r ∈ rs->r ∈ K)/\rSl aN L J ∈ K/\oY x20 J Q R b5 c1=some r) ?_ ?_
      ·refine sp 3 E z λ a E=>lb2 E H 1 U9 z λ a E=>have H:=H.thaw (i:=3) z;bd m λ g7 e0 m=>xk2 E z (cf_ 106) (Z2 H (t1 (D _ b7)) m0 e0) λ w H a E=>pn 1 E z λ a E=>wif E m z (λ m=>?_) λ m=>?_
       ·exact wK<|aA<|⟨g7,_,E.sel [0,3,4,7,53] z,H,λ r hr=>(t1 (D r hr)),m0,m⟩
       ·exact wG<|pr 2 E z λ a E=>bd m λ g8 e1 m=>xk2 E z (cf_ 110) (Gm H (t1 (D _ P)) (t1 (D _ b7)) m0 e1) λ w H a E=>pn 1 E z λ a E=>⟨g8,_,E.sel [0,3,4,7,53] z,H,λ r hr=>(t1 (D r hr)),m0,m⟩
      ·clear E H m
       rintro a w ⟨c1,K,E,H,d,y,m⟩
       unfold oY at m
       refine wif E m z (λ m=>?_) λ m=>?_
       ·refine sq<|bd m λ f4 g9 m=>xc2 E z (cf_ 53) (fB H g9)<|?_
        rintro _ w ⟨c2,c3,c4,c5,c6,c7,rfl,H⟩ a E
        refine ss 2 E H z bV (bA H m0 mm1 mm2 mm3 mm4 mm5) λ w H=>?_
        replace H:Sep w (Blk t 87 [u,x,A,B,l,n,o,p,q]::Blk e 37 (aM x20 s f g k)::Blk j 48 (aW f4 c2 c3 c4 c5 c6 c7)::Fo) _:=H
        refine nt<|wR<|bD<|aG<|oB 2 (aW f4 c2 c3 c4 c5 c6 c7) E H U48 z bV<|have H:=H.drs [1,1];?_
        cases m
        exact ⟨c2,c3,c4,c5,c6,c7,u,x,A,z,H.rdx [0,1,2,3,4,5] z (aD (t6 (d _ F)) (aD (t6 (d _ G)) (aD (t6 (d _ P)) (λ r hr=>(t6 (d r hr))))))⟩
       ·refine wK<|bP<|aA<|aJ (λ a w=>∃ X Y Z M N S,Env 110 a [(0,pt t 0),(3,pt e 0),(4,pt j 0),(7,L),(10,pt X 0)]/\Sep w (Blk t 87 [u,x,A,B,l,n,o,p,q]::Blk e 37 (aM x20 s f g k)::Blk j 48 bJ::Blk X 25 [Y,Z]::Row 107 aB Y M::Row 89 aC Z N::Fo) S/\(∀ r,r ∈ rs->r ∈ S)/\rSl aN L J ∈ S/\sY x20 J M N=some r) ?_ ?_
        ·refine bd m λ b O m=>?_
         have hI:dI [Blk t 87 [u,x,A,B,l,n,o,p,q],Blk e 37 (aM x20 s f g k)] [] { w with drawn:=w.drawn+1 }:=⟨_,_,H.kept (Kp.drawn _ w _),(aU m0 (aU mm1 (bH))),(bO)⟩
         refine oN _ (.go 0 0 (.go 1 0 (.go 2 0 (.go 3 0 (.go 4 0 (.go 5 0 (.go 6 0 (.alt3 7 (.go 8 0 (.go 9 0 (.go 10 0 (.alt 11 (.go 12 1 (.go 13 1 (.go 14 2 .nil))) 12 (.go 11 1 (.go 13 1 (.go 14 2 .nil))))))) 11 (.alt 7 (.go 8 0 (.go 9 0 (.go 10 0 (.go 12 1 (.go 13 1 (.go 14 2 .nil)))))) 12 (.go 7 1 (.go 8 0 (.go 9 0 (.go 10 0 (.go 13 1 (.go 14 2 .nil))))))) 12 (.alt 7 (.go 8 0 (.go 9 0 (.go 10 0 (.go 11 1 (.go 13 1 (.go 14 2 .nil)))))) 11 (.go 7 1 (.go 8 0 (.go 9 0 (.go 10 0 (.go 13 1 (.go 14 2 .nil))))))))))))))) [14] pI (by kernel_rfl) (λ _ _ _ h=>False.elim h.2) hI<|have H:=H.kept (Kp.drawn _ w (w.drawn+1));?_
         generalize ({ w with drawn:=w.drawn+1 }:WD)=w at H hI ⊢
         replace hI:∃ W,dI [Blk t 87 [u,x,A,B,l,n,o,p,q],Blk e 37 (aM x20 s f g k)] [] W:=⟨_,hI⟩
         obtain ⟨W0,hI⟩:=hI
         refine om E z λ a E=>ov E z (λ w hW=>(zB E z z)) λ a E=>ov E z (λ w hW=>mM E z z (v:=pt t 0) (Og _ _)) λ a E=>ov E z (λ w hW=>sI E z z (P7 (us:=[u,x]) m0 z U25 z dN w hW)) λ a E=>om E z λ a E=>ov E z (λ w hW=>mM E z z (v:=pt e 6) (Ue _ _)) λ a E=>ol E mm1 U9 z λ a E=>Xb z z z ?_ ?_ ?_
         ·refine xc2 E z (cf_ 107) (pG (x1:=(⟨Q,R⟩:aR)) H (d _ F) (d _ G) y O)<|?_
          rintro _ w ⟨m5,m6,c8,c9,rfl,H⟩ a E
          refine nt<|⟨sx H [4,5] z,om E z λ a E=>ox E z λ a E=>ox E z λ a E=>oO z z ?_ ?_⟩
          ·refine al2 E H z pJ λ i0 w a H E=>nt<|⟨sx H [5,6] z,cF z<|al2 E H z pJ λ d0 w a H E=>nt<|⟨⟨_,_,H,(aU mm6 (aU (t1 mm6) (bH))),(bO)⟩,cF z<|?_⟩⟩
           obtain ⟨q212,d1,rfl⟩:=H.rowform (i:=2) z
           obtain ⟨q214,d2,rfl⟩:=H.rowform (i:=3) z
           refine ss 1 E H z dN z λ w H=>?_
           replace H:Sep w (Blk d0 25 [nS,nS]::Blk i0 25 [(.slice q212 b.1.length d1),(.slice q214 b.2.1.length d2)]::Row 107 aB (.slice q212 b.1.length d1) b.1::Row 89 aC (.slice q214 b.2.1.length d2) b.2.1::Row 107 aB c8 b.2.2.1::Row 89 aC c9 b.2.2.2::Blk t 87 [u,x,A,B,l,n,o,p,q]::Blk e 37 (aM x20 s f g k)::Blk j 48 bJ::Fo) _:=H
           refine nt<|⟨⟨_,_,H,(aU mm6 (aU (t1 mm6) (bH))),(bO)⟩,cV z<|?_⟩
           obtain ⟨q216,i1,rfl⟩:=H.rowform (i:=4) z
           obtain ⟨q218,i2,rfl⟩:=H.rowform (i:=5) z
           refine ss 0 E H z dN z λ w H=>nt<|fA<|?_
           clear hI
           exact aA<|have H:=H.drs [1,1,1];have H:=H.frs [2,2,2,5,5,5] z;⟨d0,(.slice q216 b.2.2.1.length i1),(.slice q218 b.2.2.2.length i2),b.2.2.1,b.2.2.2,_,E.sel [0,3,4,7,10] z,H,d,y,m⟩
          ·refine al2 E H z pJ λ d3 w a H E=>nt<|⟨sx H [5,6] z,cF z<|al2 E H z pJ λ i3 w a H E=>nt<|⟨⟨_,_,H,(aU mm6 (aU (t1 mm6) (bH))),(bO)⟩,cF z<|?_⟩⟩
           obtain ⟨q222,d4,rfl⟩:=H.rowform (i:=2) z
           obtain ⟨q224,d5,rfl⟩:=H.rowform (i:=3) z
           refine ss 0 E H z dN z λ w H=>?_
           replace H:Sep w (Blk i3 25 [(.slice q222 b.1.length d4),(.slice q224 b.2.1.length d5)]::Blk d3 25 [nS,nS]::Row 107 aB (.slice q222 b.1.length d4) b.1::Row 89 aC (.slice q224 b.2.1.length d5) b.2.1::Row 107 aB c8 b.2.2.1::Row 89 aC c9 b.2.2.2::Blk t 87 [u,x,A,B,l,n,o,p,q]::Blk e 37 (aM x20 s f g k)::Blk j 48 bJ::Fo) _:=H
           refine nt<|⟨⟨_,_,H,(aU mm6 (aU (t1 mm6) (bH))),(bO)⟩,cV z<|?_⟩
           obtain ⟨q226,i4,rfl⟩:=H.rowform (i:=4) z
           obtain ⟨q228,i5,rfl⟩:=H.rowform (i:=5) z
           refine ss 1 E H z dN z λ w H=>nt<|fA<|?_
           clear hI
           exact aA<|have H:=H.drs [0,1,1];have H:=H.frs [2,2,2,5,5,5] z;⟨d3,(.slice q226 b.2.2.1.length i4),(.slice q228 b.2.2.2.length i5),b.2.2.1,b.2.2.2,_,E.sel [0,3,4,7,10] z,H,d,y,m⟩
         ·refine al2 E H z pJ λ d6 w a H E=>nt<|⟨sx H [1,2] z,oO z z ?_ ?_⟩
          ·refine xc2 E z (cf_ 107) (pG (x1:=(⟨Q,R⟩:aR)) H (d _ F) (d _ G) y O)<|?_
           rintro _ w ⟨i6,i7,i8,i9,rfl,H⟩ a E
           refine nt<|⟨sx H [5,6] z,om E z λ a E=>ox E z λ a E=>ox E z λ a E=>cF z<|al2 E H z pJ λ d7 w a H E=>nt<|?_⟩
           replace H:Sep w (Blk d7 25 [nS,nS]::Row 107 aB i6 b.1::Row 89 aC i7 b.2.1::Row 107 aB i8 b.2.2.1::Row 89 aC i9 b.2.2.2::Blk d6 25 [nS,nS]::Blk t 87 [u,x,A,B,l,n,o,p,q]::Blk e 37 (aM x20 s f g k)::Blk j 48 bJ::Fo) (K):=H
           refine ⟨⟨_,_,H,(aU mm6 (aU (t1 mm6) (bH))),(bO)⟩,cF z<|?_⟩
           obtain ⟨q238,m7,rfl⟩:=H.rowform (i:=1) z
           obtain ⟨q240,m8,rfl⟩:=H.rowform (i:=2) z
           refine ss 5 E H z dN z λ w H=>nt<|⟨⟨_,_,H,(aU mm6 (aU (t1 mm6) (bH))),(bO)⟩,cV z<|?_⟩
           obtain ⟨q242,j0,rfl⟩:=H.rowform (i:=3) z
           obtain ⟨q244,j1,rfl⟩:=H.rowform (i:=4) z
           refine ss 0 E H z dN z λ w H=>nt<|fA<|?_
           clear hI
           exact aA<|have H:=H.drs [1,1,3];have H:=H.frs [2,2,2,5,5,5] z;⟨d7,(.slice q242 b.2.2.1.length j0),(.slice q244 b.2.2.2.length j1),b.2.2.1,b.2.2.2,_,E.sel [0,3,4,7,10] z,H,d,y,m⟩
          ·refine al2 E H z pJ λ d8 w a H E=>nt<|⟨sx H [2,3] z,cF z<|xc2 E z (cf_ 107) (pG (x1:=(⟨Q,R⟩:aR)) H (d _ F) (d _ G) y O)<|?_⟩
           rintro _ w ⟨j2,j3,j4,j5,rfl,H⟩ a E
           refine nt<|?_
           replace H:Sep w (Row 107 aB j2 b.1::Row 89 aC j3 b.2.1::Row 107 aB j4 b.2.2.1::Row 89 aC j5 b.2.2.2::Blk d8 25 [nS,nS]::Blk d6 25 [nS,nS]::Blk t 87 [u,x,A,B,l,n,o,p,q]::Blk e 37 (aM x20 s f g k)::Blk j 48 bJ::Fo) (K):=H
           refine ⟨⟨_,_,H,(aU mm6 (aU (t1 mm6) (bH))),(bO)⟩,om E z λ a E=>ox E z λ a E=>ox E z λ a E=>cF z<|?_⟩
           obtain ⟨q253,m9,rfl⟩:=H.rowform (i:=0) z
           obtain ⟨q255,n0,rfl⟩:=H.rowform (i:=1) z
           refine ss 5 E H z dN z λ w H=>nt<|⟨⟨_,_,H,(aU mm6 (aU (t1 mm6) (bH))),(bO)⟩,cV z<|?_⟩
           obtain ⟨q257,j6,rfl⟩:=H.rowform (i:=2) z
           obtain ⟨q259,j7,rfl⟩:=H.rowform (i:=3) z
           refine ss 4 E H z dN z λ w H=>nt<|fA<|?_
           clear hI
           exact aA<|have H:=H.drs [0,0,3];have H:=H.frs [1,1,2,5,5,5] z;⟨d8,(.slice q257 b.2.2.1.length j6),(.slice q259 b.2.2.2.length j7),b.2.2.1,b.2.2.2,_,E.sel [0,3,4,7,10] z,H,d,y,m⟩
         ·refine al2 E H z pJ λ T w a H E=>nt<|⟨sx H [1,2] z,oO z z ?_ ?_⟩
          ·refine xc2 E z (cf_ 107) (pG (x1:=(⟨Q,R⟩:aR)) H (d _ F) (d _ G) y O)<|?_
           rintro _ w ⟨j8,j9,k0,k1,rfl,H⟩ a E
           refine nt<|?_
           replace H:Sep w (Row 107 aB j8 b.1::Row 89 aC j9 b.2.1::Row 107 aB k0 b.2.2.1::Row 89 aC k1 b.2.2.2::Blk T 25 [nS,nS]::Blk t 87 [u,x,A,B,l,n,o,p,q]::Blk e 37 (aM x20 s f g k)::Blk j 48 bJ::Fo) (K):=H
           refine ⟨sx H [5,6] z,om E z λ a E=>ox E z λ a E=>ox E z λ a E=>cF z<|al2 E H z pJ λ n1 w a H E=>nt<|⟨⟨_,_,H,(aU mm6 (aU (t1 mm6) (bH))),(bO)⟩,cF z<|?_⟩⟩
           obtain ⟨q269,n2,rfl⟩:=H.rowform (i:=1) z
           obtain ⟨q271,n3,rfl⟩:=H.rowform (i:=2) z
           refine ss 0 E H z dN z λ w H=>nt<|⟨⟨_,_,H,(aU mm6 (aU (t1 mm6) (bH))),(bO)⟩,cV z<|?_⟩
           obtain ⟨q273,k2,rfl⟩:=H.rowform (i:=3) z
           obtain ⟨q275,k3,rfl⟩:=H.rowform (i:=4) z
           refine ss 5 E H z dN z λ w H=>nt<|fA<|?_
           clear hI
           exact aA<|have H:=H.drs [0,0,0];have H:=H.frs [1,1,2,5,5,5] z;⟨T,(.slice q273 b.2.2.1.length k2),(.slice q275 b.2.2.2.length k3),b.2.2.1,b.2.2.2,_,E.sel [0,3,4,7,10] z,H,d,y,m⟩
          ·refine al2 E H z pJ λ k4 w a H E=>nt<|?_
           replace H:Sep w (Blk k4 25 [nS,nS]::Blk T 25 [nS,nS]::Blk t 87 [u,x,A,B,l,n,o,p,q]::Blk e 37 (aM x20 s f g k)::Blk j 48 bJ::Fo) (K):=H
           refine ⟨sx H [2,3] z,cF z<|xc2 E z (cf_ 107) (pG (x1:=(⟨Q,R⟩:aR)) H (d _ F) (d _ G) y O)<|?_⟩
           rintro _ w ⟨n4,n5,n6,n7,rfl,H⟩ a E
           refine nt<|⟨⟨_,_,H,(aU mm6 (aU (t1 mm6) (bH))),(bO)⟩,om E z λ a E=>ox E z λ a E=>ox E z λ a E=>cF z<|?_⟩
           obtain ⟨q284,n8,rfl⟩:=H.rowform (i:=0) z
           obtain ⟨q286,n9,rfl⟩:=H.rowform (i:=1) z
           refine ss 4 E H z dN z λ w H=>nt<|⟨⟨_,_,H,(aU mm6 (aU (t1 mm6) (bH))),(bO)⟩,cV z<|?_⟩
           obtain ⟨q288,k5,rfl⟩:=H.rowform (i:=2) z
           obtain ⟨q290,k6,rfl⟩:=H.rowform (i:=3) z
           refine ss 5 E H z dN z λ w H=>nt<|fA<|?_
           clear hI
           exact aA<|have H:=H.drs [0,0,2];have H:=H.frs [1,1,2,5,5,5] z;⟨T,(.slice q288 b.2.2.1.length k5),(.slice q290 b.2.2.2.length k6),b.2.2.1,b.2.2.2,_,E.sel [0,3,4,7,10] z,H,d,y,m⟩
        ·clear E H m
         rintro a w ⟨X,Y,Z,M,N,S,E,H,b0,b1,m⟩
         unfold sY at m
         refine sp 1 E z λ a E=>ln 1 [f,g] E H U25 z dN λ a E=>pr 2 E z λ a E=>lb2 E H 1 U9 z λ a E=>bd m λ c k7 m=>xc2 E z (cf_ 107) (pG H (b0 _ f9) (b0 _ g0) b1 k7)<|?_
         rintro _ w ⟨o3,o4,l9,m1,rfl,H⟩ a E
         refine pr 3 E z λ a E=>al2 E H z pJ λ f5 w a H E=>al2 E H z pJ λ f6 w a H E=>?_
         obtain ⟨q92,b3,rfl⟩:=H.rowform (i:=2) z
         obtain ⟨q94,b4,rfl⟩:=H.rowform (i:=3) z
         refine ss 1 E H z dN z λ w H=>?_
         replace H:Sep w (Blk f6 25 [nS,nS]::Blk f5 25 [(.slice q92 c.1.length b3),(.slice q94 c.2.1.length b4)]::Row 107 aB (.slice q92 c.1.length b3) c.1::Row 89 aC (.slice q94 c.2.1.length b4) c.2.1::Row 107 aB l9 c.2.2.1::Row 89 aC m1 c.2.2.2::Blk t 87 [u,x,A,B,l,n,o,p,q]::Blk e 37 (aM x20 s f g k)::Blk j 48 bJ::Blk X 25 [Y,Z]::Row 107 aB Y M::Row 89 aC Z N::Fo) _:=H
         obtain ⟨q96,f7,rfl⟩:=H.rowform (i:=4) z
         obtain ⟨q98,f8,rfl⟩:=H.rowform (i:=5) z
         refine ss 0 E H z dN z λ w H=>xp 1 E z λ a E=>lb2 E H 9 U22 z λ a E=>pr 1 E z λ a E=>lb2 E H 1 U22 z λ a E=>bk m λ e2 m=>fE (i:=10) E H (wn z) z z z z z z (Ja (i:=2) z) U22 Oh z e2 z λ o0 w a H E=>pr 1 E z λ a E=>?_
         obtain ⟨q103,U,rfl⟩:=H.rowform (i:=10) z
         refine ss 9 E H z Pz z λ w H=>xp 1 E z λ a E=>lb2 E H 9 U23 z λ a E=>pr 1 E z λ a E=>lb2 E H 1 U23 z λ a E=>bk m λ e3 m=>fE (i:=11) E H (wn z) z z z z z z (Ja (i:=3) z) U23 Sn z e3 z λ o1 w a H E=>pr 1 E z λ a E=>?_
         obtain ⟨q108,V,rfl⟩:=H.rowform (i:=11) z
         refine ss 9 E H z En z λ w H=>xp 1 E z λ a E=>lb2 E H 9 U22 z λ a E=>bk m λ e4 m=>xc2 E z (cf_ 111) (sort_c (ix:=10) H z e4)<|?_
         rintro _ w ⟨rfl,H⟩ a E
         refine xp 1 E z λ a E=>lb2 E H 9 U23 z λ a E=>bk m λ e5 m=>xc2 E z (cf_ 114) (Tn.sort_c (ix:=11) H z e5)<|?_
         rintro _ w ⟨rfl,H⟩ a E
         replace H:Sep w (Blk f6 25 [(.slice q96 c.2.2.1.length f7),(.slice q98 c.2.2.2.length f8)]::Blk f5 25 [(.slice q92 c.1.length b3),(.slice q94 c.2.1.length b4)]::Row 107 aB (.slice q92 c.1.length b3) c.1::Row 89 aC (.slice q94 c.2.1.length b4) c.2.1::Row 107 aB (.slice q96 c.2.2.1.length f7) c.2.2.1::Row 89 aC (.slice q98 c.2.2.2.length f8) c.2.2.2::Blk t 87 [u,x,A,B,l,n,o,p,q]::Blk e 37 (aM x20 s f g k)::Blk j 48 bJ::Blk X 25 [(.slice q103 (M ++ c.1).length U),(.slice q108 (N ++ c.2.1).length V)]::Row 107 aB (.slice q103 (M ++ c.1).length U) (srtN (M ++ c.1))::Row 89 aC (.slice q108 (N ++ c.2.1).length V) (Tn.srtN (N ++ c.2.1))::Fo) (S):=H
         refine xp 2 E z λ a E=>ln 9 [(.slice q103 (M ++ c.1).length U),(.slice q108 (N ++ c.2.1).length V)] E H U25 z dN λ a E=>pr 3 E z λ a E=>ss 6 E H z dN z λ w H=>pr 2 E z λ a E=>?_
         obtain ⟨q114,k8,rfl⟩:=H.slform b1
         refine ss 6 E H z DT z λ w H=>nx<|sv2 E z (cH E z (E.evs z) (v:=.agg bJ.toArray) (by kernel_rfl)) λ a E=>ss 8 E H z bV z λ w H=>nt<|wR<|Ei E z (qH (i:=8) (us:=bJ) H z z z U48 z bV)<|have H:=H.nilSl aZ;have H:=H.nilSl aB;have H:=H.nilSl aC;have H:=H.nilSl aS;have H:=H.nilSl bI;have H:=H.nilSl (kI .i64);have H:=H.thaw (i:=10) z;have H:=H.thaw (i:=10) z;have H:=H.drs [0,0,0,0,0,0,1,1,1];?_
         cases m
         exact ⟨(nS),(nS),(nS),(nS),(nS),(nS),(.slice q103 (M ++ c.1).length U),(.slice q108 (N ++ c.2.1).length V),(.slice q114 J.length k8),z,H.reads (aD (t1 mm6) (aD mm6 (aD mm5 (aD mm4 (aD mm3 (aD mm2 (aD mm1 (aD m0 (aD (t8 b1) (λ r hr=>(t8 (b0 r hr))))))))))))⟩

def lV(c:List aO)(d:List aE)(x20:aV)(e:List bU)(b:Int):Option Jl:=
  if (b != 0)=true then ((dJ b).bind λ f=>some (f,c,d)) else (some ((⟨0,0,false,0,[],(⟨[],[]⟩:aR),e,[],[]⟩:aX),x20.Watches,x20.Sessions))
theorem s9{C:Nat}{i j c d k l n o p q s t:VL}{u:List aO}{x:List aE}{x20:aV}{b:List bU}{y:Int}(H:Sep w (Blk C 87 [l,n,o,p,i,j,q,s,t]::Fo) rs)(D:rSl aP i u ∈ rs)(F:rSl aI j x ∈ rs)(e:rSl aP c x20.Watches ∈ rs)(f:rSl aI d x20.Sessions ∈ rs)(g:rSl aS k b ∈ rs){r:aX×fQ×eD}(m:lV u x x20 b y=some r) :
    Cf 118 [pt C 0,.agg #[c,d],k,.int .i64 y] w λ v w'=>∃ I J K L M N O A,.agg (aW r.1 I J K L M N).toArray=v/\Sep w' (Blk C 87 [l,n,o,p,O,A,q,s,t]::Fo) (rSl aZ I r.1.Results::rSl aB J r.1.Store.Nodes::rSl aC K r.1.Store.Turns::rSl aS L r.1.Events::rSl bI M r.1.Mounts::rSl (kI .i64) N r.1.Wounded::rSl aP O r.2.1::rSl aI A r.2.2::rs):=by
 unfold lV at m
 refine ent func118 z ntmps118 z z λ a E=>sq<|bx E H z λ W w a H E=>al2 E H z lQ λ X w a H E=>nt<|wS<|sq<|pn 2 E z λ a E=>wif E m z (λ m=>?_) λ m=>?_
 ·refine sp 1 E z λ a E=>bd m λ P G m=>xc2 E z (cf_ 53) (fB H G)<|?_
  rintro _ w ⟨Q,R,S,T,U,V,rfl,H⟩ a E
  refine ss 0 E H z bV (bA H m0 mm1 mm2 mm3 mm4 mm5) λ w H=>nt<|wR<|aG<|oB 0 (aW P Q R S T U V) E H U48 z bV<|have H:=H.drs [0,0];?_
  cases m
  exact X8 ⟨z,H.rdx [0,1,2,3,4,5] z (aD (t6 D) (aD (t6 F) (λ r hr=>(t6 hr))))⟩
 ·refine wK<|aA<|sp 1 E z λ a E=>ln 1 [c,d] E H U73 z gG λ a E=>pr 2 E z λ a E=>ss 2 E H z gG (kJ H e f) λ w H=>xp 1 E z λ a E=>?_
  obtain ⟨q48,B,rfl⟩:=H.slform g
  refine sv2 E z (cH E z (E.evs z) (v:=.agg #[.int .i64 0,.int .i64 0,.bool false,.int .i64 0,nS,nS,nS,(.slice q48 b.length B),nS,nS]) (by kernel_rfl)) λ a E=>ss 0 E H z bV z λ w H=>nt<|wR<|oB 0 [.int .i64 0,.int .i64 0,.bool false,.int .i64 0,nS,nS,nS,(.slice q48 b.length B),nS,nS] E H U48 z bV<|have H:=H.nilSl aZ;have H:=H.nilSl aB;have H:=H.nilSl aC;have H:=H.nilSl bI;have H:=H.nilSl (kI .i64);have H:=H.drs [0,0];?_
  cases m
  exact X8 ⟨z,H.rdx [4,3,2] z (aD (t5 g) (aD mm1 (aD m0 (aD (t5 e) (aD (t5 f) (λ r hr=>(t5 hr)))))))⟩

def cD(c:List aE)(x3:Int):Nat->Int->Int->Option xM
  | 0,_,_=>none
  | e+1,b,d=>
    if (decide (b < d))=true then ((idx c (IntKind.i64.wrap (tM .u64 (IntKind.u64.wrap (IntKind.i64.wrap (b+d))) 1))).bind λ j=>(rL j x3).bind λ f=>if (decide (f < 0))=true then (cD c x3 e (IntKind.i64.wrap ((IntKind.i64.wrap (tM .u64 (IntKind.u64.wrap (IntKind.i64.wrap (b+d))) 1))+1)) d) else (cD c x3 e b (IntKind.i64.wrap (tM .u64 (IntKind.u64.wrap (IntKind.i64.wrap (b+d))) 1)))) else (if (decide (b < (c.length:Int)))=true then ((idx c b).bind λ g=>(rL g x3).bind λ i=>some (b,i == 0)) else (some (b,false)))
def cW(b:List aE)(x3:Int):Option xM:=
  cD b x3 (((b.length:Int) - 0:Int).toNat+1) 0 (b.length:Int)
theorem lZ{i:VL}{f:List aE}{x3:Int}(H:Sep w (Fo) rs)(g:rSl aI i f ∈ rs){r:Int×Bool}(m:cW f x3=some r) :
    Cf 195 [i,.int .i64 x3,.func (.func 196) #[] #[]] w λ v w'=>.tuple #[.int .i64 r.1,.bool r.2]=v/\Sep w' (Fo) (rs):=by
 unfold cW at m
 refine ent func195 z ntmps195 z z λ a E=>sp 2 E z λ a E=>xp 1 E z λ a E=>lS E H g U71 z λ a E=>pr 1 E z λ a E=>xp 3 E z λ a E=>nt<|wS<|wB<|bG (λ e a w=>∃ j k,Jn 49 a w [(0,i),(1,.int .i64 x3),(2,.func (.func 196) #[] #[]),(8,.int .i64 (f.length:Int)),(9,.int .i64 j),(10,.int .i64 k)] (Fo) rs (cD f x3 e j k=some r)) (((f.length:Int) - 0:Int).toNat+1) ?_ ?_
 ·exact X3 ⟨E.to z,H,Y0,m⟩
 ·clear E H m
  rintro e a w ⟨j,k,q,E,H,c,m⟩
  cases e with
  | zero=>exact (bE m z).elim
  | succ e=>
   unfold cD at m
   refine wS<|sq<|pn 3 E z λ a E=>wif E m z (λ m=>?_) λ m=>?_
   ·refine wK<|aA<|wB<|sp 4 E z λ a E=>sv2 E z (Eg E z z z (by decide)) λ a E=>pr 2 E z λ a E=>xp 3 E z λ a E=>bd m λ C l m=>dB E H (wn z) z z z z z (c _ g) U71 tO l λ q11 a H E=>Ar E H (wn z) z z z z m0 Mi z tO λ s a H E=>?_
    obtain ⟨t,rfl,h⟩:=Z6 H;clear H;have H:=h
    refine pr 1 E z λ a E=>bd m λ u n m=>bK E (wn z) z z (bN E z z z ((cf_ 196) _)) (Ag H n)<|?_
    rintro _ w ⟨rfl,H⟩ a E
    refine pn 1 E z λ a E=>wif E m z (λ m=>?_) λ m=>?_
    ·exact wG<|pr 3 E z λ a E=>wN<|bP<|aA<|⟨e,nL e,X3 ⟨E.to z,H,(Y3 c),m⟩⟩
    ·exact wG<|pr 2 E z λ a E=>wN<|bP<|aA<|⟨e,nL e,X3 ⟨E.to z,H,(Y3 c),m⟩⟩
   ·refine wX<|aT<|aT<|cL<|aA<|sp 5 E z λ a E=>cs m (λ b m=>?_) λ b m=>?_
    ·refine pk 3 E (kc 39 z b) z λ a E=>bd m λ x o m=>dB E H (ws' (d:=39) E z z z z b) z z z z z (c _ g) U71 tO o λ q19 a H E=>Ar E H (ws' (d:=39) E z z z z b) z z z z m0 Mi z tO λ y a H E=>?_
     obtain ⟨A,rfl,h⟩:=Z6 H;clear H;have H:=h
     refine pk 1 E (kc 39 z b) z λ a E=>bd m λ B p m=>bK E (ws' (d:=39) E z z z z b) z z (bN E z z z ((cf_ 196) _)) (Ag H p)<|?_
     rintro _ w ⟨rfl,H⟩ a E
     refine pk 4 E (kc 39 z b) z λ a E=>nt<|wR<|iH E z z z<|?_
     cases m
     exact ⟨z,H.reads (Y3 c)⟩
    ·refine pk 11 E (kc 39 z b) z λ a E=>nt<|wR<|iH E z z z<|?_
     cases m
     exact ⟨z,H.reads c⟩

def uT(x1:bU)(x3:Int):Option Bool:=
  some (decide (x1.Num <= x3))
theorem Dw{x1:bU}{b:Nat}{x3:Int}(H:Sep w (Blk b 2 [.int .i64 x3]::Fo) rs){r:Bool}(m:uT x1 x3=some r) :
    Cf 200 [.agg (Ch x1).toArray,pt b 0] w λ v w'=>.bool r=v/\Sep w' (Blk b 2 [.int .i64 x3]::Fo) (rs):=by
 unfold uT at m
 refine ent func200 z ntmps200 z z λ a E=>sq<|bx E H z λ c w a H E=>pr 1 E z λ a E=>xp 1 E z λ a E=>lb2 E H 0 U2 z λ a E=>lb2 E H 1 U2 z λ a E=>pr 2 E z λ a E=>nt<|wR<|o1 E z<|have H:=H.drop 0;?_
 cases m
 exact ⟨z,H.reads Y0⟩

def eS(c:List bU)(d:Int):Nat->Int->Option Int
  | 0,_=>none
  | f+1,b=>
    if (decide (b < (c.length:Int)))=true then ((idx c b).bind λ g=>(uT g d).bind λ e=>if e=true then (some (b)) else (eS c d f (IntKind.i64.wrap (b+1)))) else (some ((-1)))
def jP(b:List bU)(c:Int):Option Int:=
  eS b c (((b.length:Int) - 0:Int).toNat+1) 0
theorem E7{e:VL}{b:List bU}{f:Nat}{g:Int}(H:Sep w (Row 131 aS e b::Blk f 2 [.int .i64 g]::Fo) rs){r:Int}(m:jP b g=some r) :
    Cf 273 [e,.func (.func 200) #[] #[pt f 0]] w λ v w'=>.int .i64 r=v/\Sep w' (Blk f 2 [.int .i64 g]::Row 131 aS e b::Fo) (rs):=by
 unfold jP at m
 refine ent func273 z ntmps273 z z λ a E=>sq<|pn 1 E z λ a E=>wS<|sp 1 E z λ a E=>sv2 E z (mV (i:=0) E H z z z U44) λ a E=>pr 1 E z λ a E=>nt<|wB<|bG (λ c a w=>∃ o,Jn 19 a w [(0,e),(1,.func (.func 200) #[] #[pt f 0]),(7,.int .i64 (b.length:Int)),(8,.int .i64 o)] (Row 131 aS e b::Blk f 2 [.int .i64 g]::Fo) rs (eS b g c o=some r)) (((b.length:Int) - 0:Int).toNat+1) ?_ ?_
 ·exact ⟨_,_,E.to z,H,Y0,m⟩
 ·clear E H m
  rintro c a w ⟨o,q,E,H,j,m⟩
  cases c with
  | zero=>exact (bE m z).elim
  | succ c=>
   unfold eS at m
   refine sq<|pn 1 E z λ a E=>wS<|wif E m z (λ m=>?_) λ m=>?_
   ·refine wK<|aA<|wS<|wB<|sp 2 E z λ a E=>xp 3 E z λ a E=>bd m λ n k m=>?_
    obtain ⟨s,t,l⟩:=H.rowformNE (i:=0) z k
    refine sv2 E z (dG (d:=aS) E l z z z z U44 xL k) λ a E=>sv2 E z (kH (i:=0) E H rM l z z z k (us:=[.int .i64 n.Num,.int .i64 n.Kind,.string n.Path,.int .i64 n.Watch]) z Mj z xL) λ a E=>have H:=H.frs [0,1] z;bd m λ u p m=>bK E (wn z) z z (bN E z z z ((cf_ 200) _)) (Dw H p)<|?_
    rintro _ w ⟨rfl,H⟩ a E
    refine nt<|wif E m z (λ m=>?_) λ m=>?_
    ·refine sq<|pn 2 E z λ a E=>wR<|bD<|aG<|aG<|bD<|aG<|o1 E z<|?_
     cases m
     exact ⟨z,H.reads j⟩
    ·exact wK<|bP<|aA<|wG<|pn 2 E z λ a E=>have H:=H.frs [0,1] z;⟨c,nL c,_,_,E.to z,H,j,m⟩
   ·refine wX<|aT<|aT<|cL<|aA<|sq<|pn 1 E z λ a E=>wR<|o1 E z<|have H:=H.frs [0,1] z;?_
    cases m
    exact ⟨z,H.reads j⟩

def fP(rec_1:zZ->Int->Int->Option zZ)(d:Int)(b:zZ)(c:Int):Option zZ:=
  rec_1 b c (IntKind.i64.wrap (d+1))
def cX(f:Int):Nat->zZ->Int->Int->Option zZ
  | 0,_,_,_=>none
  | g+1,c,b,d=>
    if (decide (d < (c.length:Int)))=true then ((idx c d).bind λ e=>(uT e f).bind λ i=>if (!i)=true then ((idx c b).bind λ j=>fP (cX f g) d (c.set b.toNat e) (IntKind.i64.wrap (b+1))) else (fP (cX f g) d c b)) else ((ck (0 <= b/\b <= c.length)).bind λ k=>(ck (0 <= b/\b <= (c.take b.toNat ++ List.replicate (c.length - b.toNat) (⟨0,0,⟨#[]⟩,0⟩:bU)).length)).bind λ l=>some ((c.take b.toNat ++ List.replicate (c.length - b.toNat) (⟨0,0,⟨#[]⟩,0⟩:bU)).take b.toNat))
def gN(b:List bU)(d:Int):Option zZ:=
  (jP b d).bind λ c=>if (c == (-1))=true then (some (b)) else (cX d (((b.length:Int) - (IntKind.i64.wrap (c+1)):Int).toNat+1) b c (IntKind.i64.wrap (c+1)))
theorem C6{l:VL}{u:List bU}{c:Nat}{e:Int}(H:Sep w (Row 131 aS l u::Blk c 2 [.int .i64 e]::Fo) rs){r:zZ}(m:gN u e=some r) :
    Cf 199 [l,.func (.func 200) #[] #[pt c 0]] w λ v w'=>∃ D,D=v/\Sep w' (Row 131 aS D r::Blk c 2 [.int .i64 e]::Fo) (rs):=by
 unfold gN at m
 refine ent func199 z ntmps199 z z λ a E=>sp 1 E z λ a E=>xp 2 E z λ a E=>bd m λ G F m=>xk2 E z (cf_ 273) (E7 H F) λ w H a E=>pn 1 E z λ a E=>wS<|sq<|pn 2 E z λ a E=>wif E m z (λ m=>?_) λ m=>?_
 ·refine sq<|pn 2 E z λ a E=>wR<|aG<|o1 E z<|have H:=H.frs [0,1] z;?_
  cases m
  exact ⟨_,z,H.reads Y0⟩
 ·refine wK<|aA<|wS<|sq<|pn 3 E z λ a E=>wB<|bG (λ f a w=>∃ x y n,Jn 42 a w [(0,l),(1,.func (.func 200) #[] #[pt c 0]),(5,.int .i64 y),(6,.int .i64 n)] (Row 131 aS l x::Blk c 2 [.int .i64 e]::Fo) rs (cX e f x y n=some r)) (((u.length:Int) - (IntKind.i64.wrap (G+1)):Int).toNat+1) ?_ ?_
  ·exact have H:=H.frs [0,1] z;X4 ⟨E.to z,H,Y0,m⟩
  ·clear E H m
   rintro f a w ⟨x,y,n,I,E,H,g,m⟩
   cases f with
   | zero=>exact (bE m z).elim
   | succ f=>
    unfold cX at m
    refine wS<|sp 2 E z λ a E=>sv2 E z (mV (i:=0) E H z z z U44) λ a E=>pn 1 E z λ a E=>wif E m z (λ m=>?_) λ m=>?_
    ·refine wK<|aA<|aJ (λ a w=>∃ o p,Jn 42 a w [(0,l),(1,.func (.func 200) #[] #[pt c 0]),(5,.int .i64 p),(6,.int .i64 n)] (Row 131 aS l o::Blk c 2 [.int .i64 e]::Fo) rs (fP (cX e f) n o p=some r)) ?_ ?_
     ·refine wB<|sp 2 E z λ a E=>bd m λ b j m=>?_
      obtain ⟨K,L,q⟩:=H.rowformNE (i:=0) z j
      refine sv2 E z (dG (d:=aS) E q z z z z U44 xL j) λ a E=>sv2 E z (kH (i:=0) E H rM q z z z j (us:=[.int .i64 b.Num,.int .i64 b.Kind,.string b.Path,.int .i64 b.Watch]) z Mj z xL) λ a E=>al2 E H z Sk λ M w a H E=>ss 0 E H z xL z λ w H=>xp 1 E z λ a E=>ln 0 (Ch b) E H Mj z xL λ a E=>have H:=H.frs [1,1,2] z;bd m λ N A m=>bK E (wn z) z z (bN E z z z ((cf_ 200) _)) (Dw H A)<|?_
      rintro _ w ⟨rfl,H⟩ a E
      refine pn 1 E z λ a E=>wif E m z (λ m=>?_) λ m=>?_
      ·refine sp 2 E z λ a E=>ln 1 (Ch b) E H Mj z xL λ a E=>bd m λ O k m=>?_
       obtain ⟨P,Q,s⟩:=H.rowformNE (i:=2) z k
       exact sv2 E z (dG (d:=aS) E s z z z z U44 xL k) λ a E=>P8 (d:=aS) (i:=2) (us:=[.int .i64 b.Num,.int .i64 b.Kind,.string b.Path,.int .i64 b.Watch]) (z':=b) E H rM (wn z) z s z z z z z z z k xL λ w H=>nt<|wG<|pr 3 E z λ a E=>wN<|bP<|aA<|have H:=H.drop 1;have H:=H.frs [0,1] z;X3 ⟨E.to z,H,g,m⟩
      ·exact wK<|bP<|aA<|have H:=H.drop 1;have H:=H.frs [0,1] z;X3 ⟨E.to z,H,g,m⟩
     ·clear E H m
      rintro a w ⟨o,p,J,E,H,B,m⟩
      unfold fP at m
      exact wG<|pn 3 E z λ a E=>⟨f,nL f,X4 ⟨E.to z,H,B,m⟩⟩
    ·refine wX<|aT<|aT<|cL<|aA<|sp 2 E z λ a E=>bk m λ t m=>sv2 E z (Ek (d:=aS) (i:=0) E H z z z z U44 xL t) λ a E=>V9 (i:=0) (z0:=(⟨0,0,⟨#[]⟩,0⟩:bU)) E H rM (wn z) z z z U44 LN z z z t λ w H=>xp 2 E z λ a E=>bk m λ C m=>Bn (i:=0) E H rM (wn z) z z z z z z U44 xL C λ R a H E=>pn 1 E z λ a E=>wR<|o1 E z<|?_
     cases m
     exact ⟨_,z,H.reads g⟩

def u7(x1:aV)(f:Int)(g:Int):Option (aV×zZ×Int):=
  (tL x1).bind λ d=>if (!d)=true then (some ((⟨[],[]⟩:aV),[],1)) else ((cW x1.Sessions f).bind λ b=>if (!b.2)=true then (some (x1,[],62)) else ((ck (x1.Sessions.length <= LIM)).bind λ i=>(idx x1.Sessions b.1).bind λ x20=>(ck (x20.Events.length <= LIM)).bind λ j=>(gN x20.Events g).bind λ c=>(idx x1.Sessions b.1).bind λ e=>(ck (c.length <= LIM)).bind λ k=>some ((⟨x1.Watches,x1.Sessions.set b.1.toNat ({ e with Events:=c }:aE)⟩:aV),c,0)))
theorem Ut{x1:aV}{g j:VL}{D F:Int}(H:Sep w (Fo) rs)(b:rSl aP g x1.Watches ∈ rs)(c:rSl aI j x1.Sessions ∈ rs){r:aV×zZ×Int}(m:u7 x1 D F=some r) :
    Cf 120 [.agg #[g,j],.int .i64 D,.int .i64 F] w λ v w'=>∃ G I J,.tuple #[.agg #[G,I],J,.int .i64 r.2.2]=v/\Sep w' (Row 131 aS J r.2.1::Fo) (rSl aP G r.1.Watches::rSl aI I r.1.Sessions::rs):=by
 unfold u7 at m
 refine ent func120 z ntmps120 z z λ a E=>sq<|bx E H z λ Y w a H E=>bx E H z λ Z w a H E=>al2 E H z V1 λ M w a H E=>pn 2 E z λ a E=>wS<|sq<|ln 2 [g,j] E H U73 z gG λ a E=>bd m λ N t m=>xk2 E z (cf_ 192) (M6 H b c t) λ w H a E=>pn 1 E z λ a E=>wif E m z (λ m=>?_) λ m=>?_
 ·refine sq<|sv2 E z (cH E z (E.evs z) (v:=.agg #[nS,nS]) (by kernel_rfl)) λ a E=>ss 0 E H z gG z λ w H=>pn 2 E z λ a E=>wR<|aG<|Yb E z (qH (i:=0) (us:=[nS,nS]) H z z z U73 z gG) (rvT z) (rvT z)<|have H:=H.nilSl aP;have H:=H.nilSl aI;have H:=H.nilRow 131 aS;have H:=H.drs [1,1,1];?_
  cases m
  exact X3 ⟨z,H.rdx [1,0] z (λ r hr=>(t2 hr))⟩
 ·refine wK<|aA<|sp 1 E z λ a E=>lb2 E H 2 U71 z λ a E=>pr 1 E z λ a E=>bd m λ O u m=>xk2 E z (cf_ 195) (lZ H c u) λ w H a E=>pr 5 E z λ a E=>nt<|wS<|sq<|pn 2 E z λ a E=>wif E m z (λ m=>?_) λ m=>?_
  ·refine sq<|ln 2 [g,j] E H U73 z gG λ a E=>ss 0 E H z gG (kJ H b c) λ w H=>pn 2 E z λ a E=>wR<|aG<|Yb E z (qH (i:=0) (us:=[g,j]) H z z z U73 z gG) (rvT z) (rvT z)<|have H:=H.nilRow 131 aS;have H:=H.drs [1,1,1];?_
   cases m
   exact X3 ⟨z,H.reads (aD b (aD c (λ r hr=>hr)))⟩
  ·refine wK<|aA<|sp 1 E z λ a E=>lb2 E H 2 U71 z λ a E=>bk m λ y m=>xc2 E z (cf_ 75) (dL H c y) λ P w H a E=>pr 1 E z λ a E=>?_
   obtain ⟨q18,p,rfl⟩:=H.rowform (i:=0) z
   refine ss 3 E H z Uj z λ w H=>xp 1 E z λ a E=>lb2 E H 3 U71 z λ a E=>pr 1 E z λ a E=>bd m λ x20 e m=>?_
   obtain ⟨Q,R,l⟩:=H.rowformNE (i:=0) z e
   refine sv2 E z (dG (d:=aI) E l z z z z U71 tO e) λ a E=>pr 1 E z λ a E=>G2 (i:=0) (k:=2) E H l (wn z) z z z z z e z U44 z λ S a H E=>?_
   obtain ⟨_,hcs⟩:=H.rd (.head _)
   obtain ⟨q,rfl,-⟩:=dD hcs
   clear hcs
   refine have H:=H.derive1 m0 (rSl aS q x20.Events) (λ ok h=>gZ h);?_
   replace E:Env 48 a ((35,q)::_):=E
   refine bk m λ A m=>xc2 E z (cf_ 76) (eW H m0 A) λ T w H a E=>sv2 E z (nT E z z z) λ a E=>have H:=H.frs [4,3,3,4,4] z;bd m λ n B m=>xc2 E z (cf_ 199) (C6 H B)<|?_
   rintro _ w ⟨U,rfl,H⟩ a E
   refine pr 1 E z λ a E=>xp 1 E z λ a E=>lb2 E H 4 U71 z λ a E=>pr 2 E z λ a E=>bd m λ s f m=>?_
   obtain ⟨V,W,o⟩:=H.rowformNE (i:=2) z f
   refine sv2 E z (dG (d:=aI) E o z z z z U71 tO f) λ a E=>pr 1 E z λ a E=>?_
   obtain ⟨q38,K,rfl⟩:=H.rowform (i:=0) z
   refine have H:=H.thaw (i:=0) z;I9 (i:=1) (k:=2) (us:=[(.slice q38 n.length K)]) (y':=({ s with Events:=n }:aE)) E H o (wn z) z z z z z z f z Uk z (λ ok cs hr h=>by obtain ⟨b0,rfl,g1⟩:=dD h;exact mO (x:=({ s with Events:=n }:aE)) (hr _ m0)) λ w H=>nt<|wS<|dz [0,0,1,1,2,2] [3] H λ w W0 hI H=>fbn E [g,(.slice q18 x1.Sessions.length p)] z (wn z) z z z z m0 z U73 z gG λ a E=>fn 1 E z λ a E=>bQ z<|bk m λ C m=>xc2 E z (cf_ 76) (eW H m0 C) λ X w H a E=>nt<|⟨sx H [4] z,bQ z<|?_⟩
   obtain ⟨q43,L,rfl⟩:=H.slform (t3 b)
   refine ss 3 E H z gG z λ w H=>nt<|⟨sx H [4] z,bL z<|pn 1 E z λ a E=>bL z<|pn 1 E z λ a E=>bB<|?_⟩
   clear hI
   refine aA<|wR<|Yb E z (qH (i:=3) (us:=[(.slice q43 x1.Watches.length L),(.slice q18 x1.Sessions.length p)]) H z z z U73 z gG) (rvT z) (rvT z)<|have H:=H.thaw (i:=2) z;have H:=H.drs [1,1,1];?_
   cases m
   exact X3 ⟨z,H.reads (aD (t4 b) (aD m0 (λ r hr=>(t4 hr))))⟩

def vY(d:List aO)(e:List aE)(x20:aK):Option Jl:=
  (u7 (⟨d,e⟩:aV) x20.Watch.Session x20.Epoch).bind λ b=>(lV d e b.1 b.2.1 b.2.2).bind λ c=>some (c.1,c.2.1,c.2.2)
theorem Ig{t:Nat}{b c y A B C j k l n o p q:VL}{d:List aO}{e:List aE}{x20:aK}(H:Sep w (Blk t 87 [j,k,l,n,b,c,o,p,q]::Fo) rs)(f:rSl aP b d ∈ rs)(g:rSl aI c e ∈ rs){r:aX×fQ×eD}(m:vY d e x20=some r) :
    Cf 51 [pt t 0,.agg (aM x20 y A B C).toArray] w λ v w'=>∃ D F G I J K L s,.agg (aW r.1 D F G I J K).toArray=v/\Sep w' (Blk t 87 [j,k,l,n,L,s,o,p,q]::Fo) (rSl aZ D r.1.Results::rSl aB F r.1.Store.Nodes::rSl aC G r.1.Store.Turns::rSl aS I r.1.Events::rSl bI J r.1.Mounts::rSl (kI .i64) K r.1.Wounded::rSl aP L r.2.1::rSl aI s r.2.2::rs):=by
 unfold vY at m
 refine ent func51 z ntmps51 z z λ a E=>sq<|bx E H z λ T w a H E=>al2 E H z lQ λ U w a H E=>nt<|wS<|dwc [(0,0),(1,0),(2,0),(3,0),(5,0),(6,0),(8,0),(4,0),(7,0),(9,1),(10,1),(11,0),(12,0),(13,0),(14,2),(15,2)] [1,2] [] H (by kernel_rfl) (λ _ _ _ h=>False.elim h.2) λ w W0 hI H=>fn 7 E z λ a E=>fbn E [b,c] z (wn z) z z z z mm1 z U73 z gG λ a E=>fb2 E m0 U2 z λ a E=>bQ z<|lb2 E H 1 U2 z λ a E=>nt<|⟨sx H [1,2] z,bQ z<|bd m λ V u m=>xc2 E z (cf_ 120) (Ut (x1:=(⟨d,e⟩:aV)) H f g u)<|?_⟩
 rintro _ w ⟨W,X,Y,rfl,H⟩ a E
 refine nt<|⟨sx H [2,3] z,fn 3 E z λ a E=>bL z<|have H:=H.thaw (i:=0) z;have H:=H.frs [1,1,2] z;bd m λ M x m=>xc2 E z (cf_ 118) (s9 H (t3 f) (t3 g) mm1 mm2 m0 x)<|?_⟩
 rintro _ w ⟨N,O,P,Q,R,S,Z,b0,rfl,H⟩ a E
 refine nt<|bL z<|ss 1 E H z bV (bA H m0 mm1 mm2 mm3 mm4 mm5) λ w H=>nt<|bB<|?_
 clear hI
 refine aA<|wR<|oB 1 (aW M.1 N O P Q R S) E H U48 z bV<|have H:=H.drs [1,1];?_
 cases m
 exact X8 ⟨z,H.rdx [0,1,2,3,4,5,6] z (aD (t1 mm6) (λ r hr=>(t3 (t8 hr))))⟩

def oG(b:aX×fQ×eD)(c:pK):Option N4:=
  some (b.1,b.2.1,b.2.2,c)
def lW(b:aX×fQ×eD)(c:List lL)(x20:aK)(e:Bool):Option N4:=
  if e=true then ((mpt (kyI .i64) c x20.Id b.1).bind λ d=>oG b d) else (oG b c)
def sA(c:List lL)(x20:aK)(d:List aO)(e:List aE)(f:Bool):Option N4:=
  if f=true then ((dJ 2).bind λ g=>some (g,d,e,c)) else ((vY d e x20).bind λ b=>if (x20.Id != 0)=true then (if (b.1.Err != 131)=true then (lW b c x20 (b.1.Err != 132)) else (lW b c x20 false)) else (lW b c x20 false))
def wO(b:List lL)(x20:aK)(c:List aO)(d:List aE)(e:Bool)(f:Int)(g:Int)(i:Bool)(j:Int)(k:Q4)(l:eI)(m:dU)(n:zZ)(o:Jk)(p:(List Int)):Option N4:=
  if e=true then (some ((⟨f,g,i,j,k,(⟨l,m⟩:aR),n,o,p⟩:aX),c,d,b)) else (if (x20.Id != 0)=true then (sA b x20 c d ((b.length:Int) == 512)) else (sA b x20 c d false))
def sB(d:List aO)(e:List aE)(c:List lL)(x20:aK):Option N4:=
  (L3 (kyI .i64) c x20.Id vL).bind λ b=>wO c x20 d e b.2 b.1.Err b.1.At b.1.Yes b.1.Epoch b.1.Results b.1.Store.Nodes b.1.Store.Turns b.1.Events b.1.Mounts b.1.Wounded
theorem Ih{o e:Nat}{P Q J L M N p q s t u x:VL}{c0:List aO}{c1:List aE}{y:List lL}{x20:aK}(H:Sep w (Blk o 87 [p,q,s,t,P,Q,.map (some e),u,x]::bX Tryz.prog 2 (kyI .i64) bC true e y::Fo) rs)(b8:rSl aP P c0 ∈ rs)(b9:rSl aI Q c1 ∈ rs){r:aX×fQ×eD×pK}(m:sB c0 c1 y x20=some r) :
    Cf 54 [pt o 0,.agg (aM x20 J L M N).toArray,.func (.func 51) #[] #[]] w λ v w'=>∃ f9 g0 g1 g2 g3 g4 g5 f3,.agg (aW r.1 f9 g0 g1 g2 g3 g4).toArray=v/\Sep w' (Blk o 87 [p,q,s,t,g5,f3,.map (some e),u,x]::bX Tryz.prog 2 (kyI .i64) bC true e r.2.2.2::Fo) (rSl aZ f9 r.1.Results::rSl aB g0 r.1.Store.Nodes::rSl aC g1 r.1.Store.Turns::rSl aS g2 r.1.Events::rSl bI g3 r.1.Mounts::rSl (kI .i64) g4 r.1.Wounded::rSl aP g5 r.2.1::rSl aI f3 r.2.2.1::rs):=by
 unfold sB at m
 refine ent func54 z ntmps54 z z λ a E=>sq<|bx E H z λ k w a H E=>al2 E H z lQ λ A w a H E=>nt<|wS<|aJ (λ a w=>∃ c9 Y Z b0 b1 b2 b3 d0 b4 b5 b6 b7 d1 d2 d3 d4 d5 d6 f,Env 59 a [(0,pt o 0),(2,.func (.func 51) #[] #[]),(4,pt k 0),(6,pt A 0),(7,pt c9 0),(8,.bool d0)]/\Sep w (Blk o 87 [p,q,s,t,P,Q,.map (some e),u,x]::Blk k 37 (aM x20 J L M N)::Blk A 48 bJ::Blk c9 48 [.int .i64 b4,.int .i64 b5,.bool b6,.int .i64 b7,Y,Z,b0,b1,b2,b3]::bX Tryz.prog 2 (kyI .i64) bC true e y::Fo) f/\(∀ r,r ∈ rs->r ∈ f)/\rSl aZ Y d1 ∈ f/\rSl aB Z d2 ∈ f/\rSl aC b0 d3 ∈ f/\rSl aS b1 d4 ∈ f/\rSl bI b2 d5 ∈ f/\rSl (kI .i64) b3 d6 ∈ f/\wO y x20 c0 c1 d0 b4 b5 b6 b7 d1 d2 d3 d4 d5 d6=some r) ?_ ?_
 ·refine bd m λ i3 c2 m=>?_
  have hI:dI [Blk k 37 (aM x20 J L M N),Blk o 87 [p,q,s,t,P,Q,.map (some e),u,x]] [] { w with drawn:=w.drawn+1 }:=⟨_,_,H.kept (Kp.drawn _ w _),(aU mm1 (aU mm2 (bH))),(bO)⟩
  refine oN _ (.go 0 0 (.go 1 0 (.go 2 0 (.go 3 0 (.go 4 0 (.go 5 0 (.alt 6 (.go 7 0 (.go 8 0 (.go 9 0 (.go 10 1 (.go 11 1 (.go 12 2 .nil)))))) 10 (.go 6 1 (.go 7 0 (.go 8 0 (.go 9 0 (.go 11 1 (.go 12 2 .nil))))))))))))) [12] pI (by kernel_rfl) (λ _ _ _ h=>False.elim h.2) hI<|have H:=H.kept (Kp.drawn _ w (w.drawn+1));?_
  generalize ({ w with drawn:=w.drawn+1 }:WD)=w at H hI ⊢
  replace hI:∃ W,dI [Blk k 37 (aM x20 J L M N),Blk o 87 [p,q,s,t,P,Q,.map (some e),u,x]] [] W:=⟨_,hI⟩
  obtain ⟨W0,hI⟩:=hI
  refine om E z λ a E=>ov E z (λ w hW=>(zB E z z)) λ a E=>ov E z (λ w hW=>mM E z z (v:=pt o 6) (Hq _ _)) λ a E=>ol E mm1 U84 z λ a E=>ov E z (λ w hW=>mM E z z (v:=pt k 1) (Hp _ _)) λ a E=>ol E m0 U2 z λ a E=>oO z z ?_ ?_
  ·refine sL (i:=3) (K:=(kyI .i64)) E H (wn z) z z z z z z (gA U2) U84 Q3 Az c2 λ i4 a H E=>?_
   obtain ⟨i5,i6,i7,i8,i9,j0,rfl,h⟩:=oP H;clear H;have H:=h
   refine nt<|⟨sx H [1,2] z,om E z λ a E=>ox E z λ a E=>ox E z λ a E=>cF z<|al2 E H z lQ λ j1 w a H E=>nt<|⟨sx H [2,3] z,cF z<|ss 0 E H z bV (bA H mm5 mm4 mm3 mm2 mm1 m0) λ w H=>nt<|⟨sx H [2,3] z,cV z<|pn 1 E z λ a E=>fA<|?_⟩⟩⟩
   clear hI
   exact aA<|have H:=H.frs [4,1,2,3,4] z;X19 ⟨E.to z,H,(Y7 Y0),mm5,mm4,mm3,mm2,mm1,m0,m⟩
  ·refine al2 E H z lQ λ j2 w a H E=>nt<|⟨sx H [2,3] z,cF z<|sL (i:=4) (K:=(kyI .i64)) E H (wn z) z z z z z z (gA U2) U84 Q3 Az c2 λ j3 a H E=>?_⟩
   obtain ⟨j4,j5,j6,j7,j8,j9,rfl,h⟩:=oP H;clear H;have H:=h
   refine nt<|⟨sx H [2,3] z,om E z λ a E=>ox E z λ a E=>ox E z λ a E=>cF z<|ss 0 E H z bV (bA H mm5 mm4 mm3 mm2 mm1 m0) λ w H=>nt<|⟨sx H [2,3] z,cV z<|pn 1 E z λ a E=>fA<|?_⟩⟩
   clear hI
   exact aA<|have H:=H.frs [4,1,2,3,4] z;X19 ⟨E.to z,H,(Y7 Y0),mm5,mm4,mm3,mm2,mm1,m0,m⟩
 ·clear E H m
  rintro a w ⟨c9,Y,Z,b0,b1,b2,b3,d0,b4,b5,b6,b7,d1,d2,d3,d4,d5,d6,f,E,H,O,d7,d8,d9,e0,e1,e2,m⟩
  unfold wO at m
  refine sq<|pn 1 E z λ a E=>wif E m z (λ m=>?_) λ m=>?_
  ·refine sq<|ln 3 [.int .i64 b4,.int .i64 b5,.bool b6,.int .i64 b7,Y,Z,b0,b1,b2,b3] E H U48 z bV λ a E=>ss 2 E H z bV (bA H d7 d8 d9 e0 e1 e2) λ w H=>nt<|wR<|aG<|oB 2 [.int .i64 b4,.int .i64 b5,.bool b6,.int .i64 b7,Y,Z,b0,b1,b2,b3] E H U48 z bV<|have H:=H.drs [1,1,1];?_
   cases m
   exact X8 ⟨z,H.reads (aD d7 (aD d8 (aD d9 (aD e0 (aD e1 (aD e2 (aD (O _ b8) (aD (O _ b9) (O)))))))))⟩
  ·refine wK<|aA<|wS<|aJ (λ a w=>∃ e3,Jn 59 a w [(0,pt o 0),(2,.func (.func 51) #[] #[]),(4,pt k 0),(6,pt A 0),(32,.bool e3)] (Blk o 87 [p,q,s,t,P,Q,.map (some e),u,x]::Blk k 37 (aM x20 J L M N)::Blk A 48 bJ::bX Tryz.prog 2 (kyI .i64) bC true e y::Fo) rs (sA y x20 c0 c1 e3=some r)) ?_ ?_
   ·refine wG<|pr 1 E z λ a E=>lb2 E H 1 U2 z λ a E=>pr 2 E z λ a E=>cs m (λ j m=>?_) λ j m=>?_
    ·exact pk 3 E (kc 25 z j) z λ a E=>gl 25 E H 0 j U84 z λ a E=>gv 25 E j z (X2 (i:=4) E H z z z U84) λ a E=>pk 2 E (kc 25 z j) z λ a E=>nt<|have H:=H.drop 3;⟨_,_,E.to z,H,O,m⟩
    ·exact pk 7 E (kc 25 z j) z λ a E=>nt<|have H:=H.drop 3;⟨_,_,E.to z,H,O,m⟩
   ·clear E H m
    rintro a w ⟨e3,k0,E,H,g,m⟩
    unfold sA at m
    refine wif E m z (λ m=>?_) λ m=>?_
    ·refine sq<|bd m λ g6 f4 m=>xc2 E z (cf_ 53) (fB H f4)<|?_
     rintro _ w ⟨g7,g8,g9,i0,i1,i2,rfl,H⟩ a E
     refine ss 2 E H z bV (bA H m0 mm1 mm2 mm3 mm4 mm5) λ w H=>nt<|wR<|aG<|oB 2 (aW g6 g7 g8 g9 i0 i1 i2) E H U48 z bV<|have H:=H.drs [1,1];?_
     cases m
     exact X8 ⟨z,H.rdx [0,1,2,3,4,5] z (aD (t6 (g _ b8)) (aD (t6 (g _ b9)) (λ r hr=>(t6 (g r hr)))))⟩
    ·refine wK<|aA<|sp 2 E z λ a E=>ln 1 (aM x20 J L M N) E H U37 z z7 λ a E=>bd m λ b f5 m=>bK E (wn z) z z (bN E z z z ((cf_ 51) _)) (Ig H (g _ b8) (g _ b9) f5)<|?_
     rintro _ w ⟨B,C,D,F,G,I,c3,c4,rfl,H⟩ a E
     refine al2 E H z lQ λ c5 w a H E=>ss 0 E H z bV (bA H m0 mm1 mm2 mm3 mm4 mm5) λ w H=>nt<|aJ (λ a w=>∃ e4 d,Env 59 a [(6,pt A 0),(9,pt c5 0)]/\Sep w (Blk A 48 bJ::Blk c5 48 (aW b.1 B C D F G I)::Blk o 87 [p,q,s,t,c3,c4,.map (some e),u,x]::bX Tryz.prog 2 (kyI .i64) bC true e e4::Fo) d/\(∀ r,r ∈ rs->r ∈ d)/\rSl aZ B b.1.Results ∈ d/\rSl aB C b.1.Store.Nodes ∈ d/\rSl aC D b.1.Store.Turns ∈ d/\rSl aS F b.1.Events ∈ d/\rSl bI G b.1.Mounts ∈ d/\rSl (kI .i64) I b.1.Wounded ∈ d/\rSl aP c3 b.2.1 ∈ d/\rSl aI c4 b.2.2 ∈ d/\oG b e4=some r) ?_ ?_
     ·refine aJ (λ a w=>∃ e5 c,Env 59 a [(0,pt o 0),(4,pt k 0),(6,pt A 0),(9,pt c5 0),(50,.bool e5)]/\Sep w (Blk o 87 [p,q,s,t,c3,c4,.map (some e),u,x]::Blk k 37 (aM x20 J L M N)::Blk A 48 bJ::Blk c5 48 (aW b.1 B C D F G I)::bX Tryz.prog 2 (kyI .i64) bC true e y::Fo) c/\(∀ r,r ∈ rs->r ∈ c)/\rSl aP c3 b.2.1 ∈ c/\rSl aI c4 b.2.2 ∈ c/\rSl aZ B b.1.Results ∈ c/\rSl aB C b.1.Store.Nodes ∈ c/\rSl aC D b.1.Store.Turns ∈ c/\rSl aS F b.1.Events ∈ c/\rSl bI G b.1.Mounts ∈ c/\rSl (kI .i64) I b.1.Wounded ∈ c/\lW b y x20 e5=some r) ?_ ?_
      ·refine wG<|pr 1 E z λ a E=>lb2 E H 2 U2 z λ a E=>pr 2 E z λ a E=>cs m (λ l m=>?_) λ l m=>?_
       ·refine pk 1 E (kc 41 z l) z λ a E=>gl 41 E H 0 l U41 z λ a E=>pk 3 E (kc 41 z l) z λ a E=>cs m (λ n m=>?_) λ n m=>?_
        ·exact pk 1 E (kc 46 z n) z λ a E=>gl 46 E H 0 n U41 z λ a E=>pk 2 E (kc 46 z n) z λ a E=>nt<|have H:=H.frs [4,1,4,4,4] z;⟨_,_,E.to z,H,(Y8 g),mm6,(t1 mm6),m0,mm1,mm2,mm3,mm4,mm5,m⟩
        ·exact pk 4 E (kc 46 z n) z λ a E=>nt<|have H:=H.frs [4,1,4,4,4] z;⟨_,_,E.to z,H,(Y8 g),mm6,(t1 mm6),m0,mm1,mm2,mm3,mm4,mm5,m⟩
       ·exact pk 9 E (kc 41 z l) z λ a E=>nt<|have H:=H.frs [4,1,4,4,4] z;⟨_,_,E.to z,H,(Y8 g),mm6,(t1 mm6),m0,mm1,mm2,mm3,mm4,mm5,m⟩
      ·clear E H m
       rintro a w ⟨e5,c,E,H,c6,c7,c8,R,S,T,U,V,X,m⟩
       unfold lW at m
       refine wif E m z (λ m=>?_) λ m=>?_
       ·refine dz [0,0,0,0,0,0,0,2] [0,1,3] H λ w W0 hI H=>fn 3 E z λ a E=>fb2 E m0 U84 z λ a E=>fn 1 E z λ a E=>fb2 E mm1 U2 z λ a E=>fbn E (aW b.1 B C D F G I) z (wn z) z z z z mm2 z U48 z bV λ a E=>bL z<|bd m λ k1 f2 m=>T8 (i:=4) (K:=(kyI .i64)) (v:=b.1) (cs:=[.int .i64 b.1.Err,.int .i64 b.1.At,.bool b.1.Yes,.int .i64 b.1.Epoch,B,C,D,F,G,I]) E H (wn z) z z z z z z (gA U2) U84 f2 (λ ok hr=>(sO (hr _ R) (hr _ S) (hr _ T) (hr _ U) (hr _ V) (hr _ X))) λ w H=>nt<|bB<|?_
        clear hI
        exact aA<|have H:=H.drop 1;have H:=H.frs [3,1,3,3] z;⟨_,_,E.to z,H,c6,R,S,T,U,V,X,c7,c8,m⟩
       ·exact wK<|aA<|have H:=H.drop 1;have H:=H.frs [3,1,3,3] z;⟨_,_,E.to z,H,c6,R,S,T,U,V,X,c7,c8,m⟩
     ·clear E H m
      rintro a w ⟨e4,d,E,H,f6,e6,e7,e8,e9,f0,f1,f7,f8,m⟩
      unfold oG at m
      refine sq<|ln 1 (aW b.1 B C D F G I) E H U48 z bV λ a E=>ss 0 E H z bV (bA H e6 e7 e8 e9 f0 f1) λ w H=>nt<|wR<|oB 0 (aW b.1 B C D F G I) E H U48 z bV<|have H:=H.drs [0,0];?_
      cases m
      exact X8 ⟨z,H.reads (aD e6 (aD e7 (aD e8 (aD e9 (aD f0 (aD f1 (aD f7 (aD f8 (f6)))))))))⟩

def xW(x1:aO)(x3:Int)(b:Int):Option Bool:=
  if (x1.Session == x3)=true then (some (x1.Num == b)) else (some (false))
theorem Qg{x1:aO}{c d:Nat}{x3 e:Int}(H:Sep w (Blk c 2 [.int .i64 x3]::Blk d 2 [.int .i64 e]::Fo) rs){r:Bool}(m:xW x1 x3 e=some r) :
    Cf 269 [.agg (dP x1).toArray,pt c 0,pt d 0] w λ v w'=>.bool r=v/\Sep w' (Blk c 2 [.int .i64 x3]::Blk d 2 [.int .i64 e]::Fo) (rs):=by
 unfold xW at m
 refine ent func269 z ntmps269 z z λ a E=>sq<|bx E H z λ f w a H E=>pr 1 E z λ a E=>xp 1 E z λ a E=>lb2 E H 0 U2 z λ a E=>lb2 E H 1 U2 z λ a E=>pr 2 E z λ a E=>cs m (λ b m=>?_) λ b m=>?_
 ·refine pk 1 E (kc 9 z b) z λ a E=>gl 9 E H 0 b U2 z λ a E=>gl 9 E H 2 b U2 z λ a E=>pk 3 E (kc 9 z b) z λ a E=>nt<|wR<|o1 E z<|have H:=H.drop 0;?_
  cases m
  exact ⟨z,H.reads Y0⟩
 ·refine pk 6 E (kc 9 z b) z λ a E=>nt<|wR<|o1 E z<|have H:=H.drop 0;?_
  cases m
  exact ⟨z,H.reads Y0⟩

def eF(c:List aO)(d:Int)(e:Int):Nat->Int->Option Int
  | 0,_=>none
  | i+1,b=>
    if (decide (b < (c.length:Int)))=true then ((idx c b).bind λ f=>(xW f d e).bind λ g=>if g=true then (some (b)) else (eF c d e i (IntKind.i64.wrap (b+1)))) else (some ((-1)))
def iL(b:List aO)(c:Int)(d:Int):Option Int:=
  eF b c d (((b.length:Int) - 0:Int).toNat+1) 0
theorem A5{k:VL}{d:List aO}{e f:Nat}{g i:Int}(H:Sep w (Blk e 2 [.int .i64 g]::Blk f 2 [.int .i64 i]::Fo) rs)(j:rSl aP k d ∈ rs){r:Int}(m:iL d g i=some r) :
    Cf 268 [k,.func (.func 269) #[] #[pt e 0,pt f 0]] w λ v w'=>.int .i64 r=v/\Sep w' (Blk e 2 [.int .i64 g]::Blk f 2 [.int .i64 i]::Fo) (rs):=by
 unfold iL at m
 refine ent func268 z ntmps268 z z λ a E=>sq<|pn 1 E z λ a E=>wS<|sp 1 E z λ a E=>lS E H j U70 z λ a E=>pr 1 E z λ a E=>nt<|wB<|bG (λ c a w=>∃ l,Jn 19 a w [(0,k),(1,.func (.func 269) #[] #[pt e 0,pt f 0]),(7,.int .i64 (d.length:Int)),(8,.int .i64 l)] (Blk e 2 [.int .i64 g]::Blk f 2 [.int .i64 i]::Fo) rs (eF d g i c l=some r)) (((d.length:Int) - 0:Int).toNat+1) ?_ ?_
 ·exact ⟨_,_,E.to z,H,Y0,m⟩
 ·clear E H m
  rintro c a w ⟨l,p,E,H,b,m⟩
  cases c with
  | zero=>exact (bE m z).elim
  | succ c=>
   unfold eF at m
   refine sq<|pn 1 E z λ a E=>wS<|wif E m z (λ m=>?_) λ m=>?_
   ·refine wK<|aA<|wS<|wB<|sp 2 E z λ a E=>xp 3 E z λ a E=>bd m λ q n m=>dB E H (wn z) z z z z z (b _ j) U70 tN n λ q13 a H E=>ldf lA E H z z z z z m0 U35 z tN λ a E=>bd m λ s o m=>bK E (wn z) z z (bN E z z z ((cf_ 269) _)) (Qg H o)<|?_
    rintro _ w ⟨rfl,H⟩ a E
    refine nt<|wif E m z (λ m=>?_) λ m=>?_
    ·refine sq<|pn 2 E z λ a E=>wR<|bD<|aG<|aG<|bD<|aG<|o1 E z<|?_
     cases m
     exact ⟨z,H.reads (Y1 b)⟩
    ·exact wK<|bP<|aA<|wG<|pn 2 E z λ a E=>⟨c,nL c,_,_,E.to z,H,(Y1 b),m⟩
   ·refine wX<|aT<|aT<|cL<|aA<|sq<|pn 1 E z λ a E=>wR<|o1 E z<|?_
    cases m
    exact ⟨z,H.reads b⟩

def u9(x1:aV)(c:Int)(d:Int):Option Int:=
  (iL x1.Watches c d).bind λ b=>some (b)
theorem Ii{x1:aV}{c g:VL}{d e:Int}(H:Sep w (Fo) rs)(f:rSl aP c x1.Watches ∈ rs){r:Int}(m:u9 x1 d e=some r) :
    Cf 194 [.agg #[c,g],.int .i64 d,.int .i64 e] w λ v w'=>.int .i64 r=v/\Sep w' (Fo) (rs):=by
 unfold u9 at m
 refine ent func194 z ntmps194 z z λ a E=>sq<|bx E H z λ k w a H E=>bx E H z λ l w a H E=>bx E H z λ i w a H E=>pr 1 E z λ a E=>xp 1 E z λ a E=>lb2 E H 2 U70 z λ a E=>sv2 E z (nT E z z z) λ a E=>have H:=H.frs [2,1,2] z;bd m λ j b m=>xk2 E z (cf_ 268) (A5 H f b) λ w H a E=>pn 1 E z λ a E=>wR<|o1 E z<|have H:=H.drs [0,0,0];?_
 cases m
 exact ⟨z,H.reads Y0⟩

def yZ(x1:aV)(d:Int)(e:Int):Option Er:=
  (tL x1).bind λ c=>if (!c)=true then (some ((⟨[],[]⟩:aV),1)) else ((u9 x1 d e).bind λ b=>if (decide (b < 0))=true then (some (x1,62)) else ((ck (x1.Watches.length <= LIM)).bind λ f=>(ck (0 <= b/\b < x1.Watches.length/\IntKind.i64.wrap (b+1)=b+1)).bind λ g=>some ((⟨x1.Watches.eraseIdx b.toNat,x1.Sessions⟩:aV),0)))
theorem Gb{x1:aV}{e d:VL}{o p:Int}(H:Sep w (Fo) rs)(b:rSl aP e x1.Watches ∈ rs)(c:rSl aI d x1.Sessions ∈ rs){r:aV×Int}(m:yZ x1 o p=some r) :
    Cf 119 [.agg #[e,d],.int .i64 o,.int .i64 p] w λ v w'=>∃ q s,.tuple #[.agg #[q,s],.int .i64 r.2]=v/\Sep w' (Fo) (rSl aP q r.1.Watches::rSl aI s r.1.Sessions::rs):=by
 unfold yZ at m
 refine ent func119 z ntmps119 z z λ a E=>sq<|bx E H z λ A w a H E=>al2 E H z V1 λ B w a H E=>pn 1 E z λ a E=>wS<|sq<|ln 1 [e,d] E H U73 z gG λ a E=>bd m λ u j m=>xk2 E z (cf_ 192) (M6 H b c j) λ w H a E=>pn 1 E z λ a E=>wif E m z (λ m=>?_) λ m=>?_
 ·refine sq<|sv2 E z (cH E z (E.evs z) (v:=.agg #[nS,nS]) (by kernel_rfl)) λ a E=>ss 0 E H z gG z λ w H=>pn 1 E z λ a E=>wR<|aG<|zW E z (qH (i:=0) (us:=[nS,nS]) H z z z U73 z gG) (rvT z)<|have H:=H.nilSl aP;have H:=H.nilSl aI;have H:=H.drs [0,0];?_
  cases m
  exact ⟨_,_,z,H.rdx [1,0] z (λ r hr=>(t2 hr))⟩
 ·refine wK<|aA<|sq<|ln 1 [e,d] E H U73 z gG λ a E=>pr 2 E z λ a E=>bd m λ f k m=>xk2 E z (cf_ 194) (Ii H b k) λ w H a E=>pn 1 E z λ a E=>wS<|sq<|pn 2 E z λ a E=>wif E m z (λ m=>?_) λ m=>?_
  ·refine sq<|ln 1 [e,d] E H U73 z gG λ a E=>ss 0 E H z gG (kJ H b c) λ w H=>pn 1 E z λ a E=>wR<|aG<|zW E z (qH (i:=0) (us:=[e,d]) H z z z U73 z gG) (rvT z)<|have H:=H.drs [0,0];?_
   cases m
   exact ⟨_,_,z,H.reads (aD b (aD c (λ r hr=>hr)))⟩
  ·refine wK<|aA<|sp 1 E z λ a E=>lb2 E H 1 U70 z λ a E=>bk m λ l m=>xc2 E z (cf_ 74) (eX H b l) λ x w H a E=>pr 3 E z λ a E=>bk m λ n m=>xc2 E z (cf_ 198) (Wa.delete_c (ix:=0) H z n) λ y w H a E=>pr 1 E z λ a E=>?_
   obtain ⟨q20,g,rfl⟩:=H.rowform (i:=0) z
   refine ss 2 E H z Yr z λ w H=>nx<|ln 2 [(.slice q20 (x1.Watches.eraseIdx f.toNat).length g),d] E H U73 z gG λ a E=>?_
   obtain ⟨q22,t,rfl⟩:=H.slform c
   refine ss 1 E H z gG z λ w H=>pn 1 E z λ a E=>wR<|zW E z (qH (i:=1) (us:=[(.slice q20 (x1.Watches.eraseIdx f.toNat).length g),(.slice q22 x1.Sessions.length t)]) H z z z U73 z gG) (rvT z)<|have H:=H.thaw (i:=0) z;have H:=H.drs [0,0];?_
   cases m
   exact ⟨_,_,z,H.reads (aD m0 (aD (t1 c) (λ r hr=>(t1 hr))))⟩

def sZ(c:List aO)(d:List aE)(e:Int)(f:fQ)(g:eD):Option Jl:=
  (lV c d (⟨f,g⟩:aV) ([]:List bU) e).bind λ b=>some (b.1,b.2.1,b.2.2)
def sC(c:List aO)(d:List aE)(x20:aK):Option Jl:=
  (yZ (⟨c,d⟩:aV) x20.Watch.Session x20.Watch.Num).bind λ b=>sZ c d b.2 b.1.Watches b.1.Sessions
theorem Dx{f:Nat}{c d C D F G g i j k l n o:VL}{p:List aO}{q:List aE}{x20:aK}(H:Sep w (Blk f 87 [g,i,j,k,c,d,l,n,o]::Fo) rs)(s:rSl aP c p ∈ rs)(t:rSl aI d q ∈ rs){r:aX×fQ×eD}(m:sC p q x20=some r) :
    Cf 50 [pt f 0,.agg (aM x20 C D F G).toArray] w λ v w'=>∃ Q R S T U V X L,.agg (aW r.1 Q R S T U V).toArray=v/\Sep w' (Blk f 87 [g,i,j,k,X,L,l,n,o]::Fo) (rSl aZ Q r.1.Results::rSl aB R r.1.Store.Nodes::rSl aC S r.1.Store.Turns::rSl aS T r.1.Events::rSl bI U r.1.Mounts::rSl (kI .i64) V r.1.Wounded::rSl aP X r.2.1::rSl aI L r.2.2::rs):=by
 unfold sC at m
 refine ent func50 z ntmps50 z z λ a E=>sq<|bx E H z λ e w a H E=>al2 E H z lQ λ M w a H E=>nt<|aJ (λ a w=>∃ I x y J A B b,Env 25 a [(0,pt f 0),(4,pt M 0),(5,pt I 0),(6,.int .i64 J)]/\Sep w (Blk f 87 [g,i,j,k,c,d,l,n,o]::Blk M 48 bJ::Blk I 73 [x,y]::Fo) b/\(∀ r,r ∈ rs->r ∈ b)/\rSl aP x A ∈ b/\rSl aI y B ∈ b/\sZ p q J A B=some r) ?_ ?_
 ·refine bd m λ b5 K m=>?_
  have hI:dI [Blk e 37 (aM x20 C D F G),Blk f 87 [g,i,j,k,c,d,l,n,o]] [] { w with drawn:=w.drawn+1 }:=⟨_,_,H.kept (Kp.drawn _ w _),(aU mm1 (aU mm2 (bH))),(bO)⟩
  refine oN _ (.go 0 0 (.go 1 0 (.go 2 0 (.go 3 0 (.go 4 0 (.go 5 0 (.go 6 0 (.go 7 0 (.go 8 0 (.go 9 0 (.alt 10 (.go 11 0 (.go 12 0 (.go 13 0 (.go 14 1 (.go 15 1 (.go 16 2 .nil)))))) 14 (.go 10 1 (.go 11 0 (.go 12 0 (.go 13 0 (.go 15 1 (.go 16 2 .nil))))))))))))))))) [16] pI (by kernel_rfl) (λ _ _ _ h=>False.elim h.2) hI<|have H:=H.kept (Kp.drawn _ w (w.drawn+1));?_
  generalize ({ w with drawn:=w.drawn+1 }:WD)=w at H hI ⊢
  replace hI:∃ W,dI [Blk e 37 (aM x20 C D F G),Blk f 87 [g,i,j,k,c,d,l,n,o]] [] W:=⟨_,hI⟩
  obtain ⟨W0,hI⟩:=hI
  refine om E z λ a E=>ov E z (λ w hW=>(zB E z z)) λ a E=>ov E z (λ w hW=>mM E z z (v:=pt f 4) (Hr _ _)) λ a E=>ov E z (λ w hW=>sI E z z (P7 (us:=[c,d]) mm1 z U73 z gG w hW)) λ a E=>ov E z (λ w hW=>mM E z z (v:=pt e 12) (Jj _ _)) λ a E=>ov E z (λ w hW=>mM E z z (v:=pt e 12) (Oe _ _)) λ a E=>ol E m0 U2 z λ a E=>ov E z (λ w hW=>mM E z z (v:=pt e 12) (Jj _ _)) λ a E=>ov E z (λ w hW=>mM E z z (v:=pt e 13) (Uf _ _)) λ a E=>ol E m0 U2 z λ a E=>oO z z ?_ ?_
  ·refine xc2 E z (cf_ 119) (Gb (x1:=(⟨p,q⟩:aV)) H s t K)<|?_
   rintro _ w ⟨b6,b7,rfl,H⟩ a E
   refine nt<|⟨sx H [1,2] z,om E z λ a E=>ox E z λ a E=>ox E z λ a E=>cF z<|al2 E H z V1 λ b8 w a H E=>nt<|⟨sx H [2,3] z,cF z<|ss 0 E H z gG (kJ H m0 mm1) λ w H=>nt<|⟨sx H [2,3] z,cV z<|pn 1 E z λ a E=>fA<|?_⟩⟩⟩
   clear hI
   exact aA<|have H:=H.drop 2;have H:=H.frs [0,1,2] z;X7 ⟨E.to z,H,(Y2 Y0),m0,mm1,m⟩
  ·refine al2 E H z V1 λ b9 w a H E=>nt<|⟨sx H [2,3] z,cF z<|xc2 E z (cf_ 119) (Gb (x1:=(⟨p,q⟩:aV)) H s t K)<|?_⟩
   rintro _ w ⟨c0,c1,rfl,H⟩ a E
   refine nt<|⟨sx H [2,3] z,om E z λ a E=>ox E z λ a E=>ox E z λ a E=>cF z<|ss 0 E H z gG (kJ H m0 mm1) λ w H=>nt<|⟨sx H [2,3] z,cV z<|pn 1 E z λ a E=>fA<|?_⟩⟩
   clear hI
   exact aA<|have H:=H.drop 2;have H:=H.frs [0,1,2] z;X7 ⟨E.to z,H,(Y2 Y0),m0,mm1,m⟩
 ·clear E H m
  rintro a w ⟨I,x,y,J,A,B,b,E,H,u,N,O,m⟩
  unfold sZ at m
  refine sp 1 E z λ a E=>ln 2 [x,y] E H U73 z gG λ a E=>pr 1 E z λ a E=>have H:=H.nilSl aS;bd m λ Y P m=>xc2 E z (cf_ 118) (s9 (x20:=(⟨A,B⟩:aV)) H (t1 (u _ s)) (t1 (u _ t)) (t1 N) (t1 O) m0 P)<|?_
  rintro _ w ⟨Z,b0,b1,b2,b3,b4,c2,c3,rfl,H⟩ a E
  refine ss 1 E H z bV (bA H m0 mm1 mm2 mm3 mm4 mm5) λ w H=>nt<|wR<|oB 1 (aW Y.1 Z b0 b1 b2 b3 b4) E H U48 z bV<|have H:=H.drs [1,1];?_
  cases m
  exact X8 ⟨z,H.rdx [0,1,2,3,4,5,6] z (aD (t1 mm6) (λ r hr=>(t1 (t8 (u r hr)))))⟩

def mI(b:aX×fQ×eD)(c:pK):Option N4:=
  some (b.1,b.2.1,b.2.2,c)
def kA(b:aX×fQ×eD)(c:List lL)(x20:aK)(e:Bool):Option N4:=
  if e=true then ((mpt (kyI .i64) c x20.Id b.1).bind λ d=>mI b d) else (mI b c)
def qD(c:List lL)(x20:aK)(d:List aO)(e:List aE)(f:Bool):Option N4:=
  if f=true then ((dJ 2).bind λ g=>some (g,d,e,c)) else ((sC d e x20).bind λ b=>if (x20.Id != 0)=true then (if (b.1.Err != 131)=true then (kA b c x20 (b.1.Err != 132)) else (kA b c x20 false)) else (kA b c x20 false))
def tT(b:List lL)(x20:aK)(c:List aO)(d:List aE)(e:Bool)(f:Int)(g:Int)(i:Bool)(j:Int)(k:Q4)(l:eI)(m:dU)(n:zZ)(o:Jk)(p:(List Int)):Option N4:=
  if e=true then (some ((⟨f,g,i,j,k,(⟨l,m⟩:aR),n,o,p⟩:aX),c,d,b)) else (if (x20.Id != 0)=true then (qD b x20 c d ((b.length:Int) == 512)) else (qD b x20 c d false))
def pO(d:List aO)(e:List aE)(c:List lL)(x20:aK):Option N4:=
  (L3 (kyI .i64) c x20.Id vL).bind λ b=>tT c x20 d e b.2 b.1.Err b.1.At b.1.Yes b.1.Epoch b.1.Results b.1.Store.Nodes b.1.Store.Turns b.1.Events b.1.Mounts b.1.Wounded
theorem Fb{o e:Nat}{P Q J L M N p q s t u x:VL}{c0:List aO}{c1:List aE}{y:List lL}{x20:aK}(H:Sep w (Blk o 87 [p,q,s,t,P,Q,.map (some e),u,x]::bX Tryz.prog 2 (kyI .i64) bC true e y::Fo) rs)(b8:rSl aP P c0 ∈ rs)(b9:rSl aI Q c1 ∈ rs){r:aX×fQ×eD×pK}(m:pO c0 c1 y x20=some r) :
    Cf 54 [pt o 0,.agg (aM x20 J L M N).toArray,.func (.func 50) #[] #[]] w λ v w'=>∃ f9 g0 g1 g2 g3 g4 g5 f3,.agg (aW r.1 f9 g0 g1 g2 g3 g4).toArray=v/\Sep w' (Blk o 87 [p,q,s,t,g5,f3,.map (some e),u,x]::bX Tryz.prog 2 (kyI .i64) bC true e r.2.2.2::Fo) (rSl aZ f9 r.1.Results::rSl aB g0 r.1.Store.Nodes::rSl aC g1 r.1.Store.Turns::rSl aS g2 r.1.Events::rSl bI g3 r.1.Mounts::rSl (kI .i64) g4 r.1.Wounded::rSl aP g5 r.2.1::rSl aI f3 r.2.2.1::rs):=by
 unfold pO at m
 refine ent func54 z ntmps54 z z λ a E=>sq<|bx E H z λ k w a H E=>al2 E H z lQ λ A w a H E=>nt<|wS<|aJ (λ a w=>∃ c9 Y Z b0 b1 b2 b3 d0 b4 b5 b6 b7 d1 d2 d3 d4 d5 d6 f,Env 59 a [(0,pt o 0),(2,.func (.func 50) #[] #[]),(4,pt k 0),(6,pt A 0),(7,pt c9 0),(8,.bool d0)]/\Sep w (Blk o 87 [p,q,s,t,P,Q,.map (some e),u,x]::Blk k 37 (aM x20 J L M N)::Blk A 48 bJ::Blk c9 48 [.int .i64 b4,.int .i64 b5,.bool b6,.int .i64 b7,Y,Z,b0,b1,b2,b3]::bX Tryz.prog 2 (kyI .i64) bC true e y::Fo) f/\(∀ r,r ∈ rs->r ∈ f)/\rSl aZ Y d1 ∈ f/\rSl aB Z d2 ∈ f/\rSl aC b0 d3 ∈ f/\rSl aS b1 d4 ∈ f/\rSl bI b2 d5 ∈ f/\rSl (kI .i64) b3 d6 ∈ f/\tT y x20 c0 c1 d0 b4 b5 b6 b7 d1 d2 d3 d4 d5 d6=some r) ?_ ?_
 ·refine bd m λ i3 c2 m=>?_
  have hI:dI [Blk k 37 (aM x20 J L M N),Blk o 87 [p,q,s,t,P,Q,.map (some e),u,x]] [] { w with drawn:=w.drawn+1 }:=⟨_,_,H.kept (Kp.drawn _ w _),(aU mm1 (aU mm2 (bH))),(bO)⟩
  refine oN _ (.go 0 0 (.go 1 0 (.go 2 0 (.go 3 0 (.go 4 0 (.go 5 0 (.alt 6 (.go 7 0 (.go 8 0 (.go 9 0 (.go 10 1 (.go 11 1 (.go 12 2 .nil)))))) 10 (.go 6 1 (.go 7 0 (.go 8 0 (.go 9 0 (.go 11 1 (.go 12 2 .nil))))))))))))) [12] pI (by kernel_rfl) (λ _ _ _ h=>False.elim h.2) hI<|have H:=H.kept (Kp.drawn _ w (w.drawn+1));?_
  generalize ({ w with drawn:=w.drawn+1 }:WD)=w at H hI ⊢
  replace hI:∃ W,dI [Blk k 37 (aM x20 J L M N),Blk o 87 [p,q,s,t,P,Q,.map (some e),u,x]] [] W:=⟨_,hI⟩
  obtain ⟨W0,hI⟩:=hI
  refine om E z λ a E=>ov E z (λ w hW=>(zB E z z)) λ a E=>ov E z (λ w hW=>mM E z z (v:=pt o 6) (Hq _ _)) λ a E=>ol E mm1 U84 z λ a E=>ov E z (λ w hW=>mM E z z (v:=pt k 1) (Hp _ _)) λ a E=>ol E m0 U2 z λ a E=>oO z z ?_ ?_
  ·refine sL (i:=3) (K:=(kyI .i64)) E H (wn z) z z z z z z (gA U2) U84 Q3 Az c2 λ i4 a H E=>?_
   obtain ⟨i5,i6,i7,i8,i9,j0,rfl,h⟩:=oP H;clear H;have H:=h
   refine nt<|⟨sx H [1,2] z,om E z λ a E=>ox E z λ a E=>ox E z λ a E=>cF z<|al2 E H z lQ λ j1 w a H E=>nt<|⟨sx H [2,3] z,cF z<|ss 0 E H z bV (bA H mm5 mm4 mm3 mm2 mm1 m0) λ w H=>nt<|⟨sx H [2,3] z,cV z<|pn 1 E z λ a E=>fA<|?_⟩⟩⟩
   clear hI
   exact aA<|have H:=H.frs [4,1,2,3,4] z;X19 ⟨E.to z,H,(Y7 Y0),mm5,mm4,mm3,mm2,mm1,m0,m⟩
  ·refine al2 E H z lQ λ j2 w a H E=>nt<|⟨sx H [2,3] z,cF z<|sL (i:=4) (K:=(kyI .i64)) E H (wn z) z z z z z z (gA U2) U84 Q3 Az c2 λ j3 a H E=>?_⟩
   obtain ⟨j4,j5,j6,j7,j8,j9,rfl,h⟩:=oP H;clear H;have H:=h
   refine nt<|⟨sx H [2,3] z,om E z λ a E=>ox E z λ a E=>ox E z λ a E=>cF z<|ss 0 E H z bV (bA H mm5 mm4 mm3 mm2 mm1 m0) λ w H=>nt<|⟨sx H [2,3] z,cV z<|pn 1 E z λ a E=>fA<|?_⟩⟩
   clear hI
   exact aA<|have H:=H.frs [4,1,2,3,4] z;X19 ⟨E.to z,H,(Y7 Y0),mm5,mm4,mm3,mm2,mm1,m0,m⟩
 ·clear E H m
  rintro a w ⟨c9,Y,Z,b0,b1,b2,b3,d0,b4,b5,b6,b7,d1,d2,d3,d4,d5,d6,f,E,H,O,d7,d8,d9,e0,e1,e2,m⟩
  unfold tT at m
  refine sq<|pn 1 E z λ a E=>wif E m z (λ m=>?_) λ m=>?_
  ·refine sq<|ln 3 [.int .i64 b4,.int .i64 b5,.bool b6,.int .i64 b7,Y,Z,b0,b1,b2,b3] E H U48 z bV λ a E=>ss 2 E H z bV (bA H d7 d8 d9 e0 e1 e2) λ w H=>nt<|wR<|aG<|oB 2 [.int .i64 b4,.int .i64 b5,.bool b6,.int .i64 b7,Y,Z,b0,b1,b2,b3] E H U48 z bV<|have H:=H.drs [1,1,1];?_
   cases m
   exact X8 ⟨z,H.reads (aD d7 (aD d8 (aD d9 (aD e0 (aD e1 (aD e2 (aD (O _ b8) (aD (O _ b9) (O)))))))))⟩
  ·refine wK<|aA<|wS<|aJ (λ a w=>∃ e3,Jn 59 a w [(0,pt o 0),(2,.func (.func 50) #[] #[]),(4,pt k 0),(6,pt A 0),(32,.bool e3)] (Blk o 87 [p,q,s,t,P,Q,.map (some e),u,x]::Blk k 37 (aM x20 J L M N)::Blk A 48 bJ::bX Tryz.prog 2 (kyI .i64) bC true e y::Fo) rs (qD y x20 c0 c1 e3=some r)) ?_ ?_
   ·refine wG<|pr 1 E z λ a E=>lb2 E H 1 U2 z λ a E=>pr 2 E z λ a E=>cs m (λ j m=>?_) λ j m=>?_
    ·exact pk 3 E (kc 25 z j) z λ a E=>gl 25 E H 0 j U84 z λ a E=>gv 25 E j z (X2 (i:=4) E H z z z U84) λ a E=>pk 2 E (kc 25 z j) z λ a E=>nt<|have H:=H.drop 3;⟨_,_,E.to z,H,O,m⟩
    ·exact pk 7 E (kc 25 z j) z λ a E=>nt<|have H:=H.drop 3;⟨_,_,E.to z,H,O,m⟩
   ·clear E H m
    rintro a w ⟨e3,k0,E,H,g,m⟩
    unfold qD at m
    refine wif E m z (λ m=>?_) λ m=>?_
    ·refine sq<|bd m λ g6 f4 m=>xc2 E z (cf_ 53) (fB H f4)<|?_
     rintro _ w ⟨g7,g8,g9,i0,i1,i2,rfl,H⟩ a E
     refine ss 2 E H z bV (bA H m0 mm1 mm2 mm3 mm4 mm5) λ w H=>nt<|wR<|aG<|oB 2 (aW g6 g7 g8 g9 i0 i1 i2) E H U48 z bV<|have H:=H.drs [1,1];?_
     cases m
     exact X8 ⟨z,H.rdx [0,1,2,3,4,5] z (aD (t6 (g _ b8)) (aD (t6 (g _ b9)) (λ r hr=>(t6 (g r hr)))))⟩
    ·refine wK<|aA<|sp 2 E z λ a E=>ln 1 (aM x20 J L M N) E H U37 z z7 λ a E=>bd m λ b f5 m=>bK E (wn z) z z (bN E z z z ((cf_ 50) _)) (Dx H (g _ b8) (g _ b9) f5)<|?_
     rintro _ w ⟨B,C,D,F,G,I,c3,c4,rfl,H⟩ a E
     refine al2 E H z lQ λ c5 w a H E=>ss 0 E H z bV (bA H m0 mm1 mm2 mm3 mm4 mm5) λ w H=>nt<|aJ (λ a w=>∃ e4 d,Env 59 a [(6,pt A 0),(9,pt c5 0)]/\Sep w (Blk A 48 bJ::Blk c5 48 (aW b.1 B C D F G I)::Blk o 87 [p,q,s,t,c3,c4,.map (some e),u,x]::bX Tryz.prog 2 (kyI .i64) bC true e e4::Fo) d/\(∀ r,r ∈ rs->r ∈ d)/\rSl aZ B b.1.Results ∈ d/\rSl aB C b.1.Store.Nodes ∈ d/\rSl aC D b.1.Store.Turns ∈ d/\rSl aS F b.1.Events ∈ d/\rSl bI G b.1.Mounts ∈ d/\rSl (kI .i64) I b.1.Wounded ∈ d/\rSl aP c3 b.2.1 ∈ d/\rSl aI c4 b.2.2 ∈ d/\mI b e4=some r) ?_ ?_
     ·refine aJ (λ a w=>∃ e5 c,Env 59 a [(0,pt o 0),(4,pt k 0),(6,pt A 0),(9,pt c5 0),(50,.bool e5)]/\Sep w (Blk o 87 [p,q,s,t,c3,c4,.map (some e),u,x]::Blk k 37 (aM x20 J L M N)::Blk A 48 bJ::Blk c5 48 (aW b.1 B C D F G I)::bX Tryz.prog 2 (kyI .i64) bC true e y::Fo) c/\(∀ r,r ∈ rs->r ∈ c)/\rSl aP c3 b.2.1 ∈ c/\rSl aI c4 b.2.2 ∈ c/\rSl aZ B b.1.Results ∈ c/\rSl aB C b.1.Store.Nodes ∈ c/\rSl aC D b.1.Store.Turns ∈ c/\rSl aS F b.1.Events ∈ c/\rSl bI G b.1.Mounts ∈ c/\rSl (kI .i64) I b.1.Wounded ∈ c/\kA b y x20 e5=some r) ?_ ?_
      ·refine wG<|pr 1 E z λ a E=>lb2 E H 2 U2 z λ a E=>pr 2 E z λ a E=>cs m (λ l m=>?_) λ l m=>?_
       ·refine pk 1 E (kc 41 z l) z λ a E=>gl 41 E H 0 l U41 z λ a E=>pk 3 E (kc 41 z l) z λ a E=>cs m (λ n m=>?_) λ n m=>?_
        ·exact pk 1 E (kc 46 z n) z λ a E=>gl 46 E H 0 n U41 z λ a E=>pk 2 E (kc 46 z n) z λ a E=>nt<|have H:=H.frs [4,1,4,4,4] z;⟨_,_,E.to z,H,(Y8 g),mm6,(t1 mm6),m0,mm1,mm2,mm3,mm4,mm5,m⟩
        ·exact pk 4 E (kc 46 z n) z λ a E=>nt<|have H:=H.frs [4,1,4,4,4] z;⟨_,_,E.to z,H,(Y8 g),mm6,(t1 mm6),m0,mm1,mm2,mm3,mm4,mm5,m⟩
       ·exact pk 9 E (kc 41 z l) z λ a E=>nt<|have H:=H.frs [4,1,4,4,4] z;⟨_,_,E.to z,H,(Y8 g),mm6,(t1 mm6),m0,mm1,mm2,mm3,mm4,mm5,m⟩
      ·clear E H m
       rintro a w ⟨e5,c,E,H,c6,c7,c8,R,S,T,U,V,X,m⟩
       unfold kA at m
       refine wif E m z (λ m=>?_) λ m=>?_
       ·refine dz [0,0,0,0,0,0,0,2] [0,1,3] H λ w W0 hI H=>fn 3 E z λ a E=>fb2 E m0 U84 z λ a E=>fn 1 E z λ a E=>fb2 E mm1 U2 z λ a E=>fbn E (aW b.1 B C D F G I) z (wn z) z z z z mm2 z U48 z bV λ a E=>bL z<|bd m λ k1 f2 m=>T8 (i:=4) (K:=(kyI .i64)) (v:=b.1) (cs:=[.int .i64 b.1.Err,.int .i64 b.1.At,.bool b.1.Yes,.int .i64 b.1.Epoch,B,C,D,F,G,I]) E H (wn z) z z z z z z (gA U2) U84 f2 (λ ok hr=>(sO (hr _ R) (hr _ S) (hr _ T) (hr _ U) (hr _ V) (hr _ X))) λ w H=>nt<|bB<|?_
        clear hI
        exact aA<|have H:=H.drop 1;have H:=H.frs [3,1,3,3] z;⟨_,_,E.to z,H,c6,R,S,T,U,V,X,c7,c8,m⟩
       ·exact wK<|aA<|have H:=H.drop 1;have H:=H.frs [3,1,3,3] z;⟨_,_,E.to z,H,c6,R,S,T,U,V,X,c7,c8,m⟩
     ·clear E H m
      rintro a w ⟨e4,d,E,H,f6,e6,e7,e8,e9,f0,f1,f7,f8,m⟩
      unfold mI at m
      refine sq<|ln 1 (aW b.1 B C D F G I) E H U48 z bV λ a E=>ss 0 E H z bV (bA H e6 e7 e8 e9 f0 f1) λ w H=>nt<|wR<|oB 0 (aW b.1 B C D F G I) E H U48 z bV<|have H:=H.drs [0,0];?_
      cases m
      exact X8 ⟨z,H.reads (aD e6 (aD e7 (aD e8 (aD e9 (aD f0 (aD f1 (aD f7 (aD f8 (f6)))))))))⟩

def K4(b:eD)(c:fQ):Option Er:=
  some ((⟨c,b⟩:aV),0)
def v8(x1:aV)(b:aO)(c:eD):Option Er:=
  (ck (x1.Watches.length <= LIM)).bind λ d=>(ck (x1.Watches.length+([b]:List aO).length <= LIM)).bind λ e=>K4 c (x1.Watches ++ ([b]:List aO))
def w3(x1:aV)(c:aO)(d:Bool):Option Er:=
  if d=true then (some ((⟨[],[]⟩:aV),1)) else ((u9 x1 c.Session c.Num).bind λ e=>if (decide (e ≥ 0))=true then (some (x1,61)) else (if ((x1.Watches.length:Int) == 64)=true then (some (x1,2)) else ((cW x1.Sessions c.Session).bind λ b=>if (!b.2)=true then ((ck (x1.Sessions.length <= LIM)).bind λ f=>(ck (0 <= b.1/\b.1 <= x1.Sessions.length/\x1.Sessions.length <= 1000000)).bind λ g=>v8 x1 c (x1.Sessions.take b.1.toNat ++ (⟨c.Session,0,[]⟩:aE)::x1.Sessions.drop b.1.toNat)) else (v8 x1 c x1.Sessions))))
def D4(x1:aV)(c:aO):Option Er:=
  (tL x1).bind λ b=>if (!b)=true then (w3 x1 c (!b)) else ((yY c).bind λ d=>w3 x1 c (!d))
theorem Lg{x1:aV}{f n:VL}{b:aO}(H:Sep w (Fo) rs)(g:rSl aP f x1.Watches ∈ rs)(j:rSl aI n x1.Sessions ∈ rs){r:aV×Int}(m:D4 x1 b=some r) :
    Cf 117 [.agg #[f,n],.agg (dP b).toArray] w λ v w'=>∃ P Q,.tuple #[.agg #[P,Q],.int .i64 r.2]=v/\Sep w' (Fo) (rSl aP P r.1.Watches::rSl aI Q r.1.Sessions::rs):=by
 unfold D4 at m
 refine ent func117 z ntmps117 z z λ a E=>sq<|bx E H z λ l w a H E=>bx E H z λ p w a H E=>al2 E H z V1 λ A w a H E=>pn 1 E z λ a E=>wS<|wB<|aJ (λ a w=>∃ B,Jn 59 a w [(2,pt l 0),(3,pt p 0),(4,pt A 0),(8,.bool B)] (Blk l 73 [f,n]::Blk p 35 (dP b)::Blk A 73 [nS,nS]::Fo) rs (w3 x1 b B=some r)) ?_ ?_
 ·refine sq<|ln 2 [f,n] E H U73 z gG λ a E=>bd m λ T K m=>xk2 E z (cf_ 192) (M6 H g j K) λ w H a E=>pn 2 E z λ a E=>wif E m z (λ m=>?_) λ m=>?_
  ·exact wK<|aA<|have H:=H.frs [0,1,2] z;⟨_,_,E.to z,H,Y0,m⟩
  ·exact wG<|ln 1 (dP b) E H U35 z tN λ a E=>bd m λ U L m=>xk2 E z (cf_ 193) (Ga H L) λ w H a E=>pn 2 E z λ a E=>have H:=H.frs [0,1,2] z;⟨_,_,E.to z,H,Y0,m⟩
 ·clear E H m
  rintro a w ⟨B,V,E,H,c,m⟩
  unfold w3 at m
  refine wif E m z (λ m=>?_) λ m=>?_
  ·refine sq<|sv2 E z (cH E z (E.evs z) (v:=.agg #[nS,nS]) (by kernel_rfl)) λ a E=>ss 2 E H z gG z λ w H=>pn 1 E z λ a E=>wR<|bD<|aG<|zW E z (qH (i:=2) (us:=[nS,nS]) H z z z U73 z gG) (rvT z)<|have H:=H.nilSl aP;have H:=H.nilSl aI;have H:=H.drs [0,0,0];?_
   cases m
   exact ⟨_,_,z,H.rdx [1,0] z (λ r hr=>(t2 (c r hr)))⟩
  ·refine sq<|ln 0 [f,n] E H U73 z gG λ a E=>pr 1 E z λ a E=>lb2 E H 1 U2 z λ a E=>pr 1 E z λ a E=>lb2 E H 1 U2 z λ a E=>bd m λ Z M m=>xk2 E z (cf_ 194) (Ii H (c _ g) M) λ w H a E=>pr 2 E z λ a E=>nt<|wif E m z (λ m=>?_) λ m=>?_
   ·refine sq<|ln 0 [f,n] E H U73 z gG λ a E=>Nc (i:=2) E H (wn z) z z z z z z gG z (kJ H (c _ g) (c _ j)) λ w H=>pn 1 E z λ a E=>wR<|bD<|aG<|zW E z (qH (i:=2) (us:=[f,n]) H z z z U73 z gG) (rvT z)<|have H:=H.drs [0,0,0];?_
    cases m
    exact ⟨_,_,z,H.reads (aD (c _ g) (aD (c _ j) (c)))⟩
   ·refine sp 1 E z λ a E=>lb2 E H 0 U70 z λ a E=>lS E H (c _ g) U70 z λ a E=>pn 2 E z λ a E=>wif E m z (λ m=>?_) λ m=>?_
    ·refine sq<|ln 0 [f,n] E H U73 z gG λ a E=>Nc (i:=2) E H (wn z) z z z z z z gG z (kJ H (c _ g) (c _ j)) λ w H=>pn 1 E z λ a E=>wR<|bD<|aG<|zW E z (qH (i:=2) (us:=[f,n]) H z z z U73 z gG) (rvT z)<|have H:=H.drs [0,0,0];?_
     cases m
     exact ⟨_,_,z,H.reads (aD (c _ g) (aD (c _ j) (c)))⟩
    ·refine wK<|bP<|aA<|aJ (λ a w=>∃ k o q,Env 59 a [(2,pt l 0),(3,pt p 0),(4,pt A 0)]/\Sep w (Blk l 73 [f,k]::Blk p 35 (dP b)::Blk A 73 [nS,nS]::Fo) q/\(∀ r,r ∈ rs->r ∈ q)/\rSl aI k o ∈ q/\v8 x1 b o=some r) ?_ ?_
     ·refine sp 1 E z λ a E=>lb2 E H 0 U71 z λ a E=>pr 1 E z λ a E=>lb2 E H 1 U2 z λ a E=>bd m λ b0 N m=>xk2 E z (cf_ 195) (lZ H (c _ j) N) λ w H a E=>pr 5 E z λ a E=>nx<|pn 2 E z λ a E=>wif E m z (λ m=>?_) λ m=>?_
      ·refine bk m λ C m=>bk m λ D m=>?_
       have hI:dI [Blk l 73 [f,n],Blk p 35 (dP b)] [] { w with drawn:=w.drawn+1 }:=⟨_,_,H.kept (Kp.drawn _ w _),(aU m0 (aU mm1 (bH))),(bO)⟩
       refine oN _ (.go 0 0 (.go 1 0 (.go 3 0 (.go 4 0 (.go 5 0 (.go 6 0 (.alt 2 (.go 7 1 (.go 8 1 (.go 9 2 (.go 10 2 .nil)))) 7 (.go 2 1 (.go 8 1 (.go 9 2 (.go 10 2 .nil))))))))))) [9,10] pI (by kernel_rfl) (λ _ _ _ h=>False.elim h.2) hI<|have H:=H.kept (Kp.drawn _ w (w.drawn+1));?_
       generalize ({ w with drawn:=w.drawn+1 }:WD)=w at H hI ⊢
       replace hI:∃ W,dI [Blk l 73 [f,n],Blk p 35 (dP b)] [] W:=⟨_,hI⟩
       obtain ⟨W0,hI⟩:=hI
       refine ov E z (λ w hW=>mM E z z (v:=pt l 1) (Ui _ _)) λ a E=>ol E m0 U71 z λ a E=>om E z λ a E=>ov E z (λ w hW=>mM E z z (v:=pt p 0) (Oe _ _)) λ a E=>ol E mm1 U2 z λ a E=>ov E z (λ w hW=>(cH E z (E.evs z) (v:=.agg #[.int .i64 b.Session,.int .i64 0,nS]) (by kernel_rfl))) λ a E=>oO z z ?_ ?_
       ·refine xc2 E z (cf_ 75) (dL H (c _ j) C) λ b1 w H a E=>nt<|⟨sx H [1,2] z,cF z<|kG (e:=126) (d:=aI) (cs:=[.int .i64 b.Session,.int .i64 0,nS]) (xs:=[(⟨b.Session,0,[]⟩:aE)]) E H (wn z) z z z (E.evs z) (by kernel_rfl) z z (λ ok hr=>(Rows.single (d:=aI) (cs:=[.int .i64 b.Session,.int .i64 0,nS]) (x:=(⟨b.Session,0,[]⟩:aE)) (mO (Sl.nil _ _ _)))) λ b2 w a H E=>nt<|⟨sx H [2,3] z,cF z<|xc2 E z (cf_ 197) (Se.insert_a (ix:=1) (iu:=0) H z z (by decide) D) λ b3 w H a E=>nt<|⟨sx H [2,3] z,cV z<|pn 1 E z λ a E=>cV z<|?_⟩⟩⟩
        obtain ⟨q92,b4,rfl⟩:=H.rowform (i:=1) z
        refine ss 2 E H z Uj z λ w H=>nt<|fA<|?_
        clear hI
        exact aA<|have H:=H.thaw (i:=1) z;have H:=H.drop 0;X3 ⟨E.to z,H,(Y1 c),m0,m⟩
       ·refine kG (e:=126) (d:=aI) (cs:=[.int .i64 b.Session,.int .i64 0,nS]) (xs:=[(⟨b.Session,0,[]⟩:aE)]) E H (wn z) z z z (E.evs z) (by kernel_rfl) z z (λ ok hr=>(Rows.single (d:=aI) (cs:=[.int .i64 b.Session,.int .i64 0,nS]) (x:=(⟨b.Session,0,[]⟩:aE)) (mO (Sl.nil _ _ _)))) λ b5 w a H E=>nt<|⟨sx H [1,2] z,cF z<|xc2 E z (cf_ 75) (dL H (c _ j) C) λ b6 w H a E=>nt<|⟨sx H [2,3] z,cF z<|xc2 E z (cf_ 197) (Se.insert_a (ix:=0) (iu:=1) H z z (by decide) D) λ X w H a E=>nt<|⟨sx H [2,3] z,cV z<|pn 1 E z λ a E=>cV z<|?_⟩⟩⟩
        obtain ⟨q101,Y,rfl⟩:=H.rowform (i:=0) z
        refine ss 2 E H z Uj z λ w H=>nt<|fA<|?_
        clear hI
        exact aA<|have H:=H.thaw (i:=0) z;have H:=H.drop 0;X3 ⟨E.to z,H,(Y1 c),m0,m⟩
      ·exact wK<|aA<|X3 ⟨E.to z,H,c,(c _ j),m⟩
     ·clear E H m
      rintro a w ⟨k,o,q,E,H,s,F,m⟩
      unfold v8 at m
      refine aJ (λ a w=>∃ u y t,Env 59 a [(2,pt l 0),(4,pt A 0)]/\Sep w (Blk l 73 [u,k]::Blk A 73 [nS,nS]::Row 35 aP u y::Fo) t/\(∀ r,r ∈ rs->r ∈ t)/\rSl aI k o ∈ t/\K4 o y=some r) ?_ ?_
      ·refine bk m λ G m=>bk m λ I m=>?_
       have hI:dI [Blk l 73 [f,k],Blk p 35 (dP b)] [] { w with drawn:=w.drawn+1 }:=⟨_,_,H.kept (Kp.drawn _ w _),(aU m0 (aU mm1 (bH))),(bO)⟩
       refine oN _ (.go 0 0 (.go 1 0 (.go 3 0 (.alt 2 (.go 4 1 (.go 5 1 (.go 6 2 (.go 7 2 .nil)))) 4 (.go 2 1 (.go 5 1 (.go 6 2 (.go 7 2 .nil)))))))) [6,7] pI (by kernel_rfl) (λ _ _ _ h=>False.elim h.2) hI<|have H:=H.kept (Kp.drawn _ w (w.drawn+1));?_
       generalize ({ w with drawn:=w.drawn+1 }:WD)=w at H hI ⊢
       replace hI:∃ W,dI [Blk l 73 [f,k],Blk p 35 (dP b)] [] W:=⟨_,hI⟩
       obtain ⟨W0,hI⟩:=hI
       refine ov E z (λ w hW=>mM E z z (v:=pt l 0) (Ug _ _)) λ a E=>ol E m0 U70 z λ a E=>ov E z (λ w hW=>sI E z z (P7 (us:=(dP b)) mm1 z U35 z tN w hW)) λ a E=>oO z z ?_ ?_
       ·refine xc2 E z (cf_ 74) (eX H (s _ g) G) λ b7 w H a E=>nt<|⟨sx H [1,2] z,cF z<|xA (e:=35) (d:=aP) (cs:=[.int .i64 b.Session,.int .i64 b.Num,.string b.Path,.bool b.Deep]) (xs:=[b]) E H (wn z) z z z (E.evs z) (by kernel_rfl) z (λ ok hr=>(Rows.single (d:=aP) (cs:=[.int .i64 b.Session,.int .i64 b.Num,.string b.Path,.bool b.Deep]) (x:=b) U6)) λ b8 w a H E=>nt<|⟨sx H [1,2] z,cF z<|fE (i:=0) E H (wn z) z z z z z z (nU m0) U70 Yq z I z λ b9 w a H E=>nt<|⟨sx H [1,2] z,cV z<|pn 1 E z λ a E=>cV z<|?_⟩⟩⟩
        obtain ⟨q54,c0,rfl⟩:=H.rowform (i:=0) z
        refine ss 1 E H z Yr z λ w H=>nt<|fA<|?_
        clear hI
        exact aA<|have H:=H.drop 2;have H:=H.frs [0,2,2] z;X3 ⟨E.to z,H,(Y1 s),(t1 F),m⟩
       ·refine xA (e:=35) (d:=aP) (cs:=[.int .i64 b.Session,.int .i64 b.Num,.string b.Path,.bool b.Deep]) (xs:=[b]) E H (wn z) z z z (E.evs z) (by kernel_rfl) z (λ ok hr=>(Rows.single (d:=aP) (cs:=[.int .i64 b.Session,.int .i64 b.Num,.string b.Path,.bool b.Deep]) (x:=b) U6)) λ c1 w a H E=>nt<|⟨sx H [0,1] z,cF z<|xc2 E z (cf_ 74) (eX H (t1 (s _ g)) G) λ c2 w H a E=>nt<|⟨sx H [1,2] z,cF z<|fE (i:=0) E H (wn z) z z z z z z (nU m0) U70 Yq z I z λ c3 w a H E=>nt<|⟨sx H [1,2] z,cV z<|pn 1 E z λ a E=>cV z<|?_⟩⟩⟩
        obtain ⟨q63,c4,rfl⟩:=H.rowform (i:=0) z
        refine ss 1 E H z Yr z λ w H=>nt<|fA<|?_
        clear hI
        exact aA<|have H:=H.drop 2;have H:=H.frs [0,2,2] z;X3 ⟨E.to z,H,(Y1 s),(t1 F),m⟩
      ·clear E H m
       rintro a w ⟨u,y,t,E,H,O,J,m⟩
       unfold K4 at m
       refine sq<|ln 0 [u,k] E H U73 z gG λ a E=>?_
       obtain ⟨q25,R,rfl⟩:=H.rowform (i:=2) z
       obtain ⟨q27,S,rfl⟩:=H.slform J
       refine ss 1 E H z gG z λ w H=>pn 1 E z λ a E=>wR<|zW E z (qH (i:=1) (us:=[(.slice q25 y.length R),(.slice q27 o.length S)]) H z z z U73 z gG) (rvT z)<|have H:=H.thaw (i:=2) z;have H:=H.drs [0,0];?_
       cases m
       exact ⟨_,_,z,H.reads (aD m0 (aD (t1 J) (λ r hr=>(t1 (O r hr)))))⟩

def vG(c:List aO)(d:List aE)(e:Int)(f:fQ)(g:eD):Option Jl:=
  (lV c d (⟨f,g⟩:aV) ([]:List bU) e).bind λ b=>some (b.1,b.2.1,b.2.2)
def uE(c:List aO)(d:List aE)(x20:aK):Option Jl:=
  (D4 (⟨c,d⟩:aV) x20.Watch).bind λ b=>vG c d b.2 b.1.Watches b.1.Sessions
theorem Gn{e:Nat}{c d B C D F f g i j k l n:VL}{o:List aO}{p:List aE}{x20:aK}(H:Sep w (Blk e 87 [f,g,i,j,c,d,k,l,n]::Fo) rs)(q:rSl aP c o ∈ rs)(s:rSl aI d p ∈ rs){r:aX×fQ×eD}(m:uE o p x20=some r) :
    Cf 49 [pt e 0,.agg (aM x20 B C D F).toArray] w λ v w'=>∃ Q R S T U V X L,.agg (aW r.1 Q R S T U V).toArray=v/\Sep w' (Blk e 87 [f,g,i,j,X,L,k,l,n]::Fo) (rSl aZ Q r.1.Results::rSl aB R r.1.Store.Nodes::rSl aC S r.1.Store.Turns::rSl aS T r.1.Events::rSl bI U r.1.Mounts::rSl (kI .i64) V r.1.Wounded::rSl aP X r.2.1::rSl aI L r.2.2::rs):=by
 unfold uE at m
 refine ent func49 z ntmps49 z z λ a E=>sq<|bx E H z λ G w a H E=>al2 E H z lQ λ M w a H E=>nt<|aJ (λ a w=>∃ I u x J y A b,Env 21 a [(0,pt e 0),(4,pt M 0),(5,pt I 0),(6,.int .i64 J)]/\Sep w (Blk e 87 [f,g,i,j,c,d,k,l,n]::Blk M 48 bJ::Blk I 73 [u,x]::Fo) b/\(∀ r,r ∈ rs->r ∈ b)/\rSl aP u y ∈ b/\rSl aI x A ∈ b/\vG o p J y A=some r) ?_ ?_
 ·refine bd m λ b5 K m=>?_
  have hI:dI [Blk G 37 (aM x20 B C D F),Blk e 87 [f,g,i,j,c,d,k,l,n]] [] { w with drawn:=w.drawn+1 }:=⟨_,_,H.kept (Kp.drawn _ w _),(aU mm1 (aU mm2 (bH))),(bO)⟩
  refine oN _ (.go 0 0 (.go 1 0 (.go 2 0 (.go 3 0 (.go 4 0 (.go 5 0 (.alt 6 (.go 7 0 (.go 8 0 (.go 9 0 (.go 10 1 (.go 11 1 (.go 12 2 .nil)))))) 10 (.go 6 1 (.go 7 0 (.go 8 0 (.go 9 0 (.go 11 1 (.go 12 2 .nil))))))))))))) [12] pI (by kernel_rfl) (λ _ _ _ h=>False.elim h.2) hI<|have H:=H.kept (Kp.drawn _ w (w.drawn+1));?_
  generalize ({ w with drawn:=w.drawn+1 }:WD)=w at H hI ⊢
  replace hI:∃ W,dI [Blk G 37 (aM x20 B C D F),Blk e 87 [f,g,i,j,c,d,k,l,n]] [] W:=⟨_,hI⟩
  obtain ⟨W0,hI⟩:=hI
  refine om E z λ a E=>ov E z (λ w hW=>(zB E z z)) λ a E=>ov E z (λ w hW=>mM E z z (v:=pt e 4) (Hr _ _)) λ a E=>ov E z (λ w hW=>sI E z z (P7 (us:=[c,d]) mm1 z U73 z gG w hW)) λ a E=>ov E z (λ w hW=>mM E z z (v:=pt G 12) (Jj _ _)) λ a E=>ov E z (λ w hW=>sI E z z (P7 (us:=(dP x20.Watch)) m0 z U35 z tN w hW)) λ a E=>oO z z ?_ ?_
  ·refine xc2 E z (cf_ 117) (Lg (x1:=(⟨o,p⟩:aV)) H q s K)<|?_
   rintro _ w ⟨b6,b7,rfl,H⟩ a E
   refine nt<|⟨sx H [1,2] z,om E z λ a E=>ox E z λ a E=>ox E z λ a E=>cF z<|al2 E H z V1 λ b8 w a H E=>nt<|⟨sx H [2,3] z,cF z<|ss 0 E H z gG (kJ H m0 mm1) λ w H=>nt<|⟨sx H [2,3] z,cV z<|pn 1 E z λ a E=>fA<|?_⟩⟩⟩
   clear hI
   exact aA<|have H:=H.drop 2;have H:=H.frs [0,1,2] z;X7 ⟨E.to z,H,(Y2 Y0),m0,mm1,m⟩
  ·refine al2 E H z V1 λ b9 w a H E=>nt<|⟨sx H [2,3] z,cF z<|xc2 E z (cf_ 117) (Lg (x1:=(⟨o,p⟩:aV)) H q s K)<|?_⟩
   rintro _ w ⟨c0,c1,rfl,H⟩ a E
   refine nt<|⟨sx H [2,3] z,om E z λ a E=>ox E z λ a E=>ox E z λ a E=>cF z<|ss 0 E H z gG (kJ H m0 mm1) λ w H=>nt<|⟨sx H [2,3] z,cV z<|pn 1 E z λ a E=>fA<|?_⟩⟩
   clear hI
   exact aA<|have H:=H.drop 2;have H:=H.frs [0,1,2] z;X7 ⟨E.to z,H,(Y2 Y0),m0,mm1,m⟩
 ·clear E H m
  rintro a w ⟨I,u,x,J,y,A,b,E,H,t,N,O,m⟩
  unfold vG at m
  refine sp 1 E z λ a E=>ln 2 [u,x] E H U73 z gG λ a E=>pr 1 E z λ a E=>have H:=H.nilSl aS;bd m λ Y P m=>xc2 E z (cf_ 118) (s9 (x20:=(⟨y,A⟩:aV)) H (t1 (t _ q)) (t1 (t _ s)) (t1 N) (t1 O) m0 P)<|?_
  rintro _ w ⟨Z,b0,b1,b2,b3,b4,c2,c3,rfl,H⟩ a E
  refine ss 1 E H z bV (bA H m0 mm1 mm2 mm3 mm4 mm5) λ w H=>nt<|wR<|oB 1 (aW Y.1 Z b0 b1 b2 b3 b4) E H U48 z bV<|have H:=H.drs [1,1];?_
  cases m
  exact X8 ⟨z,H.rdx [0,1,2,3,4,5,6] z (aD (t1 mm6) (λ r hr=>(t1 (t8 (t r hr)))))⟩

def mJ(b:aX×fQ×eD)(c:pK):Option N4:=
  some (b.1,b.2.1,b.2.2,c)
def kC(b:aX×fQ×eD)(c:List lL)(x20:aK)(e:Bool):Option N4:=
  if e=true then ((mpt (kyI .i64) c x20.Id b.1).bind λ d=>mJ b d) else (mJ b c)
def qE(c:List lL)(x20:aK)(d:List aO)(e:List aE)(f:Bool):Option N4:=
  if f=true then ((dJ 2).bind λ g=>some (g,d,e,c)) else ((uE d e x20).bind λ b=>if (x20.Id != 0)=true then (if (b.1.Err != 131)=true then (kC b c x20 (b.1.Err != 132)) else (kC b c x20 false)) else (kC b c x20 false))
def tU(b:List lL)(x20:aK)(c:List aO)(d:List aE)(e:Bool)(f:Int)(g:Int)(i:Bool)(j:Int)(k:Q4)(l:eI)(m:dU)(n:zZ)(o:Jk)(p:(List Int)):Option N4:=
  if e=true then (some ((⟨f,g,i,j,k,(⟨l,m⟩:aR),n,o,p⟩:aX),c,d,b)) else (if (x20.Id != 0)=true then (qE b x20 c d ((b.length:Int) == 512)) else (qE b x20 c d false))
def pP(d:List aO)(e:List aE)(c:List lL)(x20:aK):Option N4:=
  (L3 (kyI .i64) c x20.Id vL).bind λ b=>tU c x20 d e b.2 b.1.Err b.1.At b.1.Yes b.1.Epoch b.1.Results b.1.Store.Nodes b.1.Store.Turns b.1.Events b.1.Mounts b.1.Wounded
theorem Fc{o e:Nat}{P Q J L M N p q s t u x:VL}{c0:List aO}{c1:List aE}{y:List lL}{x20:aK}(H:Sep w (Blk o 87 [p,q,s,t,P,Q,.map (some e),u,x]::bX Tryz.prog 2 (kyI .i64) bC true e y::Fo) rs)(b8:rSl aP P c0 ∈ rs)(b9:rSl aI Q c1 ∈ rs){r:aX×fQ×eD×pK}(m:pP c0 c1 y x20=some r) :
    Cf 54 [pt o 0,.agg (aM x20 J L M N).toArray,.func (.func 49) #[] #[]] w λ v w'=>∃ f9 g0 g1 g2 g3 g4 g5 f3,.agg (aW r.1 f9 g0 g1 g2 g3 g4).toArray=v/\Sep w' (Blk o 87 [p,q,s,t,g5,f3,.map (some e),u,x]::bX Tryz.prog 2 (kyI .i64) bC true e r.2.2.2::Fo) (rSl aZ f9 r.1.Results::rSl aB g0 r.1.Store.Nodes::rSl aC g1 r.1.Store.Turns::rSl aS g2 r.1.Events::rSl bI g3 r.1.Mounts::rSl (kI .i64) g4 r.1.Wounded::rSl aP g5 r.2.1::rSl aI f3 r.2.2.1::rs):=by
 unfold pP at m
 refine ent func54 z ntmps54 z z λ a E=>sq<|bx E H z λ k w a H E=>al2 E H z lQ λ A w a H E=>nt<|wS<|aJ (λ a w=>∃ c9 Y Z b0 b1 b2 b3 d0 b4 b5 b6 b7 d1 d2 d3 d4 d5 d6 f,Env 59 a [(0,pt o 0),(2,.func (.func 49) #[] #[]),(4,pt k 0),(6,pt A 0),(7,pt c9 0),(8,.bool d0)]/\Sep w (Blk o 87 [p,q,s,t,P,Q,.map (some e),u,x]::Blk k 37 (aM x20 J L M N)::Blk A 48 bJ::Blk c9 48 [.int .i64 b4,.int .i64 b5,.bool b6,.int .i64 b7,Y,Z,b0,b1,b2,b3]::bX Tryz.prog 2 (kyI .i64) bC true e y::Fo) f/\(∀ r,r ∈ rs->r ∈ f)/\rSl aZ Y d1 ∈ f/\rSl aB Z d2 ∈ f/\rSl aC b0 d3 ∈ f/\rSl aS b1 d4 ∈ f/\rSl bI b2 d5 ∈ f/\rSl (kI .i64) b3 d6 ∈ f/\tU y x20 c0 c1 d0 b4 b5 b6 b7 d1 d2 d3 d4 d5 d6=some r) ?_ ?_
 ·refine bd m λ i3 c2 m=>?_
  have hI:dI [Blk k 37 (aM x20 J L M N),Blk o 87 [p,q,s,t,P,Q,.map (some e),u,x]] [] { w with drawn:=w.drawn+1 }:=⟨_,_,H.kept (Kp.drawn _ w _),(aU mm1 (aU mm2 (bH))),(bO)⟩
  refine oN _ (.go 0 0 (.go 1 0 (.go 2 0 (.go 3 0 (.go 4 0 (.go 5 0 (.alt 6 (.go 7 0 (.go 8 0 (.go 9 0 (.go 10 1 (.go 11 1 (.go 12 2 .nil)))))) 10 (.go 6 1 (.go 7 0 (.go 8 0 (.go 9 0 (.go 11 1 (.go 12 2 .nil))))))))))))) [12] pI (by kernel_rfl) (λ _ _ _ h=>False.elim h.2) hI<|have H:=H.kept (Kp.drawn _ w (w.drawn+1));?_
  generalize ({ w with drawn:=w.drawn+1 }:WD)=w at H hI ⊢
  replace hI:∃ W,dI [Blk k 37 (aM x20 J L M N),Blk o 87 [p,q,s,t,P,Q,.map (some e),u,x]] [] W:=⟨_,hI⟩
  obtain ⟨W0,hI⟩:=hI
  refine om E z λ a E=>ov E z (λ w hW=>(zB E z z)) λ a E=>ov E z (λ w hW=>mM E z z (v:=pt o 6) (Hq _ _)) λ a E=>ol E mm1 U84 z λ a E=>ov E z (λ w hW=>mM E z z (v:=pt k 1) (Hp _ _)) λ a E=>ol E m0 U2 z λ a E=>oO z z ?_ ?_
  ·refine sL (i:=3) (K:=(kyI .i64)) E H (wn z) z z z z z z (gA U2) U84 Q3 Az c2 λ i4 a H E=>?_
   obtain ⟨i5,i6,i7,i8,i9,j0,rfl,h⟩:=oP H;clear H;have H:=h
   refine nt<|⟨sx H [1,2] z,om E z λ a E=>ox E z λ a E=>ox E z λ a E=>cF z<|al2 E H z lQ λ j1 w a H E=>nt<|⟨sx H [2,3] z,cF z<|ss 0 E H z bV (bA H mm5 mm4 mm3 mm2 mm1 m0) λ w H=>nt<|⟨sx H [2,3] z,cV z<|pn 1 E z λ a E=>fA<|?_⟩⟩⟩
   clear hI
   exact aA<|have H:=H.frs [4,1,2,3,4] z;X19 ⟨E.to z,H,(Y7 Y0),mm5,mm4,mm3,mm2,mm1,m0,m⟩
  ·refine al2 E H z lQ λ j2 w a H E=>nt<|⟨sx H [2,3] z,cF z<|sL (i:=4) (K:=(kyI .i64)) E H (wn z) z z z z z z (gA U2) U84 Q3 Az c2 λ j3 a H E=>?_⟩
   obtain ⟨j4,j5,j6,j7,j8,j9,rfl,h⟩:=oP H;clear H;have H:=h
   refine nt<|⟨sx H [2,3] z,om E z λ a E=>ox E z λ a E=>ox E z λ a E=>cF z<|ss 0 E H z bV (bA H mm5 mm4 mm3 mm2 mm1 m0) λ w H=>nt<|⟨sx H [2,3] z,cV z<|pn 1 E z λ a E=>fA<|?_⟩⟩
   clear hI
   exact aA<|have H:=H.frs [4,1,2,3,4] z;X19 ⟨E.to z,H,(Y7 Y0),mm5,mm4,mm3,mm2,mm1,m0,m⟩
 ·clear E H m
  rintro a w ⟨c9,Y,Z,b0,b1,b2,b3,d0,b4,b5,b6,b7,d1,d2,d3,d4,d5,d6,f,E,H,O,d7,d8,d9,e0,e1,e2,m⟩
  unfold tU at m
  refine sq<|pn 1 E z λ a E=>wif E m z (λ m=>?_) λ m=>?_
  ·refine sq<|ln 3 [.int .i64 b4,.int .i64 b5,.bool b6,.int .i64 b7,Y,Z,b0,b1,b2,b3] E H U48 z bV λ a E=>ss 2 E H z bV (bA H d7 d8 d9 e0 e1 e2) λ w H=>nt<|wR<|aG<|oB 2 [.int .i64 b4,.int .i64 b5,.bool b6,.int .i64 b7,Y,Z,b0,b1,b2,b3] E H U48 z bV<|have H:=H.drs [1,1,1];?_
   cases m
   exact X8 ⟨z,H.reads (aD d7 (aD d8 (aD d9 (aD e0 (aD e1 (aD e2 (aD (O _ b8) (aD (O _ b9) (O)))))))))⟩
  ·refine wK<|aA<|wS<|aJ (λ a w=>∃ e3,Jn 59 a w [(0,pt o 0),(2,.func (.func 49) #[] #[]),(4,pt k 0),(6,pt A 0),(32,.bool e3)] (Blk o 87 [p,q,s,t,P,Q,.map (some e),u,x]::Blk k 37 (aM x20 J L M N)::Blk A 48 bJ::bX Tryz.prog 2 (kyI .i64) bC true e y::Fo) rs (qE y x20 c0 c1 e3=some r)) ?_ ?_
   ·refine wG<|pr 1 E z λ a E=>lb2 E H 1 U2 z λ a E=>pr 2 E z λ a E=>cs m (λ j m=>?_) λ j m=>?_
    ·exact pk 3 E (kc 25 z j) z λ a E=>gl 25 E H 0 j U84 z λ a E=>gv 25 E j z (X2 (i:=4) E H z z z U84) λ a E=>pk 2 E (kc 25 z j) z λ a E=>nt<|have H:=H.drop 3;⟨_,_,E.to z,H,O,m⟩
    ·exact pk 7 E (kc 25 z j) z λ a E=>nt<|have H:=H.drop 3;⟨_,_,E.to z,H,O,m⟩
   ·clear E H m
    rintro a w ⟨e3,k0,E,H,g,m⟩
    unfold qE at m
    refine wif E m z (λ m=>?_) λ m=>?_
    ·refine sq<|bd m λ g6 f4 m=>xc2 E z (cf_ 53) (fB H f4)<|?_
     rintro _ w ⟨g7,g8,g9,i0,i1,i2,rfl,H⟩ a E
     refine ss 2 E H z bV (bA H m0 mm1 mm2 mm3 mm4 mm5) λ w H=>nt<|wR<|aG<|oB 2 (aW g6 g7 g8 g9 i0 i1 i2) E H U48 z bV<|have H:=H.drs [1,1];?_
     cases m
     exact X8 ⟨z,H.rdx [0,1,2,3,4,5] z (aD (t6 (g _ b8)) (aD (t6 (g _ b9)) (λ r hr=>(t6 (g r hr)))))⟩
    ·refine wK<|aA<|sp 2 E z λ a E=>ln 1 (aM x20 J L M N) E H U37 z z7 λ a E=>bd m λ b f5 m=>bK E (wn z) z z (bN E z z z ((cf_ 49) _)) (Gn H (g _ b8) (g _ b9) f5)<|?_
     rintro _ w ⟨B,C,D,F,G,I,c3,c4,rfl,H⟩ a E
     refine al2 E H z lQ λ c5 w a H E=>ss 0 E H z bV (bA H m0 mm1 mm2 mm3 mm4 mm5) λ w H=>nt<|aJ (λ a w=>∃ e4 d,Env 59 a [(6,pt A 0),(9,pt c5 0)]/\Sep w (Blk A 48 bJ::Blk c5 48 (aW b.1 B C D F G I)::Blk o 87 [p,q,s,t,c3,c4,.map (some e),u,x]::bX Tryz.prog 2 (kyI .i64) bC true e e4::Fo) d/\(∀ r,r ∈ rs->r ∈ d)/\rSl aZ B b.1.Results ∈ d/\rSl aB C b.1.Store.Nodes ∈ d/\rSl aC D b.1.Store.Turns ∈ d/\rSl aS F b.1.Events ∈ d/\rSl bI G b.1.Mounts ∈ d/\rSl (kI .i64) I b.1.Wounded ∈ d/\rSl aP c3 b.2.1 ∈ d/\rSl aI c4 b.2.2 ∈ d/\mJ b e4=some r) ?_ ?_
     ·refine aJ (λ a w=>∃ e5 c,Env 59 a [(0,pt o 0),(4,pt k 0),(6,pt A 0),(9,pt c5 0),(50,.bool e5)]/\Sep w (Blk o 87 [p,q,s,t,c3,c4,.map (some e),u,x]::Blk k 37 (aM x20 J L M N)::Blk A 48 bJ::Blk c5 48 (aW b.1 B C D F G I)::bX Tryz.prog 2 (kyI .i64) bC true e y::Fo) c/\(∀ r,r ∈ rs->r ∈ c)/\rSl aP c3 b.2.1 ∈ c/\rSl aI c4 b.2.2 ∈ c/\rSl aZ B b.1.Results ∈ c/\rSl aB C b.1.Store.Nodes ∈ c/\rSl aC D b.1.Store.Turns ∈ c/\rSl aS F b.1.Events ∈ c/\rSl bI G b.1.Mounts ∈ c/\rSl (kI .i64) I b.1.Wounded ∈ c/\kC b y x20 e5=some r) ?_ ?_
      ·refine wG<|pr 1 E z λ a E=>lb2 E H 2 U2 z λ a E=>pr 2 E z λ a E=>cs m (λ l m=>?_) λ l m=>?_
       ·refine pk 1 E (kc 41 z l) z λ a E=>gl 41 E H 0 l U41 z λ a E=>pk 3 E (kc 41 z l) z λ a E=>cs m (λ n m=>?_) λ n m=>?_
        ·exact pk 1 E (kc 46 z n) z λ a E=>gl 46 E H 0 n U41 z λ a E=>pk 2 E (kc 46 z n) z λ a E=>nt<|have H:=H.frs [4,1,4,4,4] z;⟨_,_,E.to z,H,(Y8 g),mm6,(t1 mm6),m0,mm1,mm2,mm3,mm4,mm5,m⟩
        ·exact pk 4 E (kc 46 z n) z λ a E=>nt<|have H:=H.frs [4,1,4,4,4] z;⟨_,_,E.to z,H,(Y8 g),mm6,(t1 mm6),m0,mm1,mm2,mm3,mm4,mm5,m⟩
       ·exact pk 9 E (kc 41 z l) z λ a E=>nt<|have H:=H.frs [4,1,4,4,4] z;⟨_,_,E.to z,H,(Y8 g),mm6,(t1 mm6),m0,mm1,mm2,mm3,mm4,mm5,m⟩
      ·clear E H m
       rintro a w ⟨e5,c,E,H,c6,c7,c8,R,S,T,U,V,X,m⟩
       unfold kC at m
       refine wif E m z (λ m=>?_) λ m=>?_
       ·refine dz [0,0,0,0,0,0,0,2] [0,1,3] H λ w W0 hI H=>fn 3 E z λ a E=>fb2 E m0 U84 z λ a E=>fn 1 E z λ a E=>fb2 E mm1 U2 z λ a E=>fbn E (aW b.1 B C D F G I) z (wn z) z z z z mm2 z U48 z bV λ a E=>bL z<|bd m λ k1 f2 m=>T8 (i:=4) (K:=(kyI .i64)) (v:=b.1) (cs:=[.int .i64 b.1.Err,.int .i64 b.1.At,.bool b.1.Yes,.int .i64 b.1.Epoch,B,C,D,F,G,I]) E H (wn z) z z z z z z (gA U2) U84 f2 (λ ok hr=>(sO (hr _ R) (hr _ S) (hr _ T) (hr _ U) (hr _ V) (hr _ X))) λ w H=>nt<|bB<|?_
        clear hI
        exact aA<|have H:=H.drop 1;have H:=H.frs [3,1,3,3] z;⟨_,_,E.to z,H,c6,R,S,T,U,V,X,c7,c8,m⟩
       ·exact wK<|aA<|have H:=H.drop 1;have H:=H.frs [3,1,3,3] z;⟨_,_,E.to z,H,c6,R,S,T,U,V,X,c7,c8,m⟩
     ·clear E H m
      rintro a w ⟨e4,d,E,H,f6,e6,e7,e8,e9,f0,f1,f7,f8,m⟩
      unfold mJ at m
      refine sq<|ln 1 (aW b.1 B C D F G I) E H U48 z bV λ a E=>ss 0 E H z bV (bA H e6 e7 e8 e9 f0 f1) λ w H=>nt<|wR<|oB 0 (aW b.1 B C D F G I) E H U48 z bV<|have H:=H.drs [0,0];?_
      cases m
      exact X8 ⟨z,H.reads (aD e6 (aD e7 (aD e8 (aD e9 (aD f0 (aD f1 (aD f7 (aD f8 (f6)))))))))⟩

def wP(c:List cR):Nat->eH->Int->Option eH
  | 0,_,_=>none
  | f+1,b,d=>
    if (decide (d < (c.length:Int)))=true then ((idx c d).bind λ e=>(ck (b.length+([e.Part.Dir]:List BY).length <= LIM)).bind λ g=>wP c f (b ++ ([e.Part.Dir]:List BY)) (IntKind.i64.wrap (d+1))) else ((ck (b.length <= 1000000)).bind λ i=>(ck ((xK b).length <= 1000000)).bind λ j=>some (sM (xK b)))
def w4(b:List cR):Option eH:=
  wP b (((b.length:Int) - 0:Int).toNat+1) [] 0
theorem Ij{k:VL}{c:List cR}(H:Sep w (Fo) rs)(j:rSl bR k c ∈ rs){r:eH}(m:w4 c=some r) :
    Cf 96 [k] w λ v w'=>∃ u,u=v/\Sep w' (Row 9 kS u r::Fo) (rs):=by
 unfold w4 at m
 refine ent func96 z ntmps96 z z λ a E=>sp 1 E z λ a E=>nx<|pn 1 E z λ a E=>wS<|sp 1 E z λ a E=>lS E H j U26 z λ a E=>pn 1 E z λ a E=>wB<|bG (λ b a w=>∃ l n o,Jn 23 a w [(3,l),(6,k),(7,.int .i64 (c.length:Int)),(8,.int .i64 o)] (Row 9 kS l n::Fo) rs (wP c b n o=some r)) (((c.length:Int) - 0:Int).toNat+1) ?_ ?_
 ·exact have H:=H.nilRow 9 kS;X4 ⟨E.to z,H,Y0,m⟩
 ·clear E H m
  rintro b a w ⟨l,n,o,y,E,H,f,m⟩
  cases b with
  | zero=>exact (bE m z).elim
  | succ b=>
   unfold wP at m
   refine sq<|pn 1 E z λ a E=>wS<|wif E m z (λ m=>?_) λ m=>?_
   ·exact wK<|aA<|wS<|wB<|sq<|bd m λ g p m=>dB E H (wn z) z z z z z (f _ j) U26 U8 p λ q11 a H E=>ldf z6 E H z z z z z m0 U99 z U8 λ a E=>al2 E H z Yp λ A w a H E=>ss 0 E H z U8 z λ w H=>nt<|wG<|pr 3 E z λ a E=>lb2 E H 0 U9 z λ a E=>xA (e:=9) (d:=kS) (cs:=[.string g.Part.Dir]) (xs:=[g.Part.Dir]) E H (wn z) z z z (E.evs z) (by kernel_rfl) z (λ ok hr=>(Rows.single (d:=kS) (cs:=[.string g.Part.Dir]) (x:=g.Part.Dir) z)) λ B w a H E=>bk m λ q m=>fE (i:=1) E H (wn z) z z z z z z (nU m0) U33 Ua z q z λ C w a H E=>pr 1 E z λ a E=>wN<|bP<|aA<|wG<|pn 2 E z λ a E=>have H:=H.drop 0;⟨b,nL b,X4 ⟨E.to z,H,(Y2 f),m⟩⟩
   ·refine wX<|aT<|aT<|cL<|aA<|sp 1 E z λ a E=>bk m λ s m=>xc2 E z (cf_ 151) (IA (ix:=0) H z s)<|?_
    rintro _ w ⟨rfl,H⟩ a E
    refine xp 1 E z λ a E=>bk m λ t m=>xc2 E z (cf_ 152) (IB (ix:=0) H z t) λ D w H a E=>pn 1 E z λ a E=>wR<|o1 E z<|?_
    cases m
    exact ⟨_,z,H.reads f⟩

def zA(b:List aF)(d:BY):Option Int:=
  (mR b d).bind λ c=>if (decide (c ≥ 0))=true then ((idx b c).bind λ e=>some (e.State)) else (some (3))
theorem Gc{c:VL}{d:List aF}{e:BY}(H:Sep w (Fo) rs)(b:rSl aN c d ∈ rs){r:Int}(m:zA d e=some r) :
    Cf 27 [c,.string e] w λ v w'=>.int .i64 r=v/\Sep w' (Fo) (rs):=by
 unfold zA at m
 refine ent func27 z ntmps27 z z λ a E=>sq<|pn 1 E z λ a E=>wS<|sp 2 E z λ a E=>bd m λ j f m=>xk2 E z (cf_ 24) (A2 H b f) λ w H a E=>pr 1 E z λ a E=>nx<|pn 2 E z λ a E=>wif E m z (λ m=>?_) λ m=>?_
 ·refine sp 2 E z λ a E=>bd m λ i g m=>dB E H (wn z) z z z z z b U32 iY g λ q9 a H E=>have H:=H.derive1 m0 (rAt (kI .i64) (q9.add 2) i.State) (λ ok h=>Q2 h);pr 1 E z λ a E=>sv2 E z (sK E H z z m0 U3 z) λ a E=>pn 1 E z λ a E=>wR<|aG<|o1 E z<|?_
  cases m
  exact ⟨z,H.reads (Y2 Y0)⟩
 ·refine wK<|aA<|sq<|pn 1 E z λ a E=>wR<|o1 E z<|?_
  cases m
  exact ⟨z,H.reads Y0⟩

def mK(d:BY)(e:List aF)(b:Int):Option Bool:=
  (zA e d).bind λ c=>some (c == b)
theorem Bl{t:BY}{o d b:Nat}{p e f g i j k l n:VL}{u:List aF}{c:Int}(H:Sep w (Blk o 28 [pt d 0]::Blk d 87 [e,f,p,g,i,j,k,l,n]::Blk b 3 [.int .i64 c]::Fo) rs)(q:rSl aN p u ∈ rs){r:Bool}(m:mK t u c=some r) :
    Cf 157 [.string t,pt o 0,pt b 0] w λ v w'=>.bool r=v/\Sep w' (Blk o 28 [pt d 0]::Blk d 87 [e,f,p,g,i,j,k,l,n]::Blk b 3 [.int .i64 c]::Fo) (rs):=by
 unfold mK at m
 refine ent func157 z ntmps157 z z λ a E=>sq<|pn 1 E z λ a E=>wS<|dw [(0,0),(1,0),(2,0),(3,0),(4,0),(6,0),(5,1),(7,0),(8,2)] [0,1,2] [] H (by kernel_rfl) (λ _ _ _ h=>False.elim h.2) λ w W0 hI H=>fb2 E m0 U28 z λ a E=>fn 2 E z λ a E=>fb2 E mm1 U32 z λ a E=>fn 1 E z λ a E=>fb2 E mm2 U3 z λ a E=>bQ z<|bd m λ x s m=>xk2 E z (cf_ 27) (Gc H q s) λ w H a E=>nt<|⟨sx H [0,1,2] z,fn 1 E z λ a E=>bL z<|pn 1 E z λ a E=>bB<|?_⟩
 clear hI
 refine aA<|wR<|o1 E z<|?_
 cases m
 exact ⟨z,H.reads Y0⟩

def fI(e:List BY)(c:List aF)(d:Int):Nat->Int->Option Int
  | 0,_=>none
  | i+1,b=>
    if (decide (b < (e.length:Int)))=true then ((idx e b).bind λ f=>(mK f c d).bind λ g=>if g=true then (some (b)) else (fI e c d i (IntKind.i64.wrap (b+1)))) else (some ((-1)))
def lM(b:List BY)(c:List aF)(d:Int):Option Int:=
  fI b c d (((b.length:Int) - 0:Int).toNat+1) 0
theorem L5{A y g i j k l n o p:VL}{q:List BY}{s e c:Nat}{t:List aF}{d:Int}(H:Sep w (Blk s 28 [pt e 0]::Blk e 87 [g,i,y,j,k,l,n,o,p]::Blk c 3 [.int .i64 d]::Fo) rs)(u:rSl kS A q ∈ rs)(B:rSl aN y t ∈ rs){r:Int}(m:lM q t d=some r) :
    Cf 153 [A,.func (.func 157) #[] #[pt s 0,pt c 0]] w λ v w'=>.int .i64 r=v/\Sep w' (Blk s 28 [pt e 0]::Blk e 87 [g,i,y,j,k,l,n,o,p]::Blk c 3 [.int .i64 d]::Fo) (rs):=by
 unfold lM at m
 refine ent func153 z ntmps153 z z λ a E=>sq<|pn 1 E z λ a E=>wS<|sp 1 E z λ a E=>lS E H u U33 z λ a E=>pr 1 E z λ a E=>nt<|wB<|bG (λ f a w=>∃ x,Jn 19 a w [(0,A),(1,.func (.func 157) #[] #[pt s 0,pt c 0]),(7,.int .i64 (q.length:Int)),(8,.int .i64 x)] (Blk s 28 [pt e 0]::Blk c 3 [.int .i64 d]::Blk e 87 [g,i,y,j,k,l,n,o,p]::Fo) rs (fI q t d f x=some r)) (((q.length:Int) - 0:Int).toNat+1) ?_ ?_
 ·exact have H:=H.frs [1,2,2] z;⟨_,_,E.to z,H,Y0,m⟩
 ·clear E H m
  rintro f a w ⟨x,F,E,H,b,m⟩
  cases f with
  | zero=>exact (bE m z).elim
  | succ f=>
   unfold fI at m
   refine sq<|pn 1 E z λ a E=>wS<|wif E m z (λ m=>?_) λ m=>?_
   ·refine wK<|aA<|wS<|wB<|sp 2 E z λ a E=>xp 3 E z λ a E=>bd m λ G C m=>dB E H (wn z) z z z z z (b _ u) U33 sz9 C λ q40 a H E=>sv2 E z (sK E H z z m0 U9 z) λ a E=>have H:=H.frs [1,2,2] z;bd m λ I D m=>bK E (wn z) z z (bN E z z z ((cf_ 157) _)) (Bl H (t1 (b _ B)) D)<|?_
    rintro _ w ⟨rfl,H⟩ a E
    refine nt<|wif E m z (λ m=>?_) λ m=>?_
    ·refine sq<|pn 2 E z λ a E=>wR<|bD<|aG<|aG<|bD<|aG<|o1 E z<|?_
     cases m
     exact ⟨z,H.reads (Y1 b)⟩
    ·exact wK<|bP<|aA<|wG<|pn 2 E z λ a E=>have H:=H.frs [1,2,2] z;⟨f,nL f,_,_,E.to z,H,(Y1 b),m⟩
   ·refine wX<|aT<|aT<|cL<|aA<|sq<|pn 1 E z λ a E=>wR<|o1 E z<|have H:=H.frs [1,2,2] z;?_
    cases m
    exact ⟨z,H.reads b⟩

def jW(e:List BY)(b:List aF)(c:Int):Option Bool:=
  (lM e b c).bind λ d=>some (decide (d ≥ 0))
theorem F6{x p e f g i j k l n:VL}{y:List BY}{q d b:Nat}{o:List aF}{c:Int}(H:Sep w (Blk q 28 [pt d 0]::Blk d 87 [e,f,p,g,i,j,k,l,n]::Blk b 3 [.int .i64 c]::Fo) rs)(s:rSl kS x y ∈ rs)(t:rSl aN p o ∈ rs){r:Bool}(m:jW y o c=some r) :
    Cf 97 [x,.func (.func 157) #[] #[pt q 0,pt b 0]] w λ v w'=>.bool r=v/\Sep w' (Blk q 28 [pt d 0]::Blk d 87 [e,f,p,g,i,j,k,l,n]::Blk b 3 [.int .i64 c]::Fo) (rs):=by
 unfold jW at m
 refine ent func97 z ntmps97 z z λ a E=>sp 1 E z λ a E=>xp 2 E z λ a E=>bd m λ A u m=>xk2 E z (cf_ 153) (L5 H s t u) λ w H a E=>pn 2 E z λ a E=>wR<|o1 E z<|?_
 cases m
 exact ⟨z,H.reads Y0⟩

def oH(x1:Int)(d:List BY)(b:List aF):Option Bool:=
  (jW d b x1).bind λ c=>some (c)
theorem O6{x1:Int}{o p c:Nat}{q b d e f g i j k l:VL}{x:List BY}{n:List aF}(H:Sep w (Blk o 33 [q]::Blk p 28 [pt c 0]::Blk c 87 [d,e,b,f,g,i,j,k,l]::Fo) rs)(s:rSl kS q x ∈ rs)(t:rSl aN b n ∈ rs){r:Bool}(m:oH x1 x n=some r) :
    Cf 156 [.int .i64 x1,pt o 0,pt p 0] w λ v w'=>.bool r=v/\Sep w' (Blk o 33 [q]::Blk p 28 [pt c 0]::Blk c 87 [d,e,b,f,g,i,j,k,l]::Fo) (rs):=by
 unfold oH at m
 refine ent func156 z ntmps156 z z λ a E=>sq<|bx E H z λ y w a H E=>pr 1 E z λ a E=>nx<|lb2 E H 1 U33 z λ a E=>sv2 E z (nT E z z z) λ a E=>have H:=H.frs [1,1,3,3] z;bd m λ A u m=>xk2 E z (cf_ 97) (F6 H s t u) λ w H a E=>pn 1 E z λ a E=>wR<|o1 E z<|have H:=H.drop 2;have H:=H.frs [1,1,2] z;?_
 cases m
 exact ⟨z,H.reads Y0⟩

def qU(c:List aF)(b:List BY):Option Int:=
  (oH 3 b c).bind λ d=>if d=true then (some (132)) else ((oH 2 b c).bind λ e=>if e=true then (some (131)) else (some (0)))
theorem S7{p:Nat}{q d e f g i j k l n:VL}{u:List aF}{o:List BY}(H:Sep w (Blk p 87 [e,f,q,g,i,j,k,l,n]::Fo) rs)(c:rSl aN q u ∈ rs)(b:rSl kS d o ∈ rs){r:Int}(m:qU u o=some r) :
    Cf 100 [pt p 0,d] w λ v w'=>.int .i64 r=v/\Sep w' (Blk p 87 [e,f,q,g,i,j,k,l,n]::Fo) (rs):=by
 unfold qU at m
 refine ent func100 z ntmps100 z z λ a E=>sq<|bx E H z λ x w a H E=>?_
 obtain ⟨q34,y,rfl⟩:=H.slform b
 refine bx E H z λ A w a H E=>pr 1 E z λ a E=>nx<|sv2 E z (nT E z z z) λ a E=>pn 1 E z λ a E=>wS<|wB<|sq<|pr 1 E z λ a E=>bd m λ B s m=>bK E (wn z) z z (bN E z z z ((cf_ 156) _)) (O6 H b c s)<|?_
 rintro _ w ⟨rfl,H⟩ a E
 refine pn 1 E z λ a E=>wif E m z (λ m=>?_) λ m=>?_
 ·refine sq<|pn 1 E z λ a E=>wR<|bD<|aG<|o1 E z<|have H:=H.drs [0,0];?_
  cases m
  exact ⟨z,H.reads Y0⟩
 ·refine sp 1 E z λ a E=>bd m λ C t m=>bK E (wn z) z z (bN E z z z ((cf_ 156) _)) (O6 H b c t)<|?_
  rintro _ w ⟨rfl,H⟩ a E
  refine pn 1 E z λ a E=>wif E m z (λ m=>?_) λ m=>?_
  ·refine sq<|pn 1 E z λ a E=>wR<|bD<|aG<|o1 E z<|have H:=H.drs [0,0];?_
   cases m
   exact ⟨z,H.reads Y0⟩
  ·refine wK<|bP<|aA<|sq<|pn 1 E z λ a E=>wR<|o1 E z<|have H:=H.drs [0,0];?_
   cases m
   exact ⟨z,H.reads Y0⟩

def xX(x1:aQ)(b:BY):Option Bool:=
  some (sEq x1.Dir b)
theorem Qh{x1:aQ}{b:Nat}{c:BY}(H:Sep w (Blk b 9 [.string c]::Fo) rs){r:Bool}(m:xX x1 c=some r) :
    Cf 155 [.agg (uY x1).toArray,pt b 0] w λ v w'=>.bool r=v/\Sep w' (Blk b 9 [.string c]::Fo) (rs):=by
 unfold xX at m
 refine ent func155 z ntmps155 z z λ a E=>sq<|bx E H z λ d w a H E=>pr 1 E z λ a E=>xp 1 E z λ a E=>lb2 E H 0 U9 z λ a E=>lb2 E H 1 U9 z λ a E=>pr 2 E z λ a E=>nt<|wR<|o1 E z<|have H:=H.drop 0;?_
 cases m
 exact ⟨z,H.reads Y0⟩

def eZ(c:List aQ)(d:BY):Nat->Int->Option Int
  | 0,_=>none
  | f+1,b=>
    if (decide (b < (c.length:Int)))=true then ((idx c b).bind λ g=>(xX g d).bind λ e=>if e=true then (some (b)) else (eZ c d f (IntKind.i64.wrap (b+1)))) else (some ((-1)))
def kV(b:List aQ)(c:BY):Option Int:=
  eZ b c (((b.length:Int) - 0:Int).toNat+1) 0
theorem I1{i:VL}{d:List aQ}{e:Nat}{f:BY}(H:Sep w (Blk e 9 [.string f]::Fo) rs)(g:rSl aY i d ∈ rs){r:Int}(m:kV d f=some r) :
    Cf 154 [i,.func (.func 155) #[] #[pt e 0]] w λ v w'=>.int .i64 r=v/\Sep w' (Blk e 9 [.string f]::Fo) (rs):=by
 unfold kV at m
 refine ent func154 z ntmps154 z z λ a E=>sq<|pn 1 E z λ a E=>wS<|sp 1 E z λ a E=>lS E H g U58 z λ a E=>pr 1 E z λ a E=>nt<|wB<|bG (λ c a w=>∃ j,Jn 19 a w [(0,i),(1,.func (.func 155) #[] #[pt e 0]),(7,.int .i64 (d.length:Int)),(8,.int .i64 j)] (Blk e 9 [.string f]::Fo) rs (eZ d f c j=some r)) (((d.length:Int) - 0:Int).toNat+1) ?_ ?_
 ·exact ⟨_,_,E.to z,H,Y0,m⟩
 ·clear E H m
  rintro c a w ⟨j,n,E,H,b,m⟩
  cases c with
  | zero=>exact (bE m z).elim
  | succ c=>
   unfold eZ at m
   refine sq<|pn 1 E z λ a E=>wS<|wif E m z (λ m=>?_) λ m=>?_
   ·refine wK<|aA<|wS<|wB<|sp 2 E z λ a E=>xp 3 E z λ a E=>bd m λ p k m=>dB E H (wn z) z z z z z (b _ g) U58 jZ k λ q11 a H E=>ldf gR E H z z z z z m0 U78 z jZ λ a E=>bd m λ o l m=>bK E (wn z) z z (bN E z z z ((cf_ 155) _)) (Qh H l)<|?_
    rintro _ w ⟨rfl,H⟩ a E
    refine nt<|wif E m z (λ m=>?_) λ m=>?_
    ·refine sq<|pn 2 E z λ a E=>wR<|bD<|aG<|aG<|bD<|aG<|o1 E z<|?_
     cases m
     exact ⟨z,H.reads (Y1 b)⟩
    ·exact wK<|bP<|aA<|wG<|pn 2 E z λ a E=>⟨c,nL c,_,_,E.to z,H,(Y1 b),m⟩
   ·refine wX<|aT<|aT<|cL<|aA<|sq<|pn 1 E z λ a E=>wR<|o1 E z<|?_
    cases m
    exact ⟨z,H.reads b⟩

def I2(b:List aQ)(d:BY):Option xM:=
  (kV b d).bind λ c=>if (decide (c < 0))=true then (some (0,false)) else ((idx b c).bind λ e=>some (e.Txn,true))
theorem Uu{c:VL}{d:List aQ}{e:BY}(H:Sep w (Fo) rs)(b:rSl aY c d ∈ rs){r:Int×Bool}(m:I2 d e=some r) :
    Cf 99 [c,.string e] w λ v w'=>.tuple #[.int .i64 r.1,.bool r.2]=v/\Sep w' (Fo) (rs):=by
 unfold I2 at m
 refine ent func99 z ntmps99 z z λ a E=>sq<|bx E H z λ j w a H E=>pr 2 E z λ a E=>xp 1 E z λ a E=>sv2 E z (nT E z z z) λ a E=>bd m λ k f m=>xk2 E z (cf_ 154) (I1 H b f) λ w H a E=>pn 1 E z λ a E=>wS<|sq<|pn 2 E z λ a E=>wif E m z (λ m=>?_) λ m=>?_
 ·refine sq<|pn 2 E z λ a E=>wR<|aG<|iH E z z z<|have H:=H.drop 0;?_
  cases m
  exact ⟨z,H.reads Y0⟩
 ·refine wK<|aA<|sp 2 E z λ a E=>bd m λ i g m=>dB E H (wn z) z z z z z b U58 jZ g λ q10 a H E=>have H:=H.derive1 m0 (rAt (kI .i64) (q10.add 1) i.Txn) (λ ok h=>Dj h);pr 1 E z λ a E=>sv2 E z (sK E H z z m0 U2 z) λ a E=>pn 2 E z λ a E=>wR<|iH E z z z<|have H:=H.drop 0;?_
  cases m
  exact ⟨z,H.reads (Y2 Y0)⟩

def qV(d:BY)(b:List aQ):Option Bool:=
  (I2 b d).bind λ c=>some (c.2)
theorem Gp{s:BY}{o c:Nat}{b d e f g i j k l:VL}{n:List aQ}(H:Sep w (Blk o 28 [pt c 0]::Blk c 87 [d,e,f,b,g,i,j,k,l]::Fo) rs)(p:rSl aY b n ∈ rs){r:Bool}(m:qV s n=some r) :
    Cf 98 [.string s,pt o 0] w λ v w'=>.bool r=v/\Sep w' (Blk o 28 [pt c 0]::Blk c 87 [d,e,f,b,g,i,j,k,l]::Fo) (rs):=by
 unfold qV at m
 refine ent func98 z ntmps98 z z λ a E=>sp 1 E z λ a E=>nx<|lb2 E H 0 U28 z λ a E=>pr 2 E z λ a E=>lb2 E H 1 U58 z λ a E=>pr 1 E z λ a E=>bd m λ t q m=>xk2 E z (cf_ 99) (Uu H p q) λ w H a E=>pr 5 E z λ a E=>nx<|pn 2 E z λ a E=>wR<|o1 E z<|?_
 cases m
 exact ⟨z,H.reads Y0⟩

def fY(d:List BY)(c:List aQ):Nat->Int->Option Int
  | 0,_=>none
  | g+1,b=>
    if (decide (b < (d.length:Int)))=true then ((idx d b).bind λ e=>(qV e c).bind λ f=>if f=true then (some (b)) else (fY d c g (IntKind.i64.wrap (b+1)))) else (some ((-1)))
def mS(b:List BY)(c:List aQ):Option Int:=
  fY b c (((b.length:Int) - 0:Int).toNat+1) 0
theorem O3{l f n o p q s t u x:VL}{c:List BY}{y g:Nat}{A:List aQ}(H:Sep w (Row 9 kS l c::Blk y 28 [pt g 0]::Blk g 87 [n,o,p,f,q,s,t,u,x]::Fo) rs)(D:rSl aY f A ∈ rs){r:Int}(m:mS c A=some r) :
    Cf 153 [l,.func (.func 98) #[] #[pt y 0]] w λ v w'=>.int .i64 r=v/\Sep w' (Blk y 28 [pt g 0]::Blk g 87 [n,o,p,f,q,s,t,u,x]::Row 9 kS l c::Fo) (rs):=by
 unfold mS at m
 refine ent func153 z ntmps153 z z λ a E=>sq<|pn 1 E z λ a E=>wS<|sp 1 E z λ a E=>sv2 E z (mV (i:=0) E H z z z U33) λ a E=>pr 1 E z λ a E=>nt<|wB<|bG (λ j a w=>∃ B,Jn 19 a w [(0,l),(1,.func (.func 98) #[] #[pt y 0]),(7,.int .i64 (c.length:Int)),(8,.int .i64 B)] (Row 9 kS l c::Blk y 28 [pt g 0]::Blk g 87 [n,o,p,f,q,s,t,u,x]::Fo) rs (fY c A j B=some r)) (((c.length:Int) - 0:Int).toNat+1) ?_ ?_
 ·exact ⟨_,_,E.to z,H,Y0,m⟩
 ·clear E H m
  rintro j a w ⟨B,G,E,H,b,m⟩
  cases j with
  | zero=>exact (bE m z).elim
  | succ j=>
   unfold fY at m
   refine sq<|pn 1 E z λ a E=>wS<|wif E m z (λ m=>?_) λ m=>?_
   ·refine wK<|aA<|wS<|wB<|sp 2 E z λ a E=>xp 3 E z λ a E=>bd m λ I e m=>?_
    obtain ⟨J,K,C⟩:=H.rowformNE (i:=0) z e
    refine sv2 E z (dG (d:=kS) E C z z z z U33 sz9 e) λ a E=>sv2 E z (uL (d:=kS) (i:=0) (k:=0) E H GP C z z z e z U9 z) λ a E=>have H:=H.frs [0,2,2] z;bd m λ L F m=>bK E (wn z) z z (bN E z z z ((cf_ 98) _)) (Gp H (b _ D) F)<|?_
    rintro _ w ⟨rfl,H⟩ a E
    refine nt<|wif E m z (λ m=>?_) λ m=>?_
    ·refine sq<|pn 2 E z λ a E=>wR<|bD<|aG<|aG<|bD<|aG<|o1 E z<|?_
     cases m
     exact ⟨z,H.reads b⟩
    ·exact wK<|bP<|aA<|wG<|pn 2 E z λ a E=>have H:=H.frs [1,1,2] z;⟨j,nL j,_,_,E.to z,H,b,m⟩
   ·refine wX<|aT<|aT<|cL<|aA<|sq<|pn 1 E z λ a E=>wR<|o1 E z<|have H:=H.frs [0,2,2] z;?_
    cases m
    exact ⟨z,H.reads b⟩

def hZ(d:List BY)(b:List aQ):Option Bool:=
  (mS d b).bind λ c=>some (decide (c ≥ 0))
theorem K5{o b d e f g i j k l:VL}{p:List BY}{q c:Nat}{n:List aQ}(H:Sep w (Row 9 kS o p::Blk q 28 [pt c 0]::Blk c 87 [d,e,f,b,g,i,j,k,l]::Fo) rs)(s:rSl aY b n ∈ rs){r:Bool}(m:hZ p n=some r) :
    Cf 97 [o,.func (.func 98) #[] #[pt q 0]] w λ v w'=>.bool r=v/\Sep w' (Blk q 28 [pt c 0]::Blk c 87 [d,e,f,b,g,i,j,k,l]::Row 9 kS o p::Fo) (rs):=by
 unfold hZ at m
 refine ent func97 z ntmps97 z z λ a E=>sp 1 E z λ a E=>xp 2 E z λ a E=>bd m λ u t m=>xk2 E z (cf_ 153) (O3 H s t) λ w H a E=>pn 2 E z λ a E=>wR<|o1 E z<|?_
 cases m
 exact ⟨z,H.reads Y0⟩

def tA(f:List aH)(g:List aL)(c:List aO)(d:List aE)(x20:aK)(e:Int):Option Yw:=
  if (e != 0)=true then ((dJ e).bind λ i=>some (i,f,g,c,d)) else ((tH f g c d x20.Pieces).bind λ b=>some (b.1,b.2.1,b.2.2.1,b.2.2.2.1,b.2.2.2.2))
def tB(d:List aH)(e:List aL)(b:List aO)(c:List aE)(x20:aK)(f:Int)(g:Bool):Option Yw:=
  if g=true then (tA d e b c x20 131) else (tA d e b c x20 f)
def xJ(f:List aH)(g:List aL)(j:List aF)(k:List aQ)(c:List aO)(d:List aE)(x20:aK):Option Yw:=
  (w4 x20.Pieces).bind λ e=>(hZ e k).bind λ i=>(qU j e).bind λ b=>if (b == 0)=true then (tB f g c d x20 b i) else (tB f g c d x20 b false)
theorem Kt{c:Nat}{L M t u e f g x y A j k l:VL}{N:List aH}{O:List aL}{b1:List aF}{b2:List aQ}{n:List aO}{o:List aE}{x20:aK}(H:Sep w (Blk c 87 [L,M,t,u,e,f,j,k,l]::Fo) rs)(B:rSl aB L N ∈ rs)(C:rSl aC M O ∈ rs)(T:rSl aN t b1 ∈ rs)(U:rSl aY u b2 ∈ rs)(D:rSl aP e n ∈ rs)(F:rSl aI f o ∈ rs)(G:rSl bR g x20.Pieces ∈ rs)(V:N5 Tryz.prog ∈ rs){r:aX×eI×dU×fQ×eD}(m:xJ N O b1 b2 n o x20=some r) :
    Cf 42 [pt c 0,.agg (aM x20 g x y A).toArray] w λ v w'=>∃ b3 b4 b5 b6 b7 b8 b9 P Q R,.agg (aW r.1 b3 b4 b5 b6 b7 b8).toArray=v/\Sep w' (Blk c 87 [b9,P,t,u,Q,R,j,k,l]::Fo) (rSl aZ b3 r.1.Results::rSl aB b4 r.1.Store.Nodes::rSl aC b5 r.1.Store.Turns::rSl aS b6 r.1.Events::rSl bI b7 r.1.Mounts::rSl (kI .i64) b8 r.1.Wounded::rSl aB b9 r.2.1::rSl aC P r.2.2.1::rSl aP Q r.2.2.2.1::rSl aI R r.2.2.2.2::rs):=by
 unfold xJ at m
 refine ent func42 z ntmps42 z z λ a E=>sq<|bx E H z λ p w a H E=>bx E H z λ q w a H E=>al2 E H z lQ λ s w a H E=>xp 1 E z λ a E=>lb2 E H 1 U26 z λ a E=>bd m λ d6 W m=>xc2 E z (cf_ 96) (Ij H G W)<|?_
 rintro _ w ⟨d7,rfl,H⟩ a E
 refine pr 1 E z λ a E=>xp 1 E z λ a E=>sv2 E z (nT E z z z) λ a E=>have H:=H.frs [2,2,4,4,4] z;bd m λ d8 X m=>xk2 E z (cf_ 97) (K5 H U X) λ w H a E=>pr 1 E z λ a E=>nx<|lb2 E H 0 U28 z λ a E=>pr 1 E z λ a E=>have H:=H.thaw (i:=2) z;have H:=H.frs [3,3,2,3] z;bd m λ S Y m=>xk2 E z (cf_ 100) (S7 H (t1 T) m0 Y) λ w H a E=>pn 1 E z λ a E=>aJ (λ a w=>∃ I,Jn 30 a w [(2,pt p 0),(3,pt q 0),(4,pt s 0),(7,.int .i64 I)] (Blk p 28 [pt c 0]::Blk q 37 (aM x20 g x y A)::Blk s 48 bJ::Blk c 87 [L,M,t,u,e,f,j,k,l]::Fo) rs (tA N O n o x20 I=some r)) ?_ ?_
 ·refine aJ (λ a w=>∃ J,Jn 30 a w [(2,pt p 0),(3,pt q 0),(4,pt s 0),(7,.int .i64 S),(21,.bool J)] (Blk p 28 [pt c 0]::Blk q 37 (aM x20 g x y A)::Blk s 48 bJ::Blk c 87 [L,M,t,u,e,f,j,k,l]::Fo) rs (tB N O n o x20 S J=some r)) ?_ ?_
  ·refine wG<|pr 3 E z λ a E=>cs m (λ d m=>?_) λ d m=>?_
   ·exact pk 2 E (kc 19 z d) z λ a E=>nt<|have H:=H.frs [0,2,3,3] z;⟨_,_,E.to z,H,(Y1 Y0),m⟩
   ·exact pk 2 E (kc 19 z d) z λ a E=>nt<|have H:=H.frs [0,2,3,3] z;⟨_,_,E.to z,H,(Y1 Y0),m⟩
  ·clear E H m
   rintro a w ⟨J,d4,E,H,K,m⟩
   unfold tB at m
   refine wif E m z (λ m=>?_) λ m=>?_
   ·exact wG<|pn 1 E z λ a E=>⟨_,_,E.to z,H,K,m⟩
   ·exact wK<|aA<|⟨_,_,E.to z,H,K,m⟩
 ·clear E H m
  rintro a w ⟨I,d5,E,H,b,m⟩
  unfold tA at m
  refine wS<|sq<|pn 2 E z λ a E=>wif E m z (λ m=>?_) λ m=>?_
  ·refine sp 1 E z λ a E=>bd m λ c0 Z m=>xc2 E z (cf_ 53) (fB H Z)<|?_
   rintro _ w ⟨c1,c2,c3,c4,c5,c6,rfl,H⟩ a E
   refine ss 2 E H z bV (bA H m0 mm1 mm2 mm3 mm4 mm5) λ w H=>nt<|wR<|aG<|oB 2 (aW c0 c1 c2 c3 c4 c5 c6) E H U48 z bV<|have H:=H.drs [0,0,0];?_
   cases m
   exact X10 ⟨z,H.rdx [0,1,2,3,4,5] z (aD (t6 (b _ B)) (aD (t6 (b _ C)) (aD (t6 (b _ D)) (aD (t6 (b _ F)) (λ r hr=>(t6 (b r hr)))))))⟩
  ·refine wK<|aA<|sq<|lb2 E H 0 U28 z λ a E=>pr 1 E z λ a E=>lb2 E H 1 U26 z λ a E=>have H:=H.frs [2,2,2,3] z;bd m λ c7 b0 m=>xc2 E z (cf_ 101) (Ab H (b _ B) (b _ C) (b _ D) (b _ F) (b _ G) (b _ V) b0)<|?_
   rintro _ w ⟨c8,c9,d0,d1,d2,d3,d9,e0,e1,e2,rfl,H⟩ a E
   refine ss 3 E H z bV (bA H m0 mm1 mm2 mm3 mm4 mm5) λ w H=>nt<|wR<|oB 3 (aW c7.1 c8 c9 d0 d1 d2 d3) E H U48 z bV<|have H:=H.drs [1,1,1];?_
   cases m
   exact X10 ⟨z,H.rdx [0,1,2,3,4,5,6] z (aD (t1 mm6) (aD (t2 mm6) (aD (t3 mm6) (λ r hr=>(t2 (t8 (b r hr)))))))⟩

def mL(b:aX×eI×dU×fQ×eD)(c:pK):Option Un:=
  some (b.1,b.2.1,b.2.2.1,b.2.2.2.1,b.2.2.2.2,c)
def kD(b:aX×eI×dU×fQ×eD)(c:List lL)(x20:aK)(d:Bool):Option Un:=
  if d=true then ((mpt (kyI .i64) c x20.Id b.1).bind λ e=>mL b e) else (mL b c)
def qF(c:List lL)(x20:aK)(f:List aH)(g:List aL)(d:List aO)(e:List aE)(k:List aF)(l:List aQ)(i:Bool):Option Un:=
  if i=true then ((dJ 2).bind λ j=>some (j,f,g,d,e,c)) else ((xJ f g k l d e x20).bind λ b=>if (x20.Id != 0)=true then (if (b.1.Err != 131)=true then (kD b c x20 (b.1.Err != 132)) else (kD b c x20 false)) else (kD b c x20 false))
def tV(b:List lL)(x20:aK)(e:List aH)(f:List aL)(c:List aO)(d:List aE)(g:List aF)(i:List aQ)(j:Bool)(k:Int)(l:Int)(m:Bool)(n:Int)(o:Q4)(p:eI)(q:dU)(s:zZ)(t:Jk)(u:(List Int)):Option Un:=
  if j=true then (some ((⟨k,l,m,n,o,(⟨p,q⟩:aR),s,t,u⟩:aX),e,f,c,d,b)) else (if (x20.Id != 0)=true then (qF b x20 e f c d g i ((b.length:Int) == 512)) else (qF b x20 e f c d g i false))
def pQ(f:List aH)(g:List aL)(i:List aF)(j:List aQ)(d:List aO)(e:List aE)(c:List lL)(x20:aK):Option Un:=
  (L3 (kyI .i64) c x20.Id vL).bind λ b=>tV c x20 f g d e i j b.2 b.1.Err b.1.At b.1.Yes b.1.Epoch b.1.Results b.1.Store.Nodes b.1.Store.Turns b.1.Events b.1.Mounts b.1.Wounded
theorem Fd{p f:Nat}{d4 d5 N O L M q G I J s t:VL}{f8:List aH}{f9:List aL}{g0:List aF}{g1:List aQ}{c1:List aO}{c2:List aE}{u:List lL}{x20:aK}(H:Sep w (Blk p 87 [d4,d5,N,O,L,M,.map (some f),s,t]::bX Tryz.prog 2 (kyI .i64) bC true f u::Fo) rs)(b6:rSl aB d4 f8 ∈ rs)(b7:rSl aC d5 f9 ∈ rs)(g9:rSl aN N g0 ∈ rs)(i0:rSl aY O g1 ∈ rs)(b8:rSl aP L c1 ∈ rs)(b9:rSl aI M c2 ∈ rs)(i1:rSl bR q x20.Pieces ∈ rs)(i2:N5 Tryz.prog ∈ rs){r:aX×eI×dU×fQ×eD×pK}(m:pQ f8 f9 g0 g1 c1 c2 u x20=some r) :
    Cf 54 [pt p 0,.agg (aM x20 q G I J).toArray,.func (.func 42) #[] #[]] w λ v w'=>∃ i7 i8 i9 j0 j1 j2 j3 g6 g7 g8,.agg (aW r.1 i7 i8 i9 j0 j1 j2).toArray=v/\Sep w' (Blk p 87 [j3,g6,N,O,g7,g8,.map (some f),s,t]::bX Tryz.prog 2 (kyI .i64) bC true f r.2.2.2.2.2::Fo) (rSl aZ i7 r.1.Results::rSl aB i8 r.1.Store.Nodes::rSl aC i9 r.1.Store.Turns::rSl aS j0 r.1.Events::rSl bI j1 r.1.Mounts::rSl (kI .i64) j2 r.1.Wounded::rSl aB j3 r.2.1::rSl aC g6 r.2.2.1::rSl aP g7 r.2.2.2.1::rSl aI g8 r.2.2.2.2.1::rs):=by
 unfold pQ at m
 refine ent func54 z ntmps54 z z λ a E=>sq<|bx E H z λ l w a H E=>al2 E H z lQ λ x w a H E=>nt<|wS<|aJ (λ a w=>∃ d6 V X Y Z b0 b1 d7 b2 b3 b4 b5 d8 d9 e0 e1 e2 e3 g,Env 59 a [(0,pt p 0),(2,.func (.func 42) #[] #[]),(4,pt l 0),(6,pt x 0),(7,pt d6 0),(8,.bool d7)]/\Sep w (Blk p 87 [d4,d5,N,O,L,M,.map (some f),s,t]::Blk l 37 (aM x20 q G I J)::Blk x 48 bJ::Blk d6 48 [.int .i64 b2,.int .i64 b3,.bool b4,.int .i64 b5,V,X,Y,Z,b0,b1]::bX Tryz.prog 2 (kyI .i64) bC true f u::Fo) g/\(∀ r,r ∈ rs->r ∈ g)/\rSl aZ V d8 ∈ g/\rSl aB X d9 ∈ g/\rSl aC Y e0 ∈ g/\rSl aS Z e1 ∈ g/\rSl bI b0 e2 ∈ g/\rSl (kI .i64) b1 e3 ∈ g/\tV u x20 f8 f9 c1 c2 g0 g1 d7 b2 b3 b4 b5 d8 d9 e0 e1 e2 e3=some r) ?_ ?_
 ·refine bd m λ k1 c3 m=>?_
  have hI:dI [Blk l 37 (aM x20 q G I J),Blk p 87 [d4,d5,N,O,L,M,.map (some f),s,t]] [] { w with drawn:=w.drawn+1 }:=⟨_,_,H.kept (Kp.drawn _ w _),(aU mm1 (aU mm2 (bH))),(bO)⟩
  refine oN _ (.go 0 0 (.go 1 0 (.go 2 0 (.go 3 0 (.go 4 0 (.go 5 0 (.alt 6 (.go 7 0 (.go 8 0 (.go 9 0 (.go 10 1 (.go 11 1 (.go 12 2 .nil)))))) 10 (.go 6 1 (.go 7 0 (.go 8 0 (.go 9 0 (.go 11 1 (.go 12 2 .nil))))))))))))) [12] pI (by kernel_rfl) (λ _ _ _ h=>False.elim h.2) hI<|have H:=H.kept (Kp.drawn _ w (w.drawn+1));?_
  generalize ({ w with drawn:=w.drawn+1 }:WD)=w at H hI ⊢
  replace hI:∃ W,dI [Blk l 37 (aM x20 q G I J),Blk p 87 [d4,d5,N,O,L,M,.map (some f),s,t]] [] W:=⟨_,hI⟩
  obtain ⟨W0,hI⟩:=hI
  refine om E z λ a E=>ov E z (λ w hW=>(zB E z z)) λ a E=>ov E z (λ w hW=>mM E z z (v:=pt p 6) (Hq _ _)) λ a E=>ol E mm1 U84 z λ a E=>ov E z (λ w hW=>mM E z z (v:=pt l 1) (Hp _ _)) λ a E=>ol E m0 U2 z λ a E=>oO z z ?_ ?_
  ·refine sL (i:=3) (K:=(kyI .i64)) E H (wn z) z z z z z z (gA U2) U84 Q3 Az c3 λ k2 a H E=>?_
   obtain ⟨k3,k4,k5,k6,k7,k8,rfl,h⟩:=oP H;clear H;have H:=h
   refine nt<|⟨sx H [1,2] z,om E z λ a E=>ox E z λ a E=>ox E z λ a E=>cF z<|al2 E H z lQ λ k9 w a H E=>nt<|⟨sx H [2,3] z,cF z<|ss 0 E H z bV (bA H mm5 mm4 mm3 mm2 mm1 m0) λ w H=>nt<|⟨sx H [2,3] z,cV z<|pn 1 E z λ a E=>fA<|?_⟩⟩⟩
   clear hI
   exact aA<|have H:=H.frs [4,1,2,3,4] z;X19 ⟨E.to z,H,(Y7 Y0),mm5,mm4,mm3,mm2,mm1,m0,m⟩
  ·refine al2 E H z lQ λ l0 w a H E=>nt<|⟨sx H [2,3] z,cF z<|sL (i:=4) (K:=(kyI .i64)) E H (wn z) z z z z z z (gA U2) U84 Q3 Az c3 λ l1 a H E=>?_⟩
   obtain ⟨l2,l3,l4,l5,l6,l7,rfl,h⟩:=oP H;clear H;have H:=h
   refine nt<|⟨sx H [2,3] z,om E z λ a E=>ox E z λ a E=>ox E z λ a E=>cF z<|ss 0 E H z bV (bA H mm5 mm4 mm3 mm2 mm1 m0) λ w H=>nt<|⟨sx H [2,3] z,cV z<|pn 1 E z λ a E=>fA<|?_⟩⟩
   clear hI
   exact aA<|have H:=H.frs [4,1,2,3,4] z;X19 ⟨E.to z,H,(Y7 Y0),mm5,mm4,mm3,mm2,mm1,m0,m⟩
 ·clear E H m
  rintro a w ⟨d6,V,X,Y,Z,b0,b1,d7,b2,b3,b4,b5,d8,d9,e0,e1,e2,e3,g,E,H,k,e4,e5,e6,e7,e8,e9,m⟩
  unfold tV at m
  refine sq<|pn 1 E z λ a E=>wif E m z (λ m=>?_) λ m=>?_
  ·refine sq<|ln 3 [.int .i64 b2,.int .i64 b3,.bool b4,.int .i64 b5,V,X,Y,Z,b0,b1] E H U48 z bV λ a E=>ss 2 E H z bV (bA H e4 e5 e6 e7 e8 e9) λ w H=>nt<|wR<|aG<|oB 2 [.int .i64 b2,.int .i64 b3,.bool b4,.int .i64 b5,V,X,Y,Z,b0,b1] E H U48 z bV<|have H:=H.drs [1,1,1];?_
   cases m
   exact X10 ⟨z,H.reads (aD e4 (aD e5 (aD e6 (aD e7 (aD e8 (aD e9 (aD (k _ b6) (aD (k _ b7) (aD (k _ b8) (aD (k _ b9) (k)))))))))))⟩
  ·refine wK<|aA<|wS<|aJ (λ a w=>∃ f0,Jn 59 a w [(0,pt p 0),(2,.func (.func 42) #[] #[]),(4,pt l 0),(6,pt x 0),(32,.bool f0)] (Blk p 87 [d4,d5,N,O,L,M,.map (some f),s,t]::Blk l 37 (aM x20 q G I J)::Blk x 48 bJ::bX Tryz.prog 2 (kyI .i64) bC true f u::Fo) rs (qF u x20 f8 f9 c1 c2 g0 g1 f0=some r)) ?_ ?_
   ·refine wG<|pr 1 E z λ a E=>lb2 E H 1 U2 z λ a E=>pr 2 E z λ a E=>cs m (λ j m=>?_) λ j m=>?_
    ·exact pk 3 E (kc 25 z j) z λ a E=>gl 25 E H 0 j U84 z λ a E=>gv 25 E j z (X2 (i:=4) E H z z z U84) λ a E=>pk 2 E (kc 25 z j) z λ a E=>nt<|have H:=H.drop 3;⟨_,_,E.to z,H,k,m⟩
    ·exact pk 7 E (kc 25 z j) z λ a E=>nt<|have H:=H.drop 3;⟨_,_,E.to z,H,k,m⟩
   ·clear E H m
    rintro a w ⟨f0,l8,E,H,d,m⟩
    unfold qF at m
    refine wif E m z (λ m=>?_) λ m=>?_
    ·refine sq<|bd m λ j4 i3 m=>xc2 E z (cf_ 53) (fB H i3)<|?_
     rintro _ w ⟨j5,j6,j7,j8,j9,k0,rfl,H⟩ a E
     refine ss 2 E H z bV (bA H m0 mm1 mm2 mm3 mm4 mm5) λ w H=>nt<|wR<|aG<|oB 2 (aW j4 j5 j6 j7 j8 j9 k0) E H U48 z bV<|have H:=H.drs [1,1];?_
     cases m
     exact X10 ⟨z,H.rdx [0,1,2,3,4,5] z (aD (t6 (d _ b6)) (aD (t6 (d _ b7)) (aD (t6 (d _ b8)) (aD (t6 (d _ b9)) (λ r hr=>(t6 (d r hr)))))))⟩
    ·refine wK<|aA<|sp 2 E z λ a E=>ln 1 (aM x20 q G I J) E H U37 z z7 λ a E=>bd m λ b i4 m=>bK E (wn z) z z (bN E z z z ((cf_ 42) _)) (Kt H (d _ b6) (d _ b7) (d _ g9) (d _ i0) (d _ b8) (d _ b9) (d _ i1) (d _ i2) i4)<|?_
     rintro _ w ⟨y,A,B,C,D,F,c4,c5,c6,c7,rfl,H⟩ a E
     refine al2 E H z lQ λ c8 w a H E=>ss 0 E H z bV (bA H m0 mm1 mm2 mm3 mm4 mm5) λ w H=>nt<|aJ (λ a w=>∃ f1 e,Env 59 a [(6,pt x 0),(9,pt c8 0)]/\Sep w (Blk x 48 bJ::Blk c8 48 (aW b.1 y A B C D F)::Blk p 87 [c4,c5,N,O,c6,c7,.map (some f),s,t]::bX Tryz.prog 2 (kyI .i64) bC true f f1::Fo) e/\(∀ r,r ∈ rs->r ∈ e)/\rSl aZ y b.1.Results ∈ e/\rSl aB A b.1.Store.Nodes ∈ e/\rSl aC B b.1.Store.Turns ∈ e/\rSl aS C b.1.Events ∈ e/\rSl bI D b.1.Mounts ∈ e/\rSl (kI .i64) F b.1.Wounded ∈ e/\rSl aB c4 b.2.1 ∈ e/\rSl aC c5 b.2.2.1 ∈ e/\rSl aP c6 b.2.2.2.1 ∈ e/\rSl aI c7 b.2.2.2.2 ∈ e/\mL b f1=some r) ?_ ?_
     ·refine aJ (λ a w=>∃ c0 c,Env 59 a [(0,pt p 0),(4,pt l 0),(6,pt x 0),(9,pt c8 0),(50,.bool c0)]/\Sep w (Blk p 87 [c4,c5,N,O,c6,c7,.map (some f),s,t]::Blk l 37 (aM x20 q G I J)::Blk x 48 bJ::Blk c8 48 (aW b.1 y A B C D F)::bX Tryz.prog 2 (kyI .i64) bC true f u::Fo) c/\(∀ r,r ∈ rs->r ∈ c)/\rSl aB c4 b.2.1 ∈ c/\rSl aC c5 b.2.2.1 ∈ c/\rSl aP c6 b.2.2.2.1 ∈ c/\rSl aI c7 b.2.2.2.2 ∈ c/\rSl aZ y b.1.Results ∈ c/\rSl aB A b.1.Store.Nodes ∈ c/\rSl aC B b.1.Store.Turns ∈ c/\rSl aS C b.1.Events ∈ c/\rSl bI D b.1.Mounts ∈ c/\rSl (kI .i64) F b.1.Wounded ∈ c/\kD b u x20 c0=some r) ?_ ?_
      ·refine wG<|pr 1 E z λ a E=>lb2 E H 2 U2 z λ a E=>pr 2 E z λ a E=>cs m (λ n m=>?_) λ n m=>?_
       ·refine pk 1 E (kc 41 z n) z λ a E=>gl 41 E H 0 n U41 z λ a E=>pk 3 E (kc 41 z n) z λ a E=>cs m (λ o m=>?_) λ o m=>?_
        ·exact pk 1 E (kc 46 z o) z λ a E=>gl 46 E H 0 o U41 z λ a E=>pk 2 E (kc 46 z o) z λ a E=>nt<|have H:=H.frs [4,1,4,4,4] z;⟨_,_,E.to z,H,(Y2 (Y8 d)),mm6,(t1 mm6),(t2 mm6),(t3 mm6),m0,mm1,mm2,mm3,mm4,mm5,m⟩
        ·exact pk 4 E (kc 46 z o) z λ a E=>nt<|have H:=H.frs [4,1,4,4,4] z;⟨_,_,E.to z,H,(Y2 (Y8 d)),mm6,(t1 mm6),(t2 mm6),(t3 mm6),m0,mm1,mm2,mm3,mm4,mm5,m⟩
       ·exact pk 9 E (kc 41 z n) z λ a E=>nt<|have H:=H.frs [4,1,4,4,4] z;⟨_,_,E.to z,H,(Y2 (Y8 d)),mm6,(t1 mm6),(t2 mm6),(t3 mm6),m0,mm1,mm2,mm3,mm4,mm5,m⟩
      ·clear E H m
       rintro a w ⟨c0,c,E,H,c9,d0,d1,d2,d3,P,Q,R,S,T,U,m⟩
       unfold kD at m
       refine wif E m z (λ m=>?_) λ m=>?_
       ·refine dz [0,0,0,0,0,0,0,2] [0,1,3] H λ w W0 hI H=>fn 3 E z λ a E=>fb2 E m0 U84 z λ a E=>fn 1 E z λ a E=>fb2 E mm1 U2 z λ a E=>fbn E (aW b.1 y A B C D F) z (wn z) z z z z mm2 z U48 z bV λ a E=>bL z<|bd m λ l9 g2 m=>T8 (i:=4) (K:=(kyI .i64)) (v:=b.1) (cs:=[.int .i64 b.1.Err,.int .i64 b.1.At,.bool b.1.Yes,.int .i64 b.1.Epoch,y,A,B,C,D,F]) E H (wn z) z z z z z z (gA U2) U84 g2 (λ ok hr=>(sO (hr _ P) (hr _ Q) (hr _ R) (hr _ S) (hr _ T) (hr _ U))) λ w H=>nt<|bB<|?_
        clear hI
        exact aA<|have H:=H.drop 1;have H:=H.frs [3,1,3,3] z;⟨_,_,E.to z,H,c9,P,Q,R,S,T,U,d0,d1,d2,d3,m⟩
       ·exact wK<|aA<|have H:=H.drop 1;have H:=H.frs [3,1,3,3] z;⟨_,_,E.to z,H,c9,P,Q,R,S,T,U,d0,d1,d2,d3,m⟩
     ·clear E H m
      rintro a w ⟨f1,e,E,H,i5,f2,f3,f4,f5,f6,f7,i6,g3,g4,g5,m⟩
      unfold mL at m
      refine sq<|ln 1 (aW b.1 y A B C D F) E H U48 z bV λ a E=>ss 0 E H z bV (bA H f2 f3 f4 f5 f6 f7) λ w H=>nt<|wR<|oB 0 (aW b.1 y A B C D F) E H U48 z bV<|have H:=H.drs [0,0];?_
      cases m
      exact X10 ⟨z,H.reads (aD f2 (aD f3 (aD f4 (aD f5 (aD f6 (aD f7 (aD i6 (aD g3 (aD g4 (aD g5 (i5)))))))))))⟩

def sD(x1:Int):Option Bool:=
  if (decide (x1 ≥ 0))=true then (some (decide (x1 <= 281474976710656))) else (some (false))
theorem K6{x1:Int}(H:Sep w (Fo) rs){r:Bool}(m:sD x1=some r) :
    Cf 163 [.int .i64 x1] w λ v w'=>.bool r=v/\Sep w' (Fo) (rs):=by
 unfold sD at m
 refine ent func163 z ntmps163 z z λ a E=>sp 1 E z λ a E=>xp 3 E z λ a E=>cs m (λ b m=>?_) λ b m=>?_
 ·refine pk 4 E (kc 5 z b) z λ a E=>nt<|wR<|o1 E z<|?_
  cases m
  exact ⟨z,H.reads Y0⟩
 ·refine pk 4 E (kc 5 z b) z λ a E=>nt<|wR<|o1 E z<|?_
  cases m
  exact ⟨z,H.reads Y0⟩

def jE(rec_1:Int->Bw->Option Bool)(e:Bw)(b:aQ)(f:Int)(c:Bool):Option Bool:=
  if c=true then (some (false)) else ((mpt (kyI .i64) e b.Txn b.Age).bind λ d=>rec_1 (IntKind.i64.wrap (f+1)) d)
def eE(d:List aQ):Nat->Int->Bw->Option Bool
  | 0,_,_=>none
  | f+1,c,e=>
    if (decide (c < (d.length:Int)))=true then ((idx d c).bind λ b=>(mlk (kyI .i64) e b.Txn).bind λ g=>(gH b.Dir).bind λ i=>if (!i)=true then (jE (eE d f) e b c true) else ((sD b.Txn).bind λ j=>if (!j)=true then (jE (eE d f) e b c true) else ((sD b.Age).bind λ k=>if (!k)=true then (jE (eE d f) e b c true) else (if g.isSome=true then (if ((g.getD 0) != b.Age)=true then (jE (eE d f) e b c true) else (if (decide (c > 0))=true then ((idx d (IntKind.i64.wrap (c - 1))).bind λ l=>jE (eE d f) e b c (!(sLt l.Dir b.Dir))) else (jE (eE d f) e b c false))) else (if (decide (c > 0))=true then ((idx d (IntKind.i64.wrap (c - 1))).bind λ m=>jE (eE d f) e b c (!(sLt m.Dir b.Dir))) else (jE (eE d f) e b c false)))))) else (some (true))
def C7(b:List aQ):Option Bool:=
  eE b (((b.length:Int) - 0:Int).toNat+1) 0 []
theorem Sb{s:VL}{p:List aQ}(H:Sep w (Fo) rs)(t:rSl aY s p ∈ rs){r:Bool}(m:C7 p=some r) :
    Cf 162 [s] w λ v w'=>.bool r=v/\Sep w' (Fo) (rs):=by
 unfold C7 at m
 refine ent func162 z ntmps162 z z λ a E=>sp 1 E z λ a E=>nx<|C9 (k:=2) (K:=(kyI .i64)) (d:=(kI .i64)) (g:=false) E H (wn z) z z z λ C w a H E=>pn 1 E z λ a E=>wS<|sq<|pr 1 E z λ a E=>lS E H t U58 z λ a E=>pn 1 E z λ a E=>wB<|bG (λ q a w=>∃ x y,Jn 69 a w [(0,s),(3,.map (some C)),(9,s),(10,.int .i64 (p.length:Int)),(11,.int .i64 x)] (bX Tryz.prog 2 (kyI .i64) (kI .i64) false C y::Fo) rs (eE p q x y=some r)) (((p.length:Int) - 0:Int).toNat+1) ?_ ?_
 ·exact X3 ⟨E.to z,H,Y0,m⟩
 ·clear E H m
  rintro q a w ⟨x,y,Z,E,H,e,m⟩
  cases q with
  | zero=>exact (bE m z).elim
  | succ q=>
   unfold eE at m
   refine sq<|pn 1 E z λ a E=>wS<|wif E m z (λ m=>?_) λ m=>?_
   ·refine wK<|aA<|wS<|wB<|sp 1 E z λ a E=>bd m λ F G m=>dB E H (wn z) z z z z z (e _ t) U58 jZ G λ q11 a H E=>ldf gR E H z z z z z m0 U78 z jZ λ a E=>al2 E H z DU λ D w a H E=>pr 1 E z λ a E=>ss 0 E H z jZ z λ w H=>xp 2 E z λ a E=>lb2 E H 0 U2 z λ a E=>bd m λ X I m=>sv2 E z (GM (i:=1) (K:=(kyI .i64)) (z0:=0) (u:=X) E H z z z z (gA U2) MH QE I) λ a E=>pr 5 E z λ a E=>nt<|wS<|aJ (λ a w=>∃ A,Jn 69 a w [(0,s),(3,.map (some C)),(5,pt D 0),(9,s),(10,.int .i64 (p.length:Int)),(11,.int .i64 x),(62,.bool A)] (bX Tryz.prog 2 (kyI .i64) (kI .i64) false C y::Blk D 78 (uY F)::Fo) rs (jE (eE p q) y F x A=some r)) ?_ ?_
    ·obtain ⟨b0,H⟩:=H.raw (t1 (e _ t))
     refine dw [(0,0),(1,0),(2,1),(3,0),(4,0),(5,0),(6,0),(7,1),(8,0),(9,0),(10,0),(11,0),(12,0),(13,1),(14,0),(15,0),(16,0),(17,0),(18,0),(19,0),(20,0),(21,0),(22,0),(23,0),(24,0),(25,0),(26,0),(27,0),(28,0),(29,0),(30,0),(31,0),(32,0),(33,0),(34,0),(35,0),(36,0),(37,0),(38,0),(39,0)] [0] [0] H (by kernel_rfl) (λ _ _ _ h=>False.elim h.2) λ w W0 hI H=>fn 1 E z λ a E=>fb2 E m0 U9 z λ a E=>bQ z<|bd m λ b1 J m=>xk2 E z (cf_ 83) (kK H J) λ w H a E=>nt<|⟨⟨_,_,H,(aU m0 (bH)),(aD m0 (bO))⟩,fn 2 E z λ a E=>cs m (λ f m=>?_) λ f m=>?_⟩
     ·refine fk 2 E (kc 27 z f) z λ a E=>bQ z<|pk 1 E (kc 27 z f) z λ a E=>nt<|⟨⟨_,_,H,(aU m0 (bH)),(aD m0 (bO))⟩,fk 5 E (kc 27 z f) z λ a E=>bQ z<|pn 1 E z λ a E=>⟨⟨_,_,H,(aU m0 (bH)),(aD m0 (bO))⟩,fn 26 E z λ a E=>bB<|?_⟩⟩
      clear hI
      exact aA<|have H:=H.frs [0,1] z;⟨_,_,E.to z,H,(Y2 e),m⟩
     ·refine fk 1 E (kc 27 z f) z λ a E=>fb E z (ws' (d:=27) E z z z z f) z z z z m0 z U2 z λ a E=>bQ z<|bd m λ b2 L m=>gc 27 E f z (cf_ 163) (K6 H L)<|?_
      rintro _ w ⟨rfl,H⟩ a E
      refine nt<|⟨⟨_,_,H,(aU m0 (bH)),(aD m0 (bO))⟩,fk 3 E (kc 27 z f) z λ a E=>cs m (λ j m=>?_) λ j m=>?_⟩
      ·refine fk 2 E (kc 33 z j) z λ a E=>bQ z<|pk 1 E (kc 33 z j) z λ a E=>nt<|⟨⟨_,_,H,(aU m0 (bH)),(aD m0 (bO))⟩,fk 26 E (kc 33 z j) z λ a E=>bB<|?_⟩
       clear hI
       exact aA<|have H:=H.frs [0,1] z;⟨_,_,E.to z,H,(Y2 e),m⟩
      ·refine fk 1 E (kc 33 z j) z λ a E=>fb E z (ws' (d:=33) E z z z z j) z z z z m0 z U2 z λ a E=>bQ z<|bd m λ b3 M m=>gc 33 E j z (cf_ 163) (K6 H M)<|?_
       rintro _ w ⟨rfl,H⟩ a E
       refine nt<|⟨⟨_,_,H,(aU m0 (bH)),(aD m0 (bO))⟩,fk 3 E (kc 33 z j) z λ a E=>cs m (λ l m=>?_) λ l m=>?_⟩
       ·refine fk 23 E (kc 39 z l) z λ a E=>bB<|?_
        clear hI
        exact aA<|have H:=H.frs [0,1] z;⟨_,_,E.to z,H,(Y2 e),m⟩
       ·refine fk 2 E (kc 39 z l) z λ a E=>cs m (λ n m=>?_) λ n m=>?_
        ·refine fk 2 E (kc 41 z n) z λ a E=>fb E z (ws' (d:=41) E z z z z n) z z z z m0 z U2 z λ a E=>fk 4 E (kc' (kc 41 z n) 39 z l) z λ a E=>cs m (λ o m=>?_) λ o m=>?_
         ·refine fk 14 E (kc 48 z o) z λ a E=>bB<|?_
          clear hI
          exact aA<|have H:=H.frs [0,1] z;⟨_,_,E.to z,H,(Y2 e),m⟩
         ·refine fk 3 E (kc 48 z o) z λ a E=>cs m (λ b m=>?_) λ b m=>?_
          ·refine fk 3 E (kc 51 z b) z λ a E=>bd m λ b4 N m=>?_
           obtain ⟨q35,b5,O,Q⟩:=fW (P:=Tryz.prog) (k:=.i64) hI (fV (.head _)) U58 jZ N
           refine cU E z (ws' (d:=51) E z z z z b) z z (λ w hW=>iD E z z z (O w)) λ a E=>?_
           have R:=gY Q (λ _ _ _ h=>xT h)
           refine fk 1 E (kc 51 z b) z λ a E=>fa E z (ws' (d:=51) E z z z z b) z z z z R U9 z λ a E=>fk 1 E (kc 51 z b) z λ a E=>fb E z (ws' (d:=51) E z z z z b) z z z z m0 z U9 z λ a E=>fk 3 E (kc' (kc 51 z b) 48 z o) z λ a E=>bB<|?_
           clear hI
           exact aA<|have H:=H.frs [0,1] z;⟨_,_,E.to z,H,(Y2 e),m⟩
          ·refine fk 11 E (kc' (kc 51 z b) 48 z o) z λ a E=>bB<|?_
           clear hI
           exact aA<|have H:=H.frs [0,1] z;⟨_,_,E.to z,H,(Y2 e),m⟩
        ·refine fk 10 E (kc' (kc 41 z n) 39 z l) z λ a E=>cs m (λ c m=>?_) λ c m=>?_
         ·refine fk 3 E (kc 51 z c) z λ a E=>bd m λ b6 S m=>?_
          obtain ⟨q43,b7,T,U⟩:=fW (P:=Tryz.prog) (k:=.i64) hI (fV (.head _)) U58 jZ S
          refine cU E z (ws' (d:=51) E z z z z c) z z (λ w hW=>iD E z z z (T w)) λ a E=>?_
          have V:=gY U (λ _ _ _ h=>xT h)
          refine fk 1 E (kc 51 z c) z λ a E=>fa E z (ws' (d:=51) E z z z z c) z z z z V U9 z λ a E=>fk 1 E (kc 51 z c) z λ a E=>fb E z (ws' (d:=51) E z z z z c) z z z z m0 z U9 z λ a E=>fk 3 E (kc 51 z c) z λ a E=>bB<|?_
          clear hI
          exact aA<|have H:=H.frs [0,1] z;⟨_,_,E.to z,H,(Y2 e),m⟩
         ·refine fk 11 E (kc 51 z c) z λ a E=>bB<|?_
          clear hI
          exact aA<|have H:=H.frs [0,1] z;⟨_,_,E.to z,H,(Y2 e),m⟩
    ·clear E H m
     rintro a w ⟨A,Y,E,H,B,m⟩
     unfold jE at m
     refine wif E m z (λ m=>?_) λ m=>?_
     ·refine sq<|pn 1 E z λ a E=>wR<|aG<|bD<|aG<|aG<|bD<|aG<|o1 E z<|have H:=H.drs [0,0];?_
      cases m
      exact ⟨z,H.reads B⟩
     ·exact wK<|aA<|wG<|pr 2 E z λ a E=>lb2 E H 1 U2 z λ a E=>pr 1 E z λ a E=>lb2 E H 1 U2 z λ a E=>bd m λ b8 W m=>Xc (i:=0) (K:=(kyI .i64)) (v:=F.Age) E H (wn z) z z z z z z (gA U2) MH W λ w H=>wN<|bP<|aA<|wG<|pn 2 E z λ a E=>have H:=H.drop 1;⟨q,nL q,X3 ⟨E.to z,H,B,m⟩⟩
   ·refine wX<|aT<|aT<|cL<|aA<|sq<|pn 1 E z λ a E=>wR<|o1 E z<|have H:=H.drop 0;?_
    cases m
    exact ⟨z,H.reads e⟩

def lF(b:List ((Int)×Int)):Option Unit:=
  some ()
theorem K7{c:Nat}{d:List ((Int)×Int)}(H:Sep w (bX Tryz.prog 2 (kyI .i64) (kI .i64) false c d::Fo) rs){r:Unit}(m:lF d=some r) :
    Cf 167 [.map (some c)] w λ v w'=>∃ b,.func (.func 238) #[] #[pt b 0]=v/\Sep w' (Blk b 209 [.map (some c)]::bX Tryz.prog 2 (kyI .i64) (kI .i64) false c d::Fo) (rs):=by
 unfold lF at m
 refine ent func167 z ntmps167 z z λ a E=>sq<|bx E H z λ e w a H E=>pr 1 E z λ a E=>nx<|sv2 E z (nT E z z z) λ a E=>pn 1 E z λ a E=>wR<|o1 E z<|?_
 cases m
 exact ⟨_,z,H.reads Y0⟩

def uU(x1:aQ)(b:BY):Option Int:=
  (qI x1.Dir b).bind λ c=>some (c)
theorem Dy{x1:aQ}{b:BY}(H:Sep w (Fo) rs){r:Int}(m:uU x1 b=some r) :
    Cf 169 [.agg (uY x1).toArray,.string b] w λ v w'=>.int .i64 r=v/\Sep w' (Fo) (rs):=by
 unfold uU at m
 refine ent func169 z ntmps169 z z λ a E=>sq<|bx E H z λ d w a H E=>pr 1 E z λ a E=>xp 1 E z λ a E=>lb2 E H 0 U9 z λ a E=>pr 1 E z λ a E=>bd m λ e c m=>xk2 E z (cf_ 113) (xB H c) λ w H a E=>pn 1 E z λ a E=>wR<|o1 E z<|have H:=H.drop 0;?_
 cases m
 exact ⟨z,H.reads Y0⟩

end Go.Cb
