/- Functions of the program, walked: each comes to its plain function. -/
import Derived.Test.YteakhlfapjaodaaGreatDoorKsh2
import Derived.Test.YteakhlfapjaodaaGreatDoorExsh
import Derived.Test.YteakhlfapjaodaaGreatDoorS1sh
import Derived.Test.YteakhlfapjaodaaGreatDoorSssh
import Derived.Test.YteakhlfapjaodaaGreatDoorStsh
set_option linter.unusedVariables false
set_option linter.unusedSimpArgs false
set_option maxRecDepth 20000
set_option maxHeartbeats 1000000
namespace Go.Cb
open Go.Proofs Go.RowKit Tryz
variable {w:WD} {Fo:List Ob} {rs:List Rp}

def hF(rec_1:Int->eZ->dY->Option Z5)(b:Int)(c:eZ)(d:dY):Option Z5:=
  rec_1 (IntKind.i64.wrap (b+1)) c d
def oH(rec_1:Int->eZ->dY->Option Z5)(d:Int)(b:cT)(e:cJ):Nat->Int->eZ->dY->Option Z5
  | 0,_,_,_=>none
  | l+1,c,f,g=>
    if (decide (c < (b.Names.length:Int)))=true then ((idx b.Names c).bind λj=>(J5 e.Part.Path j).bind λk=>(gQ f g 2 k.1).bind λi=>oH rec_1 d b e l (IntKind.i64.wrap (c+1)) i.1 i.2) else (hF rec_1 d f g)
def dQ(c:List cJ)(d:List cT):Nat->Int->eZ->dY->Option Z5
  | 0,_,_,_=>none
  | i+1,b,f,g=>
    if (decide (b < (c.length:Int)))=true then ((idx c b).bind λe=>if (e.Part.Kind == 2)=true then ((idx d b).bind λn=>(gQ f g 1 n.Path).bind λj=>hF (dQ c d i) b j.1 j.2) else (if (e.Part.Kind == 3)=true then ((gQ f g 2 e.Part.Path).bind λk=>hF (dQ c d i) b k.1 k.2) else (if (e.Part.Kind == 5)=true then ((gQ f g 3 e.Part.Path).bind λl=>hF (dQ c d i) b l.1 l.2) else (if (e.Part.Kind == 10)=true then ((idx d b).bind λm=>oH (dQ c d i) b m e (((m.Names.length:Int) - 0:Int).toNat+1) 0 f g) else (hF (dQ c d i) b f g))))) else (some (f,g))
def wM(c:List aP)(d:List aE)(b:List cJ)(e:List cT):Option Z5:=
  dQ b e (((b.length:Int) - 0:Int).toNat+1) 0 c d
theorem La{k:Nat}{Y Z l n o p q s t u x:VL}{b0:List aP}{b1:List aE}{c:List cJ}{y:List cT}(H:Sep w (Blk k 87 [o,p,q,s,Y,Z,t,u,x]::Fo) rs)(b5:rSl aR Y b0 ∈ rs)(b6:rSl aJ Z b1 ∈ rs)(D:rSl bN l c ∈ rs)(F:rSl aX n y ∈ rs){r:eZ×dY}(m:wM b0 b1 c y=some r) :
    Cf 158 [pt k 0,l,n] w λv w'=>∃ c9 d0,.tuple #[]=v/\Sep w' (Blk k 87 [o,p,q,s,c9,d0,t,u,x]::Fo) (rSl aR c9 r.1::rSl aJ d0 r.2::rs):=by
 unfold wM at m;refine ent func158 z ntmps158 z z λa E=>sp 1 E z λa E=>lS E H D U26 z λa E=>pn 1 E z λa E=>wB<|bF (λA a w=>∃ G I g J K i,Env 70 a [(0,pt k 0),(2,n),(12,l),(13,.int .i64 (c.length:Int)),(14,.int .i64 g)]/\Sep w (Blk k 87 [o,p,q,s,G,I,t,u,x]::Fo) i/\(∀ r,r ∈ rs->r ∈ i)/\rSl aR G J ∈ i/\rSl aJ I K ∈ i/\dQ c y A g J K=some r) (((c.length:Int) - 0:Int).toNat+1) ?_ ?_
 ·exact X6 ⟨E.to z,H,Y0,b5,b6,m⟩
 ·clear E H m;rintro A a w ⟨G,I,g,J,K,i,E,H,b,d,e,m⟩;cases A with
  | zero=>exact (bD m z).elim
  | succ A=>
   unfold dQ at m;refine sq<|pn 1 E z λa E=>wS<|wif E m z (λm=>?_) λm=>?_
   ·refine wK<|aA<|aL (λa w=>∃ L M N O j,Env 70 a [(0,pt k 0),(2,n),(12,l),(13,.int .i64 (c.length:Int)),(14,.int .i64 g)]/\Sep w (Blk k 87 [o,p,q,s,L,M,t,u,x]::Fo) j/\(∀ r,r ∈ rs->r ∈ j)/\rSl aR L N ∈ j/\rSl aJ M O ∈ j/\hF (dQ c y A) g N O=some r) ?_ ?_
    ·refine wB<|sp 1 E z λa E=>bd m λb2 b7 m=>dC E H (wn z) z z z z z (b _ D) U26 Z2 b7 λq54 a H E=>ldf F6 E H z z z z z m0 U99 z Z2 λa E=>al2 E H z CG λb3 w a H E=>pr 1 E z λa E=>ss 0 E H z Z2 z λw H=>xp 2 E z λa E=>lb2 E H 0 U3 z λa E=>nt<|wB<|sq<|pn 2 E z λa E=>wif E m z (λm=>?_) λm=>?_
     ·refine wG<|pr 3 E z λa E=>bd m λd1 b8 m=>dC E H (wn z) z z z z z (t1 (b _ F)) U40 L8 b8 λq58 a H E=>have H:=H.derive1 m0 (rAt kS (q58.add 1) d1.Path) (λok h=>Ou h);pr 1 E z λa E=>sv2 E z (oO E H z z m0 U9 z) λa E=>have H:=H.frs [0,1] z;bd m λd2 b9 m=>xc2 E z (cf_ 233) (yC H (t3 d) (t3 e) b9)<|?_;rintro _ w ⟨d3,d4,rfl,H⟩ a E;exact wN<|bM<|bM<|aA<|have H:=H.drop 1;X5 ⟨E.to z,H,(Y5 b),m0,mm1,m⟩
     refine sq<|pn 2 E z λa E=>wif E m z (λm=>?_) λm=>?_
     ·refine wG<|pr 3 E z λa E=>lb2 E H 0 U9 z λa E=>have H:=H.frs [0,1] z;bd m λd5 c0 m=>xc2 E z (cf_ 233) (yC H (t1 d) (t1 e) c0)<|?_;rintro _ w ⟨d6,d7,rfl,H⟩ a E;exact wN<|bM<|bM<|aA<|have H:=H.drop 1;X5 ⟨E.to z,H,(Y3 b),m0,mm1,m⟩
     refine sq<|pn 2 E z λa E=>wif E m z (λm=>?_) λm=>?_
     ·refine wG<|pr 3 E z λa E=>lb2 E H 0 U9 z λa E=>have H:=H.frs [0,1] z;bd m λd8 c1 m=>xc2 E z (cf_ 233) (yC H (t1 d) (t1 e) c1)<|?_;rintro _ w ⟨d9,e0,rfl,H⟩ a E;exact wN<|bM<|bM<|aA<|have H:=H.drop 1;X5 ⟨E.to z,H,(Y3 b),m0,mm1,m⟩
     refine sq<|pn 2 E z λa E=>wif E m z (λm=>?_) λm=>?_
     ·refine sp 2 E z λa E=>bd m λB c2 m=>dC E H (wn z) z z z z z (t1 (b _ F)) U40 L8 c2 λq73 a H E=>have H:=H.derive1 m0 (rAt (kL kS) (q73.add 4) B.Names) (λok h=>Ov h);pr 1 E z λa E=>NW E H (wn z) z z z z m0 U33 z λb4 a H E=>lS E H m0 U33 z λa E=>pr 1 E z λa E=>nt<|wB<|bF (λC a w=>∃ P Q R S T f,Env 70 a [(0,pt k 0),(2,n),(7,pt b3 0),(12,l),(13,.int .i64 (c.length:Int)),(14,.int .i64 g),(51,b4),(52,.int .i64 (B.Names.length:Int)),(53,.int .i64 R)]/\Sep w (Blk k 87 [o,p,q,s,P,Q,t,u,x]::Blk b3 99 (Nw b2)::Fo) f/\(∀ r,r ∈ rs->r ∈ f)/\rSl kS b4 B.Names ∈ f/\rSl aR P S ∈ f/\rSl aJ Q T ∈ f/\oH (dQ c y A) g B b2 C R S T=some r) (((B.Names.length:Int) - 0:Int).toNat+1) ?_ ?_
      ·exact have H:=H.frs [0,1] z;X6 ⟨E.to z,H,(Y4 b),m0,(t4 d),(t4 e),m⟩
      clear E H m;rintro C a w ⟨P,Q,R,S,T,f,E,H,U,V,W,X,m⟩;cases C with
      | zero=>exact (bD m z).elim
      | succ C=>
       unfold oH at m;refine sq<|pn 1 E z λa E=>wS<|wif E m z (λm=>?_) λm=>?_
       ·refine wK<|aA<|wS<|wB<|sq<|bd m λe1 c3 m=>dC E H (wn z) z z z z z V U33 sz9 c3 λq87 a H E=>sv2 E z (oO E H z z m0 U9 z) λa E=>pr 1 E z λa E=>xp 2 E z λa E=>lb2 E H 1 U9 z λa E=>pr 1 E z λa E=>bd m λe2 c4 m=>xk2 E z (cf_ 208) (Nz H c4) λw H a E=>pn 5 E z λa E=>wG<|pr 2 E z λa E=>bd m λe3 c5 m=>xc2 E z (cf_ 233) (yC H (t1 W) (t1 X) c5)<|?_;rintro _ w ⟨e4,e5,rfl,H⟩ a E;exact wN<|bM<|aA<|wG<|pn 2 E z λa E=>⟨C,nL C,X6 ⟨E.to z,H,(Y3 U),(t3 V),m0,mm1,m⟩⟩
       exact wX<|aT<|aT<|cL<|bM<|bM<|aA<|have H:=H.drop 1;X5 ⟨E.to z,H,U,W,X,m⟩
     exact wK<|bM<|bM<|aA<|have H:=H.drop 0;X5 ⟨E.to z,H,(Y1 b),(t1 d),(t1 e),m⟩
    clear E H m;rintro a w ⟨L,M,N,O,j,E,H,c6,c7,c8,m⟩;unfold hF at m;exact wG<|pn 2 E z λa E=>⟨A,nL A,X6 ⟨E.to z,H,c6,c7,c8,m⟩⟩
   ·refine wX<|aT<|aT<|cL<|xI E z<|?_;cases m;exact ⟨_,_,z,H.reads (aD d (aD e (b)))⟩

def tX(g:List aG)(i:List aM)(c:List aP)(d:List aE)(e:List cJ):Option CP:=
  (A5 (⟨g,i⟩:aK) e).bind λb=>if (b.2.2.1 != 0)=true then (some ((⟨b.2.2.1,b.2.2.2,false,0,[],(⟨[],[]⟩:aK),[],[],[]⟩:aW),g,i,c,d)) else ((wM c d e b.2.1).bind λf=>some ((⟨0,0,false,0,b.2.1,(⟨[],[]⟩:aK),[],[],[]⟩:aW),b.1.Nodes,b.1.Turns,f.1,f.2))
theorem Co{D:Nat}{F G j k l n o p q s:VL}{I:List aG}{J:List aM}{t:List aP}{u:List aE}{x:List cJ}(H:Sep w (Blk D 87 [F,G,n,o,j,k,p,q,s]::Fo) rs)(c:rSl aB F I ∈ rs)(d:rSl aC G J ∈ rs)(e:rSl aR j t ∈ rs)(f:rSl aJ k u ∈ rs)(g:rSl bN l x ∈ rs)(K:U5 Tryz.prog ∈ rs){r:aW×dL×dO×eZ×dY}(m:tX I J t u x=some r) :
    Cf 101 [pt D 0,l] w λv w'=>∃ N O P Q R S T y A B,.agg (aS r.1 N O P Q R S).toArray=v/\Sep w' (Blk D 87 [T,y,n,o,A,B,p,q,s]::Fo) (rSl aX N r.1.Results::rSl aB O r.1.Store.Nodes::rSl aC P r.1.Store.Turns::rSl aQ Q r.1.Events::rSl bB R r.1.Mounts::rSl (kI .i64) S r.1.Wounded::rSl aB T r.2.1::rSl aC y r.2.2.1::rSl aR A r.2.2.2.1::rSl aJ B r.2.2.2.2::rs):=by
 unfold tX at m;refine ent func101 z ntmps101 z z λa E=>sq<|al2 E H z lB λW w a H E=>xp 3 E z λa E=>ln 1 [F,G] E H U25 z cY λa E=>pr 1 E z λa E=>bd m λb L m=>xc2 E z (cf_ 23) (Bj (x1:=(⟨I,J⟩:aK)) H c d g K L)<|?_;rintro _ w ⟨U,V,X,rfl,H⟩ a E;refine pr 5 E z λa E=>al2 E H z mX λY w a H E=>ss 0 E H z cY (iQ H m0 mm1) λw H=>pn 3 E z λa E=>wS<|sq<|pn 2 E z λa E=>wif E m z (λm=>?_) λm=>?_
 ·refine sp 2 E z λa E=>sv2 E z (cN E z (E.evs z) (v:=.agg #[.int .i64 b.2.2.1,.int .i64 b.2.2.2,.bool false,.int .i64 0,nS,nS,nS,nS,nS,nS]) (by kernel_rfl)) λa E=>ss 2 E H z bR z λw H=>nt<|wR<|aH<|oB 2 [.int .i64 b.2.2.1,.int .i64 b.2.2.2,.bool false,.int .i64 0,nS,nS,nS,nS,nS,nS] E H U48 z bR<|have H:=H.nilSl aX;have H:=H.nilSl aB;have H:=H.nilSl aC;have H:=H.nilSl aQ;have H:=H.nilSl bB;have H:=H.nilSl (kI .i64);have H:=H.drs [0,0,0];?_;cases m;exact X10 ⟨z,H.rdx [5,4,3,2,1,0] z (aD (t8 c) (aD (t8 d) (aD (t8 e) (aD (t8 f) (λr hr=>(t8 hr))))))⟩
 ·refine wK<|aA<|sp 1 E z λa E=>ln 0 [U,V] E H U25 z cY λa E=>pr 2 E z λa E=>ss 3 E H z cY (iQ H m0 mm1) λw H=>xp 3 E z λa E=>have H:=H.thaw (i:=1) z;have H:=H.frs [1,1,2] z;bd m λZ M m=>xc2 E z (cf_ 158) (La H (t3 e) (t3 f) (t3 g) m0 M)<|?_;rintro _ w ⟨b0,b1,rfl,H⟩ a E;refine xp 1 E z λa E=>?_;obtain ⟨q44,C,rfl⟩:=H.slform mm2;refine sv2 E z (cN E z (E.evs z) (v:=.agg #[.int .i64 0,.int .i64 0,.bool false,.int .i64 0,(.slice q44 b.2.1.length C),nS,nS,nS,nS,nS]) (by kernel_rfl)) λa E=>ss 2 E H z bR z λw H=>nt<|wR<|oB 2 [.int .i64 0,.int .i64 0,.bool false,.int .i64 0,(.slice q44 b.2.1.length C),nS,nS,nS,nS,nS] E H U48 z bR<|have H:=H.nilSl aB;have H:=H.nilSl aC;have H:=H.nilSl aQ;have H:=H.nilSl bB;have H:=H.nilSl (kI .i64);have H:=H.drs [1,1];?_;cases m;exact X10 ⟨z,H.reads (aD (t1 mm6) (aD mm4 (aD mm3 (aD mm2 (aD mm1 (aD m0 (aD (t2 mm6) (aD (t3 mm6) (aD mm5 (aD mm6 (λr hr=>(t2 (t8 hr)))))))))))))⟩

def mH(b:kN)(c:List yA)(d:dL)(e:dO)(f:eZ)(g:dY):Option Ti:=
  some ((⟨0,0,false,0,[],(⟨[],[]⟩:aK),[],[],[]⟩:aW),d,e,b,f,g,c)
def mI(c:kN)(d:List yA)(i:List aG)(j:List aM)(e:List aP)(f:List aE)(k:F7)(g:Bool):Option Ti:=
  if g=true then ((tX i j e f k).bind λb=>mH c d b.2.1 b.2.2.1 b.2.2.2.1 b.2.2.2.2) else (mH c d i j e f)
def mJ(g:List aG)(i:List aM)(b:List aP)(c:List aE)(j:F7)(k:List aU)(d:List yA)(l:Bool)(x20:aI)(m:Bool)(n:Bool):Option Ti:=
  if n=true then ((dK 2).bind λo=>some (o,g,i,k,b,c,d)) else (if l=true then (some ((⟨0,0,false,0,[],(⟨[],[]⟩:aK),[],[],[]⟩:aW),g,i,k,b,c,d)) else ((mpt (kyI .i64) d x20.Txn (⟨true,[],(⟨0,0,false,0,[],(⟨[],[]⟩:aK),[],[],[]⟩:aW)⟩:fJ)).bind λe=>(M7 k x20.Txn).bind λf=>if x20.Yes=true then (mI f e g i b c j m) else (mI f e g i b c j false)))
def mK(i:List aG)(j:List aM)(c:List aP)(d:List aE)(e:F7)(k:List aU)(b:List yA)(f:Bool)(x20:aI)(g:Bool)(l:Bool)(m:Bool):Option Ti:=
  if m=true then ((dK 62).bind λn=>some (n,i,j,k,c,d,b)) else (if (!l)=true then (mJ i j c d e k b f x20 g ((b.length:Int) == 128)) else (mJ i j c d e k b f x20 g false))
def uE(j:List aG)(k:List aM)(c:List aP)(d:List aE)(l:List aU)(e:List yA)(x20:aI)(b:Bool)(f:Bool)(g:F7)(m:Int)(n:Int)(i:Bool)(o:Int)(p:Z4)(q:dL)(s:dO)(t:B4)(u:Mm)(v:(List Int)):Option Ti:=
  if (!b)=true then (mK j k c d g l e f x20 i b x20.Yes) else (mK j k c d g l e f x20 i b false)
def pQ(f:List aG)(g:List aM)(i:List aU)(d:List aP)(e:List aE)(c:List yA)(x20:aI):Option Ti:=
  (Q5 (kyI .i64) c x20.Txn Bd).bind λb=>uE f g d e i c x20 b.2 b.1.over_ b.1.pieces_ b.1.a_.Err b.1.a_.At b.1.a_.Yes b.1.a_.Epoch b.1.a_.Results b.1.a_.Store.Nodes b.1.a_.Store.Turns b.1.a_.Events b.1.a_.Mounts b.1.a_.Wounded
theorem Hx{l d:Nat}{b3 b4 c2 A B N O P Q n o p:VL}{d3:List aG}{d4:List aM}{d5:List aU}{R:List aP}{S:List aE}{C:List yA}{x20:aI}(H:Sep w (Blk l 87 [b3,b4,n,c2,A,B,o,.map (some d),p]::bX Tryz.prog 2 (kyI .i64) dG true d C::Fo) rs)(I:rSl aB b3 d3 ∈ rs)(J:rSl aC b4 d4 ∈ rs)(X:rSl bA c2 d5 ∈ rs)(L:rSl aR A R ∈ rs)(M:rSl aJ B S ∈ rs)(g1:U5 Tryz.prog ∈ rs){r:aW×dL×dO×kN×eZ×dY×F8}(m:pQ d3 d4 d5 R S C x20=some r) :
    Cf 44 [pt l 0,.agg (aN x20 N O P Q).toArray] w λv w'=>∃ i0 i1 i2 i3 i4 i5 i6 f1 f2 f3 f4,.agg (aS r.1 i0 i1 i2 i3 i4 i5).toArray=v/\Sep w' (Blk l 87 [i6,f1,n,f2,f3,f4,o,.map (some d),p]::bX Tryz.prog 2 (kyI .i64) dG true d r.2.2.2.2.2.2::Fo) (rSl aX i0 r.1.Results::rSl aB i1 r.1.Store.Nodes::rSl aC i2 r.1.Store.Turns::rSl aQ i3 r.1.Events::rSl bB i4 r.1.Mounts::rSl (kI .i64) i5 r.1.Wounded::rSl aB i6 r.2.1::rSl aC f1 r.2.2.1::rSl bA f2 r.2.2.2.1::rSl aR f3 r.2.2.2.2.1::rSl aJ f4 r.2.2.2.2.2.1::rs):=by
 unfold pQ at m;refine ent func44 z ntmps44 z z λa E=>sq<|bx E H z λq w a H E=>al2 E H z lB λk w a H E=>nt<|aL (λa w=>∃ s t b5 b6 b7 b8 b9 c0 c1 D u T U F V f5 f6 f7 f8 f9 g0 Y,Env 70 a [(0,pt l 0),(3,pt q 0),(4,pt k 0),(5,pt s 0),(6,.bool c1)]/\Sep w (Blk l 87 [b3,b4,n,c2,A,B,o,.map (some d),p]::Blk q 37 (aN x20 N O P Q)::Blk k 48 bH::Blk s 154 [.bool D,t,.int .i64 T,.int .i64 U,.bool F,.int .i64 V,b5,b6,b7,b8,b9,c0]::bX Tryz.prog 2 (kyI .i64) dG true d C::Fo) Y/\(∀ r,r ∈ rs->r ∈ Y)/\rSl bN t u ∈ Y/\uE d3 d4 R S d5 C x20 c1 D u T U F V f5 f6 f7 f8 f9 g0=some r) ?_ ?_
 ·refine bd m λj5 d2 m=>?_;have hI:dN [Blk q 37 (aN x20 N O P Q),Blk l 87 [b3,b4,n,c2,A,B,o,.map (some d),p]] [] { w with drawn:=w.drawn+1 }:=⟨_,_,H.kept (Kp.drawn _ w _),(aV mm1 (aV mm2 (bQ))),(bT)⟩
  refine qJ _ (.go 0 0 (.go 1 0 (.go 2 0 (.go 3 0 (.go 4 0 (.go 5 0 (.alt 6 (.go 7 0 (.go 8 0 (.go 9 0 (.go 10 1 (.go 11 1 (.go 12 2 .nil)))))) 10 (.go 6 1 (.go 7 0 (.go 8 0 (.go 9 0 (.go 11 1 (.go 12 2 .nil))))))))))))) [12] qS (by kernel_rfl) (λ_ _ _ h=>False.elim h.2) hI<|have H:=H.kept (Kp.drawn _ w (w.drawn+1));?_;generalize ({ w with drawn:=w.drawn+1 }:WD)=w at H hI ⊢
  replace hI:∃ W,dN [Blk q 37 (aN x20 N O P Q),Blk l 87 [b3,b4,n,c2,A,B,o,.map (some d),p]] [] W:=⟨_,hI⟩
  obtain ⟨W0,hI⟩:=hI;refine om E z λa E=>ov E z (λw hW=>(F2 E z z)) λa E=>ov E z (λw hW=>oR E z z (v:=pt l 7) (Xo _ _)) λa E=>ol E mm1 U85 z λa E=>ov E z (λw hW=>oR E z z (v:=pt q 2) (Qy _ _)) λa E=>ol E m0 U2 z λa E=>rD z z ?_ ?_
  ·refine tD (i:=3) (K:=(kyI .i64)) E H (wn z) z z z z z z (fV U2) U85 Rf Vu d2 λj6 a H E=>?_;obtain ⟨j7,j8,j9,k0,k1,k2,k3,rfl,h⟩:=Bc H;clear H;have H:=h;refine nt<|⟨sx H [1,2] z,om E z λa E=>ox E z λa E=>ox E z λa E=>cO z<|al2 E H z Vv λk4 w a H E=>nt<|⟨sx H [2,3] z,cO z<|ss 0 E H z Vw (R8 H mm6 mm5 mm4 mm3 mm2 mm1 m0) λw H=>nt<|⟨sx H [2,3] z,dF z<|pn 1 E z λa E=>fK<|?_⟩⟩⟩
   clear hI;exact aA<|have H:=H.frs [4,1,2,3,4] z;X22 ⟨E.to z,H,(Y8 Y0),mm6,m⟩
  refine al2 E H z Vv λk5 w a H E=>nt<|⟨sx H [2,3] z,cO z<|tD (i:=4) (K:=(kyI .i64)) E H (wn z) z z z z z z (fV U2) U85 Rf Vu d2 λk6 a H E=>?_⟩
  obtain ⟨k7,k8,k9,l0,l1,l2,l3,rfl,h⟩:=Bc H;clear H;have H:=h;refine nt<|⟨sx H [2,3] z,om E z λa E=>ox E z λa E=>ox E z λa E=>cO z<|ss 0 E H z Vw (R8 H mm6 mm5 mm4 mm3 mm2 mm1 m0) λw H=>nt<|⟨sx H [2,3] z,dF z<|pn 1 E z λa E=>fK<|?_⟩⟩
  clear hI;exact aA<|have H:=H.frs [4,1,2,3,4] z;X22 ⟨E.to z,H,(Y8 Y0),mm6,m⟩
 ·clear E H m;rintro a w ⟨s,t,b5,b6,b7,b8,b9,c0,c1,D,u,T,U,F,V,f5,f6,f7,f8,f9,g0,Y,E,H,d6,d7,m⟩;unfold uE at m;refine wS<|wB<|aL (λa w=>∃ d8 Z,Env 70 a [(0,pt l 0),(3,pt q 0),(4,pt k 0),(5,pt s 0),(6,.bool c1),(17,.bool d8)]/\Sep w (Blk l 87 [b3,b4,n,c2,A,B,o,.map (some d),p]::Blk q 37 (aN x20 N O P Q)::Blk k 48 bH::Blk s 154 [.bool D,t,.int .i64 T,.int .i64 U,.bool F,.int .i64 V,b5,b6,b7,b8,b9,c0]::bX Tryz.prog 2 (kyI .i64) dG true d C::Fo) Z/\(∀ r,r ∈ rs->r ∈ Z)/\rSl bN t u ∈ Z/\mK d3 d4 R S u d5 C D x20 F c1 d8=some r) ?_ ?_
  ·refine wG<|pr 3 E z λa E=>cs m (λx m=>?_) λx m=>?_
   ·exact pk 1 E (kc 20 z x) z λa E=>gl 20 E H 1 x U4 z λa E=>pk 2 E (kc 20 z x) z λa E=>nt<|⟨_,_,E.to z,H,d6,d7,m⟩
   exact pk 4 E (kc 20 z x) z λa E=>nt<|⟨_,_,E.to z,H,d6,d7,m⟩
  ·clear E H m;rintro a w ⟨d8,Z,E,H,f,d9,m⟩;unfold mK at m;refine wif E m z (λm=>?_) λm=>?_
   ·refine sq<|bd m λi7 g2 m=>xc2 E z (cf_ 53) (eW H g2)<|?_;rintro _ w ⟨i8,i9,j0,j1,j2,j3,rfl,H⟩ a E;refine ss 2 E H z bR (aZ H m0 mm1 mm2 mm3 mm4 mm5) λw H=>nt<|wR<|bJ<|aH<|oB 2 (aS i7 i8 i9 j0 j1 j2 j3) E H U48 z bR<|have H:=H.drs [1,1,1];?_;cases m;exact X11 ⟨z,H.rdx [0,1,2,3,4,5] z (aD (t6 (f _ I)) (aD (t6 (f _ J)) (aD (t6 (f _ X)) (aD (t6 (f _ L)) (aD (t6 (f _ M)) (λr hr=>(t6 (f r hr))))))))⟩
   ·refine aL (λa w=>∃ e0 b0,Env 70 a [(0,pt l 0),(3,pt q 0),(4,pt k 0),(5,pt s 0),(25,.bool e0)]/\Sep w (Blk l 87 [b3,b4,n,c2,A,B,o,.map (some d),p]::Blk q 37 (aN x20 N O P Q)::Blk k 48 bH::Blk s 154 [.bool D,t,.int .i64 T,.int .i64 U,.bool F,.int .i64 V,b5,b6,b7,b8,b9,c0]::bX Tryz.prog 2 (kyI .i64) dG true d C::Fo) b0/\(∀ r,r ∈ rs->r ∈ b0)/\rSl bN t u ∈ b0/\mJ d3 d4 R S u d5 C D x20 F e0=some r) ?_ ?_
    ·refine wG<|pr 3 E z λa E=>cs m (λj m=>?_) λj m=>?_
     ·exact pk 3 E (kc 28 z j) z λa E=>gl 28 E H 0 j U85 z λa E=>gv 28 E j z (Bs (i:=4) E H z z z U85) λa E=>pk 3 E (kc 28 z j) z λa E=>nt<|⟨_,_,E.to z,H,f,d9,m⟩
     exact pk 8 E (kc 28 z j) z λa E=>nt<|⟨_,_,E.to z,H,f,d9,m⟩
    ·clear E H m;rintro a w ⟨e0,b0,E,H,b,e1,m⟩;unfold mJ at m;refine wif E m z (λm=>?_) λm=>?_
     ·refine sq<|bd m λj4 g3 m=>xc2 E z (cf_ 53) (eW H g3)<|?_;rintro _ w ⟨g4,g5,g6,g7,g8,g9,rfl,H⟩ a E;refine ss 2 E H z bR (aZ H m0 mm1 mm2 mm3 mm4 mm5) λw H=>nt<|wR<|bJ<|aH<|oB 2 (aS j4 g4 g5 g6 g7 g8 g9) E H U48 z bR<|have H:=H.drs [1,1,1];?_;cases m;exact X11 ⟨z,H.rdx [0,1,2,3,4,5] z (aD (t6 (b _ I)) (aD (t6 (b _ J)) (aD (t6 (b _ X)) (aD (t6 (b _ L)) (aD (t6 (b _ M)) (λr hr=>(t6 (b r hr))))))))⟩
     ·refine sp 1 E z λa E=>lb2 E H 3 U4 z λa E=>pn 1 E z λa E=>wif E m z (λm=>?_) λm=>?_
      ·refine sq<|sv2 E z (cN E z (E.evs z) (v:=.agg bH.toArray) (by kernel_rfl)) λa E=>ss 2 E H z bR z λw H=>nt<|wR<|bJ<|aH<|Hg E z (qI (i:=2) (us:=bH) H z z z U48 z bR)<|have H:=H.nilSl aX;have H:=H.nilSl aB;have H:=H.nilSl aC;have H:=H.nilSl aQ;have H:=H.nilSl bB;have H:=H.nilSl (kI .i64);have H:=H.drs [1,1,1];?_;cases m;exact X11 ⟨z,H.rdx [5,4,3,2,1,0] z (aD (t6 (b _ I)) (aD (t6 (b _ J)) (aD (t6 (b _ X)) (aD (t6 (b _ L)) (aD (t6 (b _ M)) (λr hr=>(t6 (b r hr))))))))⟩
      ·refine wK<|bM<|aA<|wS<|dz [0,0,0,0,0,0,0,2] [0,1] H λw W0 hI H=>fn 3 E z λa E=>fb2 E m0 U85 z λa E=>fn 1 E z λa E=>fb2 E mm1 U2 z λa E=>fv E z (λw hW=>(cN E z (E.evs z) (v:=.agg #[.bool true,nS,.int .i64 0,.int .i64 0,.bool false,.int .i64 0,nS,nS,nS,nS,nS,nS]) (by kernel_rfl))) λa E=>bK z<|bd m λb1 e2 m=>Ar (i:=4) (K:=(kyI .i64)) (v:=(⟨true,[],(⟨0,0,false,0,[],(⟨[],[]⟩:aK),[],[],[]⟩:aW)⟩:fJ)) (cs:=[.bool true,nS,.int .i64 0,.int .i64 0,.bool false,.int .i64 0,nS,nS,nS,nS,nS,nS]) E H (wn z) z z z z z z (fV U2) U85 e2 (λok hr=>(Au (Sl.nil _ _ _) (Sl.nil _ _ _) (Sl.nil _ _ _) (Sl.nil _ _ _) (Sl.nil _ _ _) (Sl.nil _ _ _) (Sl.nil _ _ _))) λw H=>nt<|bG<|?_;clear hI;refine aA<|wS<|dz [0,0,0,0,0,0,0,1,2,2,2] [0,1] H λw W0 hI H=>fn 4 E z λa E=>fb2 E m0 U58 z λa E=>fn 1 E z λa E=>fb2 E mm1 U2 z λa E=>bW z<|bd m λg e3 m=>xc2 E z (cf_ 103) (Xt H (b _ X) e3)<|?_;rintro _ w ⟨l4,rfl,H⟩ a E;refine nt<|⟨sx H [1,2] z,bK z<|pn 1 E z λa E=>bK z<|pn 1 E z λa E=>bK z<|?_⟩
       obtain ⟨q111,b2,rfl⟩:=H.rowform (i:=0) z;refine ss 1 E H z QE z λw H=>nt<|bG<|?_;clear hI;refine aA<|aL (λa w=>∃ c3 c4 c5 c6 c7 c8 c9 d0 e,Env 70 a [(4,pt k 0)]/\Sep w (Blk k 48 bH::Blk l 87 [c3,c4,n,(.slice q111 g.length b2),c5,c6,o,.map (some d),p]::bX Tryz.prog 2 (kyI .i64) dG true d b1::Row 78 bA (.slice q111 g.length b2) g::Fo) e/\(∀ r,r ∈ rs->r ∈ e)/\rSl aB c3 c7 ∈ e/\rSl aC c4 c8 ∈ e/\rSl aR c5 c9 ∈ e/\rSl aJ c6 d0 ∈ e/\mH g b1 c7 c8 c9 d0=some r) ?_ ?_
       ·refine aL (λa w=>∃ d1 G,Env 70 a [(0,pt l 0),(4,pt k 0),(5,pt s 0),(64,.bool d1)]/\Sep w (Blk l 87 [b3,b4,n,(.slice q111 g.length b2),A,B,o,.map (some d),p]::Blk k 48 bH::Blk s 154 [.bool D,t,.int .i64 T,.int .i64 U,.bool F,.int .i64 V,b5,b6,b7,b8,b9,c0]::bX Tryz.prog 2 (kyI .i64) dG true d b1::Row 78 bA (.slice q111 g.length b2) g::Fo) G/\(∀ r,r ∈ rs->r ∈ G)/\rSl bN t u ∈ G/\mI g b1 d3 d4 R S u d1=some r) ?_ ?_
        ·refine wG<|pr 1 E z λa E=>lb2 E H 2 U4 z λa E=>pr 1 E z λa E=>cs m (λy m=>?_) λy m=>?_
         ·exact pk 2 E (kc 60 z y) z λa E=>gl 60 E H 4 y U4 z λa E=>pk 1 E (kc 60 z y) z λa E=>nt<|have H:=H.drop 2;have H:=H.frs [0,4,4,4,4] z;⟨_,_,E.to z,H,b,e1,m⟩
         exact pk 4 E (kc 60 z y) z λa E=>nt<|have H:=H.drop 2;have H:=H.frs [0,4,4,4,4] z;⟨_,_,E.to z,H,b,e1,m⟩
        clear E H m;rintro a w ⟨d1,G,E,H,c,e4,m⟩;unfold mI at m;refine wif E m z (λm=>?_) λm=>?_
        ·refine wG<|pr 2 E z λa E=>lb2 E H 2 U26 z λa E=>bd m λl5 e5 m=>xc2 E z (cf_ 101) (Co H (c _ I) (c _ J) (c _ L) (c _ M) e4 (c _ g1) e5)<|?_;rintro _ w ⟨l6,l7,l8,l9,m1,m2,m3,m4,m5,m6,rfl,H⟩ a E;exact nt<|have H:=H.drop 2;have H:=H.frs [3,3,2,3] z;X9 ⟨E.to z,H,(Y2 (Y8 c)),mm6,(t1 mm6),(t2 mm6),(t3 mm6),m⟩
        exact wK<|aA<|have H:=H.drop 2;have H:=H.frs [3,3,2,3] z;X9 ⟨E.to z,H,c,(c _ I),(c _ J),(c _ L),(c _ M),m⟩
       ·clear E H m;rintro a w ⟨c3,c4,c5,c6,c7,c8,c9,d0,e,E,H,e6,e7,e8,e9,f0,m⟩;unfold mH at m;refine sq<|sv2 E z (cN E z (E.evs z) (v:=.agg bH.toArray) (by kernel_rfl)) λa E=>ss 0 E H z bR z λw H=>nt<|wR<|Hg E z (qI (i:=0) (us:=bH) H z z z U48 z bR)<|have H:=H.nilSl aX;have H:=H.nilSl aB;have H:=H.nilSl aC;have H:=H.nilSl aQ;have H:=H.nilSl bB;have H:=H.nilSl (kI .i64);have H:=H.thaw (i:=3) z;have H:=H.drop 0;?_;cases m;exact X11 ⟨z,H.rdx [6,5,4,3,2,1] z (aD (t7 e7) (aD (t7 e8) (aD m0 (aD (t7 e9) (aD (t7 f0) (λr hr=>(t7 (e6 r hr))))))))⟩

def pR(x1:aF)(b:BY):Option Bool:=
  some (sEq x1.Prefix b)
theorem Hy{x1:aF}{b:Nat}{c:BY}(H:Sep w (Blk b 9 [.string c]::Fo) rs){r:Bool}(m:pR x1 c=some r) :
    Cf 174 [.agg (rE x1).toArray,pt b 0] w λv w'=>.bool r=v/\Sep w' (Blk b 9 [.string c]::Fo) (rs):=by
 unfold pR at m;refine ent func174 z ntmps174 z z λa E=>sq<|bx E H z λd w a H E=>pr 1 E z λa E=>xp 1 E z λa E=>lb2 E H 0 U9 z λa E=>lb2 E H 1 U9 z λa E=>pr 2 E z λa E=>nt<|wR<|o1 E z<|have H:=H.drop 0;?_;cases m;exact ⟨z,H.reads Y0⟩

def eL(c:List aF)(d:BY):Nat->Int->Option Int
  | 0,_=>none
  | f+1,b=>
    if (decide (b < (c.length:Int)))=true then ((idx c b).bind λg=>(pR g d).bind λe=>if e=true then (some (b)) else (eL c d f (IntKind.i64.wrap (b+1)))) else (some ((-1)))
def jI(b:List aF)(c:BY):Option Int:=
  eL b c (((b.length:Int) - 0:Int).toNat+1) 0
theorem K5{i:VL}{d:List aF}{e:Nat}{f:BY}(H:Sep w (Blk e 9 [.string f]::Fo) rs)(g:rSl aO i d ∈ rs){r:Int}(m:jI d f=some r) :
    Cf 173 [i,.func (.func 174) #[] #[pt e 0]] w λv w'=>.int .i64 r=v/\Sep w' (Blk e 9 [.string f]::Fo) (rs):=by
 unfold jI at m;refine ent func173 z ntmps173 z z λa E=>sq<|pn 1 E z λa E=>wS<|sp 1 E z λa E=>lS E H g U32 z λa E=>pr 1 E z λa E=>nt<|wB<|bF (λc a w=>∃ j,Jn 19 a w [(0,i),(1,.func (.func 174) #[] #[pt e 0]),(7,.int .i64 (d.length:Int)),(8,.int .i64 j)] (Blk e 9 [.string f]::Fo) rs (eL d f c j=some r)) (((d.length:Int) - 0:Int).toNat+1) ?_ ?_
 ·exact ⟨_,_,E.to z,H,Y0,m⟩
 ·clear E H m;rintro c a w ⟨j,n,E,H,b,m⟩;cases c with
  | zero=>exact (bD m z).elim
  | succ c=>
   unfold eL at m;refine sq<|pn 1 E z λa E=>wS<|wif E m z (λm=>?_) λm=>?_
   ·refine wK<|aA<|wS<|wB<|sp 2 E z λa E=>xp 3 E z λa E=>bd m λp k m=>dC E H (wn z) z z z z z (b _ g) U32 lA k λq11 a H E=>ldf mP E H z z z z z m0 U31 z lA λa E=>bd m λo l m=>bI E (wn z) z z (bO E z z z ((cf_ 174) _)) (Hy H l)<|?_;rintro _ w ⟨rfl,H⟩ a E;refine nt<|wif E m z (λm=>?_) λm=>?_
    ·refine sq<|pn 2 E z λa E=>wR<|bJ<|aH<|aH<|bJ<|aH<|o1 E z<|?_;cases m;exact ⟨z,H.reads (Y1 b)⟩
    exact wK<|bM<|aA<|wG<|pn 2 E z λa E=>⟨c,nL c,_,_,E.to z,H,(Y1 b),m⟩
   ·refine wX<|aT<|aT<|cL<|aA<|sq<|pn 1 E z λa E=>wR<|o1 E z<|?_;cases m;exact ⟨z,H.reads b⟩

def kX(c:List aF)(d:BY):Option (aF×Bool):=
  (jI c d).bind λb=>if (decide (b < 0))=true then (some ((⟨(ByteArray.mk #[]),0,0⟩:aF),false)) else ((idx c b).bind λe=>some (e,true))
theorem M9{o:Nat}{p c d e f g j k l:VL}{t:List aF}{n:BY}(H:Sep w (Blk o 87 [c,d,p,e,f,g,j,k,l]::Fo) rs)(b:rSl aO p t ∈ rs){r:aF×Bool}(m:kX t n=some r) :
    Cf 104 [pt o 0,.string n] w λv w'=>.tuple #[.agg (rE r.1).toArray,.bool r.2]=v/\Sep w' (Blk o 87 [c,d,p,e,f,g,j,k,l]::Fo) (rs):=by
 unfold kX at m;refine ent func104 z ntmps104 z z λa E=>sq<|bx E H z λx w a H E=>al2 E H z Td λy w a H E=>pr 1 E z λa E=>xp 3 E z λa E=>lb2 E H 2 U32 z λa E=>sv2 E z (nR E z z z) λa E=>have H:=H.frs [2,1,2] z;bd m λA q m=>xk2 E z (cf_ 173) (K5 H b q) λw H a E=>pn 1 E z λa E=>wS<|sq<|pn 2 E z λa E=>wif E m z (λm=>?_) λm=>?_
 ·refine sq<|sv2 E z (cN E z (E.evs z) (v:=.agg Zs.toArray) (by kernel_rfl)) λa E=>ss 1 E H z lA z λw H=>pn 1 E z λa E=>wR<|aH<|A9 E z (qI (i:=1) (us:=Zs) H z z z U31 z lA) (rvT z)<|have H:=H.drs [0,0];?_;cases m;exact ⟨z,H.reads Y0⟩
 ·refine wK<|aA<|sp 3 E z λa E=>lb2 E H 2 U32 z λa E=>pr 1 E z λa E=>bd m λu s m=>dC E H (wn z) z z z z z b U32 lA s λq36 a H E=>ldf mP E H z z z z z m0 U31 z lA λa E=>ss 1 E H z lA z λw H=>pn 1 E z λa E=>wR<|A9 E z (qI (i:=1) (us:=(rE u)) H z z z U31 z lA) (rvT z)<|have H:=H.drs [0,0];?_;cases m;exact ⟨z,H.reads (Y1 Y0)⟩

def tM(x1:aU)(b:List aF)(e:BY):Option Bool:=
  (mT b x1.Dir).bind λc=>if (decide (c ≥ 0))=true then ((idx b c).bind λd=>some (sEq d.Prefix e)) else (some (false))
theorem Hz{x1:aU}{e f:Nat}{g:VL}{q:List aF}{i:BY}(H:Sep w (Blk e 32 [g]::Blk f 9 [.string i]::Fo) rs)(c:rSl aO g q ∈ rs){r:Bool}(m:tM x1 q i=some r) :
    Cf 176 [.agg (vK x1).toArray,pt e 0,pt f 0] w λv w'=>.bool r=v/\Sep w' (Blk e 32 [g]::Blk f 9 [.string i]::Fo) (rs):=by
 unfold tM at m;refine ent func176 z ntmps176 z z λa E=>sq<|bx E H z λx w a H E=>pr 1 E z λa E=>nx<|lb2 E H 1 U32 z λa E=>pr 1 E z λa E=>lb2 E H 0 U9 z λa E=>bd m λy j m=>xk2 E z (cf_ 24) (F9 H c j) λw H a E=>pn 1 E z λa E=>wS<|?_;obtain ⟨s,H⟩:=H.raw c;refine dw [(0,0),(1,0),(2,0),(3,0),(4,0),(5,0),(6,0),(7,0),(8,0),(9,0),(10,0),(11,2)] [1,2] [0] H (by kernel_rfl) (λ_ _ _ h=>False.elim h.2) λw W0 hI H=>fn 3 E z λa E=>cs m (λb m=>?_) λb m=>?_
 ·refine fb E z (ws' (d:=12) E z z z z b) z z z z m0 z U32 z λa E=>fk 1 E (kc 12 z b) z λa E=>bd m λt l m=>?_;obtain ⟨q15,u,n,o⟩:=gD (P:=Tryz.prog) (k:=.i64) hI (gC (.head _)) U32 lA l;refine dV E z (ws' (d:=12) E z z z z b) z z (λw hW=>iO E z z z (n w)) λa E=>?_;have p:=tC o (λ_ _ _ h=>wZ h);refine fk 1 E (kc 12 z b) z λa E=>fa E z (ws' (d:=12) E z z z z b) z z z z p U9 z λa E=>fb E z (ws' (d:=12) E z z z z b) z z z z mm1 z U9 z λa E=>fk 2 E (kc 12 z b) z λa E=>bK z<|pn 1 E z λa E=>bG<|?_;clear hI;refine aA<|wR<|o1 E z<|have H:=H.drop 0;?_;cases m;exact ⟨z,H.reads (Y1 Y0)⟩
 ·refine fk 8 E (kc 12 z b) z λa E=>bK z<|pn 1 E z λa E=>bG<|?_;clear hI;refine aA<|wR<|o1 E z<|have H:=H.drop 0;?_;cases m;exact ⟨z,H.reads (Y1 Y0)⟩

def eM(c:List aU)(d:List aF)(e:BY):Nat->Int->Option Int
  | 0,_=>none
  | i+1,b=>
    if (decide (b < (c.length:Int)))=true then ((idx c b).bind λf=>(tM f d e).bind λg=>if g=true then (some (b)) else (eM c d e i (IntKind.i64.wrap (b+1)))) else (some ((-1)))
def jJ(b:List aU)(c:List aF)(d:BY):Option Int:=
  eM b c d (((b.length:Int) - 0:Int).toNat+1) 0
theorem K6{l j:VL}{d:List aU}{e f:Nat}{n:List aF}{g:BY}(H:Sep w (Blk e 32 [j]::Blk f 9 [.string g]::Fo) rs)(k:rSl bA l d ∈ rs)(q:rSl aO j n ∈ rs){r:Int}(m:jJ d n g=some r) :
    Cf 154 [l,.func (.func 176) #[] #[pt e 0,pt f 0]] w λv w'=>.int .i64 r=v/\Sep w' (Blk e 32 [j]::Blk f 9 [.string g]::Fo) (rs):=by
 unfold jJ at m;refine ent func154 z ntmps154 z z λa E=>sq<|pn 1 E z λa E=>wS<|sp 1 E z λa E=>lS E H k U58 z λa E=>pr 1 E z λa E=>nt<|wB<|bF (λc a w=>∃ i,Jn 19 a w [(0,l),(1,.func (.func 176) #[] #[pt e 0,pt f 0]),(7,.int .i64 (d.length:Int)),(8,.int .i64 i)] (Blk e 32 [j]::Blk f 9 [.string g]::Fo) rs (eM d n g c i=some r)) (((d.length:Int) - 0:Int).toNat+1) ?_ ?_
 ·exact ⟨_,_,E.to z,H,Y0,m⟩
 ·clear E H m;rintro c a w ⟨i,s,E,H,b,m⟩;cases c with
  | zero=>exact (bD m z).elim
  | succ c=>
   unfold eM at m;refine sq<|pn 1 E z λa E=>wS<|wif E m z (λm=>?_) λm=>?_
   ·refine wK<|aA<|wS<|wB<|sp 2 E z λa E=>xp 3 E z λa E=>bd m λt o m=>dC E H (wn z) z z z z z (b _ k) U58 rG o λq15 a H E=>ldf gN E H z z z z z m0 U78 z rG λa E=>bd m λu p m=>bI E (wn z) z z (bO E z z z ((cf_ 176) _)) (Hz H (t1 (b _ q)) p)<|?_;rintro _ w ⟨rfl,H⟩ a E;refine nt<|wif E m z (λm=>?_) λm=>?_
    ·refine sq<|pn 2 E z λa E=>wR<|bJ<|aH<|aH<|bJ<|aH<|o1 E z<|?_;cases m;exact ⟨z,H.reads (Y1 b)⟩
    exact wK<|bM<|aA<|wG<|pn 2 E z λa E=>⟨c,nL c,_,_,E.to z,H,(Y1 b),m⟩
   ·refine wX<|aT<|aT<|cL<|aA<|sq<|pn 1 E z λa E=>wR<|o1 E z<|?_;cases m;exact ⟨z,H.reads b⟩

def iU(c:List aU)(d:List aF)(e:BY):Option Bool:=
  (jJ c d e).bind λb=>some (decide (b ≥ 0))
theorem I9{g b:VL}{i:List aU}{c d:Nat}{j:List aF}{e:BY}(H:Sep w (Blk c 32 [b]::Blk d 9 [.string e]::Fo) rs)(k:rSl bA g i ∈ rs)(l:rSl aO b j ∈ rs){r:Bool}(m:iU i j e=some r) :
    Cf 160 [g,.func (.func 176) #[] #[pt c 0,pt d 0]] w λv w'=>.bool r=v/\Sep w' (Blk c 32 [b]::Blk d 9 [.string e]::Fo) (rs):=by
 unfold iU at m;refine ent func160 z ntmps160 z z λa E=>sp 1 E z λa E=>xp 2 E z λa E=>bd m λn f m=>xk2 E z (cf_ 154) (K6 H k l f) λw H a E=>pn 2 E z λa E=>wR<|o1 E z<|?_;cases m;exact ⟨z,H.reads Y0⟩

def pC(e:List aU)(b:List aF)(c:BY):Option Bool:=
  (iU e b c).bind λd=>some (d)
theorem Bw{p:Nat}{q c d e f g i j k l:VL}{u:List aU}{n:List aF}{o:BY}(H:Sep w (Blk p 87 [d,e,f,q,g,i,j,k,l]::Fo) rs)(s:rSl bA q u ∈ rs)(b:rSl aO c n ∈ rs){r:Bool}(m:pC u n o=some r) :
    Cf 106 [pt p 0,c,.string o] w λv w'=>.bool r=v/\Sep w' (Blk p 87 [d,e,f,q,g,i,j,k,l]::Fo) (rs):=by
 unfold pC at m;refine ent func106 z ntmps106 z z λa E=>sq<|?_;obtain ⟨q34,x,rfl⟩:=H.slform b;refine bx E H z λy w a H E=>bx E H z λA w a H E=>pr 1 E z λa E=>xp 3 E z λa E=>lb2 E H 2 U58 z λa E=>sv2 E z (nR E z z z) λa E=>have H:=H.frs [2,1,2] z;bd m λB t m=>xk2 E z (cf_ 160) (I9 H s b t) λw H a E=>pn 1 E z λa E=>wR<|o1 E z<|have H:=H.drs [0,0];?_;cases m;exact ⟨z,H.reads Y0⟩

def uF(b:aF×Bool)(c:gY)(d:dL)(e:dO):Option Vz:=
  some ((⟨0,0,false,b.1.Epoch,[],(⟨d,e⟩:aK),[],[],[]⟩:aW),c)
def qC(x20:aI)(e:List aG)(f:List aM)(b:gY):Option Vz:=
  (kX b x20.Prefix).bind λd=>(vR (⟨e,f⟩:aK) b x20.Prefix).bind λc=>uF d b c.1 c.2.1
def qD(x20:aI)(l:List aG)(m:List aM)(c:List aF)(n:List aU)(d:Bool):Option Vz:=
  if d=true then ((vC c x20.Prefix).bind λb=>if (!b.2)=true then ((dK 132).bind λe=>some (e,c)) else ((mT b.1 x20.Prefix).bind λf=>(idx b.1 f).bind λg=>if (g.Epoch != x20.Epoch)=true then ((dK 133).bind λi=>some (i,c)) else ((pC n b.1 x20.Prefix).bind λj=>if j=true then ((dK 131).bind λk=>some (k,c)) else (qC x20 l m b.1)))) else (qC x20 l m c)
def tN(d:List aG)(e:List aM)(c:List aF)(f:List aU)(x20:aI):Option Vz:=
  (kX c x20.Prefix).bind λb=>if (b.1.State != 2)=true then (qD x20 d e c f true) else (qD x20 d e c f (b.1.Epoch != x20.Epoch))
theorem Ia{g:Nat}{A B c1 I J K L M j l n o p:VL}{C:List aG}{D:List aM}{c2:List aF}{c3:List aU}{x20:aI}(H:Sep w (Blk g 87 [A,B,c1,I,j,l,n,o,p]::Fo) rs)(q:rSl aB A C ∈ rs)(s:rSl aC B D ∈ rs)(f:rSl aO c1 c2 ∈ rs)(c4:rSl bA I c3 ∈ rs){r:aW×gY}(m:tN C D c2 c3 x20=some r) :
    Cf 46 [pt g 0,.agg (aN x20 J K L M).toArray] w λv w'=>∃ e9 f0 f1 f2 f3 f4 f5,.agg (aS r.1 e9 f0 f1 f2 f3 f4).toArray=v/\Sep w' (Blk g 87 [A,B,f5,I,j,l,n,o,p]::Fo) (rSl aX e9 r.1.Results::rSl aB f0 r.1.Store.Nodes::rSl aC f1 r.1.Store.Turns::rSl aQ f2 r.1.Events::rSl bB f3 r.1.Mounts::rSl (kI .i64) f4 r.1.Wounded::rSl aO f5 r.2::rs):=by
 unfold tN at m;refine ent func46 z ntmps46 z z λa E=>sq<|bx E H z λt w a H E=>al2 E H z lB λy w a H E=>nt<|aL (λa w=>∃ u N F,Env 90 a [(0,pt g 0),(3,pt t 0),(4,pt y 0)]/\Sep w (Blk g 87 [A,B,u,I,j,l,n,o,p]::Blk t 37 (aN x20 J K L M)::Blk y 48 bH::Fo) F/\(∀ r,r ∈ rs->r ∈ F)/\rSl aO u N ∈ F/\qC x20 C D N=some r) ?_ ?_
 ·refine sp 2 E z λa E=>lb2 E H 1 U9 z λa E=>have H:=H.frs [1,1,2] z;bd m λf7 X m=>xk2 E z (cf_ 104) (M9 H f X) λw H a E=>pr 3 E z λa E=>al2 E H z Td λf8 w a H E=>ss 0 E H z lA z λw H=>pn 1 E z λa E=>aL (λa w=>∃ R,Jn 90 a w [(0,pt g 0),(3,pt t 0),(4,pt y 0),(29,.bool R)] (Blk g 87 [A,B,c1,I,j,l,n,o,p]::Blk t 37 (aN x20 J K L M)::Blk y 48 bH::Fo) rs (qD x20 C D c2 c3 R=some r)) ?_ ?_
  ·refine wG<|pr 1 E z λa E=>lb2 E H 0 U3 z λa E=>pr 2 E z λa E=>cs m (λe m=>?_) λe m=>?_
   ·exact pk 6 E (kc 23 z e) z λa E=>nt<|have H:=H.drop 0;have H:=H.frs [1,2,2] z;⟨_,_,E.to z,H,Y0,m⟩
   exact pk 1 E (kc 23 z e) z λa E=>gl 23 E H 0 e U2 z λa E=>pk 1 E (kc 23 z e) z λa E=>gl 23 E H 3 e U2 z λa E=>pk 2 E (kc 23 z e) z λa E=>nt<|have H:=H.drop 0;have H:=H.frs [1,2,2] z;⟨_,_,E.to z,H,Y0,m⟩
  clear E H m;rintro a w ⟨R,f6,E,H,c,m⟩;unfold qD at m;refine wif E m z (λm=>?_) λm=>?_
  ·refine wS<|dz [0,0,0,0,0,0,1,0,0,0,1,2] [0,1] H λw W0 hI H=>fn 3 E z λa E=>fb2 E m0 U32 z λa E=>fn 1 E z λa E=>fb2 E mm1 U9 z λa E=>bW z<|bd m λf9 Y m=>xc2 E z (cf_ 105) (Tm H (c _ f) Y)<|?_;rintro _ w ⟨g0,rfl,H⟩ a E;refine nt<|⟨sx H [1,2] z,fn 3 E z λa E=>bW z<|pn 1 E z λa E=>⟨sx H [1,2] z,bK z<|pn 1 E z λa E=>bG<|?_⟩⟩
   clear hI;refine aA<|wS<|sq<|pn 2 E z λa E=>wif E m z (λm=>?_) λm=>?_
   ·refine sq<|bd m λc5 Z m=>xc2 E z (cf_ 53) (eW H Z)<|?_;rintro _ w ⟨c6,c7,c8,c9,d0,d1,rfl,H⟩ a E;refine ss 3 E H z bR (aZ H m0 mm1 mm2 mm3 mm4 mm5) λw H=>nt<|wR<|aH<|aH<|oB 3 (aS c5 c6 c7 c8 c9 d0 d1) E H U48 z bR<|have H:=H.drs [0,1,1];?_;cases m;exact X7 ⟨z,H.rdx [0,1,2,3,4,5] z (aD (t6 (c _ f)) (λr hr=>(t6 (c r hr))))⟩
   refine wK<|aA<|wS<|wS<|have H:=H.thaw (i:=0) z;?_;obtain ⟨g1,H⟩:=H.raw m0;refine dw [(0,0),(1,0),(2,0),(3,0),(8,0),(9,0),(4,1),(5,0),(6,0),(7,0),(10,0)] [1] [0] H (by kernel_rfl) (λ_ _ _ h=>False.elim h.2) λw W0 hI H=>fn 3 E z λa E=>fb2 E m0 U9 z λa E=>fn 1 E z λa E=>fb2 E m0 U2 z λa E=>bW z<|bd m λg2 b0 m=>xk2 E z (cf_ 24) (F9 H mm1 b0) λw H a E=>nt<|⟨⟨_,_,H,(aV mm1 (bQ)),(aD m0 (bT))⟩,bd m λg3 b1 m=>?_⟩
   obtain ⟨q258,g4,b2,b3⟩:=gD (P:=Tryz.prog) (k:=.i64) hI (gC (.head _)) U32 lA b1;refine fv E z (λw hW=>iO E z z z (b2 w)) λa E=>?_;have b4:=tC b3 (λ_ _ _ h=>Qv h);refine fn 1 E z λa E=>fa E z (wn z) z z z z b4 U2 z λa E=>fn 1 E z λa E=>bG<|?_;clear hI;refine aA<|wif E m z (λm=>?_) λm=>?_
   ·refine sq<|bd m λd2 b5 m=>xc2 E z (cf_ 53) (eW H b5)<|?_;rintro _ w ⟨d3,d4,d5,d6,d7,d8,rfl,H⟩ a E;refine ss 2 E H z bR (aZ H m0 mm1 mm2 mm3 mm4 mm5) λw H=>nt<|wR<|aH<|aH<|oB 2 (aS d2 d3 d4 d5 d6 d7 d8) E H U48 z bR<|have H:=H.drs [1,1];?_;cases m;exact X7 ⟨z,H.rdx [0,1,2,3,4,5] z (aD (t8 (c _ f)) (λr hr=>(t8 (c r hr))))⟩
   refine wK<|aA<|wS<|sp 3 E z λa E=>lb2 E H 1 U9 z λa E=>bd m λg5 b6 m=>xk2 E z (cf_ 106) (Bw H (t2 (c _ c4)) mm1 b6) λw H a E=>nt<|wif E m z (λm=>?_) λm=>?_
   ·refine sq<|bd m λd9 b7 m=>xc2 E z (cf_ 53) (eW H b7)<|?_;rintro _ w ⟨e0,e1,e2,e3,e4,e5,rfl,H⟩ a E;refine ss 2 E H z bR (aZ H m0 mm1 mm2 mm3 mm4 mm5) λw H=>nt<|wR<|aH<|aH<|oB 2 (aS d9 e0 e1 e2 e3 e4 e5) E H U48 z bR<|have H:=H.drs [1,1];?_;cases m;exact X7 ⟨z,H.rdx [0,1,2,3,4,5] z (aD (t8 (c _ f)) (λr hr=>(t8 (c r hr))))⟩
   refine wK<|aA<|wG<|pr 4 E z λa E=>?_;obtain ⟨q281,g6,rfl⟩:=H.slform mm1;exact ss 0 E H z HP z λw H=>nt<|X3 ⟨E.to z,H,(Y2 c),mm1,m⟩
  exact wK<|aA<|X3 ⟨E.to z,H,c,(c _ f),m⟩
 ·clear E H m;rintro a w ⟨u,N,F,E,H,b,d,m⟩;unfold qC at m;refine sp 2 E z λa E=>lb2 E H 1 U9 z λa E=>bd m λS e6 m=>xk2 E z (cf_ 104) (M9 H d e6) λw H a E=>pr 3 E z λa E=>al2 E H z Td λb8 w a H E=>ss 0 E H z lA z λw H=>pr 1 E z λa E=>nt<|aL (λa w=>∃ V T U O Q G,Env 90 a [(4,pt y 0),(9,pt b8 0),(11,pt V 0)]/\Sep w (Blk y 48 bH::Blk b8 31 (rE S.1)::Blk V 25 [T,U]::Blk g 87 [A,B,u,I,j,l,n,o,p]::Row 107 aB T O::Row 89 aC U Q::Fo) G/\(∀ r,r ∈ rs->r ∈ G)/\rSl aO u N ∈ G/\uF S N O Q=some r) ?_ ?_
  ·refine bd m λn2 x m=>?_;have hI:dN [Blk g 87 [A,B,u,I,j,l,n,o,p],Blk t 37 (aN x20 J K L M)] [] { w with drawn:=w.drawn+1 }:=⟨_,_,H.kept (Kp.drawn _ w _),(aV mm1 (aV mm2 (bQ))),(bT)⟩
   refine qJ _ (.go 0 0 (.go 1 0 (.go 2 0 (.go 3 0 (.go 4 0 (.go 5 0 (.go 6 0 (.go 7 0 (.go 8 0 (.go 9 0 (.alt3 10 (.go 11 0 (.go 12 0 (.go 13 0 (.alt 14 (.go 15 1 (.go 16 1 (.go 17 2 .nil))) 15 (.go 14 1 (.go 16 1 (.go 17 2 .nil))))))) 14 (.alt 10 (.go 11 0 (.go 12 0 (.go 13 0 (.go 15 1 (.go 16 1 (.go 17 2 .nil)))))) 15 (.go 10 1 (.go 11 0 (.go 12 0 (.go 13 0 (.go 16 1 (.go 17 2 .nil))))))) 15 (.alt 10 (.go 11 0 (.go 12 0 (.go 13 0 (.go 14 1 (.go 16 1 (.go 17 2 .nil)))))) 14 (.go 10 1 (.go 11 0 (.go 12 0 (.go 13 0 (.go 16 1 (.go 17 2 .nil)))))))))))))))))) [17] qS (by kernel_rfl) (λ_ _ _ h=>False.elim h.2) hI<|have H:=H.kept (Kp.drawn _ w (w.drawn+1));?_;generalize ({ w with drawn:=w.drawn+1 }:WD)=w at H hI ⊢
   replace hI:∃ W,dN [Blk g 87 [A,B,u,I,j,l,n,o,p],Blk t 37 (aN x20 J K L M)] [] W:=⟨_,hI⟩
   obtain ⟨W0,hI⟩:=hI;refine om E z λa E=>ov E z (λw hW=>(F2 E z z)) λa E=>ov E z (λw hW=>oR E z z (v:=pt g 0) (Rc _ _)) λa E=>ov E z (λw hW=>mW E z z (W7 (us:=[A,B]) m0 z U25 z cY w hW)) λa E=>om E z λa E=>ov E z (λw hW=>(F2 E z z)) λa E=>ov E z (λw hW=>oR E z z (v:=pt g 2) (EW _ _)) λa E=>ol E m0 U32 z λa E=>ov E z (λw hW=>oR E z z (v:=pt t 6) (Xj _ _)) λa E=>ol E mm1 U9 z λa E=>AL z z z ?_ ?_ ?_
   ·refine xc2 E z (cf_ 107) (pM (x1:=(⟨C,D⟩:aK)) H (b _ q) (b _ s) d x)<|?_;rintro _ w ⟨g7,g8,g9,i0,rfl,H⟩ a E;refine nt<|⟨sx H [5,6] z,om E z λa E=>ox E z λa E=>ox E z λa E=>rD z z ?_ ?_⟩
    ·refine al2 E H z mX λi1 w a H E=>nt<|⟨⟨_,_,H,(aV mm6 (aV (t1 mm6) (bQ))),(bT)⟩,cO z<|al2 E H z mX λi2 w a H E=>nt<|⟨⟨_,_,H,(aV (t1 mm6) (aV (t2 mm6) (bQ))),(bT)⟩,cO z<|?_⟩⟩
     obtain ⟨q156,i3,rfl⟩:=H.rowform (i:=2) z;obtain ⟨q158,i4,rfl⟩:=H.rowform (i:=3) z;refine ss 1 E H z cY z λw H=>nt<|⟨⟨_,_,H,(aV (t1 mm6) (aV (t2 mm6) (bQ))),(bT)⟩,dF z<|?_⟩
     obtain ⟨q160,i5,rfl⟩:=H.rowform (i:=4) z;obtain ⟨q162,i6,rfl⟩:=H.rowform (i:=5) z;refine ss 0 E H z cY z λw H=>nt<|fK<|?_;clear hI;exact aA<|have H:=H.drs [0,3,3,5];have H:=H.frs [2,2,4,3,4,5] z;X6 ⟨E.to z,H,b,d,m⟩
    refine al2 E H z mX λi7 w a H E=>nt<|⟨⟨_,_,H,(aV mm6 (aV (t1 mm6) (bQ))),(bT)⟩,cO z<|al2 E H z mX λi8 w a H E=>nt<|⟨⟨_,_,H,(aV (t1 mm6) (aV (t2 mm6) (bQ))),(bT)⟩,cO z<|?_⟩⟩
    obtain ⟨q166,i9,rfl⟩:=H.rowform (i:=2) z;obtain ⟨q168,j0,rfl⟩:=H.rowform (i:=3) z;refine ss 0 E H z cY z λw H=>nt<|⟨⟨_,_,H,(aV (t1 mm6) (aV (t2 mm6) (bQ))),(bT)⟩,dF z<|?_⟩
    obtain ⟨q170,j1,rfl⟩:=H.rowform (i:=4) z;obtain ⟨q172,j2,rfl⟩:=H.rowform (i:=5) z;refine ss 1 E H z cY z λw H=>nt<|fK<|?_;clear hI;exact aA<|have H:=H.drs [1,3,3,5];have H:=H.frs [2,2,4,3,4,5] z;X6 ⟨E.to z,H,b,d,m⟩
   ·refine al2 E H z mX λj3 w a H E=>nt<|⟨sx H [2,3] z,rD z z ?_ ?_⟩
    ·refine xc2 E z (cf_ 107) (pM (x1:=(⟨C,D⟩:aK)) H (b _ q) (b _ s) d x)<|?_;rintro _ w ⟨j4,j5,j6,j7,rfl,H⟩ a E;refine nt<|⟨⟨_,_,H,(aV mm6 (aV (t1 mm6) (bQ))),(bT)⟩,om E z λa E=>ox E z λa E=>ox E z λa E=>cO z<|al2 E H z mX λj8 w a H E=>nt<|⟨⟨_,_,H,(aV (t1 mm6) (aV (t2 mm6) (bQ))),(bT)⟩,cO z<|?_⟩⟩
     obtain ⟨q182,j9,rfl⟩:=H.rowform (i:=1) z;obtain ⟨q184,k0,rfl⟩:=H.rowform (i:=2) z;refine ss 5 E H z cY z λw H=>nt<|⟨⟨_,_,H,(aV (t1 mm6) (aV (t2 mm6) (bQ))),(bT)⟩,dF z<|?_⟩
     obtain ⟨q186,k1,rfl⟩:=H.rowform (i:=3) z;obtain ⟨q188,k2,rfl⟩:=H.rowform (i:=4) z;refine ss 0 E H z cY z λw H=>nt<|fK<|?_;clear hI;exact aA<|have H:=H.drs [0,2,2,5];have H:=H.frs [1,1,4,3,4,5] z;X6 ⟨E.to z,H,b,d,m⟩
    refine al2 E H z mX λk3 w a H E=>nt<|⟨sx H [3,4] z,cO z<|xc2 E z (cf_ 107) (pM (x1:=(⟨C,D⟩:aK)) H (b _ q) (b _ s) d x)<|?_⟩
    rintro _ w ⟨k4,k5,k6,k7,rfl,H⟩ a E;refine nt<|⟨⟨_,_,H,(aV (t1 mm6) (aV (t2 mm6) (bQ))),(bT)⟩,om E z λa E=>ox E z λa E=>ox E z λa E=>cO z<|?_⟩
    obtain ⟨q197,k8,rfl⟩:=H.rowform (i:=0) z;obtain ⟨q199,k9,rfl⟩:=H.rowform (i:=1) z;refine ss 5 E H z cY z λw H=>nt<|⟨⟨_,_,H,(aV (t1 mm6) (aV (t2 mm6) (bQ))),(bT)⟩,dF z<|?_⟩
    obtain ⟨q201,l0,rfl⟩:=H.rowform (i:=2) z;obtain ⟨q203,l1,rfl⟩:=H.rowform (i:=3) z;refine ss 4 E H z cY z λw H=>nt<|fK<|?_;clear hI;exact aA<|have H:=H.drs [2,2,2,5];have H:=H.frs [1,1,4,3,4,5] z;X6 ⟨E.to z,H,b,d,m⟩
   refine al2 E H z mX λl2 w a H E=>nt<|⟨sx H [2,3] z,rD z z ?_ ?_⟩
   ·refine xc2 E z (cf_ 107) (pM (x1:=(⟨C,D⟩:aK)) H (b _ q) (b _ s) d x)<|?_;rintro _ w ⟨l3,l4,l5,l6,rfl,H⟩ a E;refine nt<|⟨⟨_,_,H,(aV mm6 (aV (t1 mm6) (bQ))),(bT)⟩,om E z λa E=>ox E z λa E=>ox E z λa E=>cO z<|al2 E H z mX λl7 w a H E=>nt<|⟨⟨_,_,H,(aV (t1 mm6) (aV (t2 mm6) (bQ))),(bT)⟩,cO z<|?_⟩⟩
    obtain ⟨q213,l8,rfl⟩:=H.rowform (i:=1) z;obtain ⟨q215,l9,rfl⟩:=H.rowform (i:=2) z;refine ss 0 E H z cY z λw H=>nt<|⟨⟨_,_,H,(aV (t1 mm6) (aV (t2 mm6) (bQ))),(bT)⟩,dF z<|?_⟩
    obtain ⟨q217,m1,rfl⟩:=H.rowform (i:=3) z;obtain ⟨q219,m2,rfl⟩:=H.rowform (i:=4) z;refine ss 5 E H z cY z λw H=>nt<|fK<|?_;clear hI;exact aA<|have H:=H.drs [3,3,3,5];have H:=H.frs [2,2,4,3,4,5] z;X6 ⟨E.to z,H,b,d,m⟩
   refine al2 E H z mX λm3 w a H E=>nt<|⟨sx H [3,4] z,cO z<|xc2 E z (cf_ 107) (pM (x1:=(⟨C,D⟩:aK)) H (b _ q) (b _ s) d x)<|?_⟩
   rintro _ w ⟨m4,m5,m6,m7,rfl,H⟩ a E;refine nt<|⟨⟨_,_,H,(aV (t1 mm6) (aV (t2 mm6) (bQ))),(bT)⟩,om E z λa E=>ox E z λa E=>ox E z λa E=>cO z<|?_⟩
   obtain ⟨q228,m8,rfl⟩:=H.rowform (i:=0) z;obtain ⟨q230,m9,rfl⟩:=H.rowform (i:=1) z;refine ss 4 E H z cY z λw H=>nt<|⟨⟨_,_,H,(aV (t1 mm6) (aV (t2 mm6) (bQ))),(bT)⟩,dF z<|?_⟩
   obtain ⟨q232,n0,rfl⟩:=H.rowform (i:=2) z;obtain ⟨q234,n1,rfl⟩:=H.rowform (i:=3) z;refine ss 5 E H z cY z λw H=>nt<|fK<|?_;clear hI;exact aA<|have H:=H.drs [2,2,3,5];have H:=H.frs [1,1,4,3,4,5] z;X6 ⟨E.to z,H,b,d,m⟩
  ·clear E H m;rintro a w ⟨V,T,U,O,Q,G,E,H,e7,e8,m⟩;unfold uF at m;refine sp 1 E z λa E=>lb2 E H 1 U2 z λa E=>ln 2 [T,U] E H U25 z cY λa E=>?_;obtain ⟨q56,b9,rfl⟩:=H.rowform (i:=4) z;obtain ⟨q58,c0,rfl⟩:=H.rowform (i:=5) z;refine sv2 E z (cN E z (E.evs z) (v:=.agg #[.int .i64 0,.int .i64 0,.bool false,.int .i64 S.1.Epoch,nS,(.slice q56 O.length b9),(.slice q58 Q.length c0),nS,nS,nS]) (by kernel_rfl)) λa E=>ss 0 E H z bR z λw H=>nt<|wR<|oB 0 [.int .i64 0,.int .i64 0,.bool false,.int .i64 S.1.Epoch,nS,(.slice q56 O.length b9),(.slice q58 Q.length c0),nS,nS,nS] E H U48 z bR<|have H:=H.thaw (i:=4) z;have H:=H.thaw (i:=4) z;have H:=H.nilSl aX;have H:=H.nilSl aQ;have H:=H.nilSl bB;have H:=H.nilSl (kI .i64);have H:=H.drs [0,0,0];?_;cases m;exact X7 ⟨z,H.rdx [3,5,4,2,1,0] z (aD (t6 e8) (λr hr=>(t6 (e7 r hr))))⟩

def oI(x1:aU)(e:List aF)(b:List aF):Option Bool:=
  (mT e x1.Dir).bind λc=>(mT b x1.Dir).bind λd=>if (decide (c < 0))=true then (some (true)) else (if (decide (d < 0))=true then (some (true)) else ((idx e c).bind λf=>(idx b d).bind λg=>some (!(sEq f.Prefix g.Prefix))))
theorem Gq{x1:aU}{y j e:Nat}{A f l n o p q s t u:VL}{N x:List aF}(H:Sep w (Blk y 28 [pt j 0]::Blk j 87 [l,n,A,o,p,q,s,t,u]::Blk e 32 [f]::Fo) rs)(g:rSl aO A N ∈ rs)(i:rSl aO f x ∈ rs){r:Bool}(m:oI x1 N x=some r) :
    Cf 187 [.agg (vK x1).toArray,pt y 0,pt e 0] w λv w'=>.bool r=v/\Sep w' (Blk y 28 [pt j 0]::Blk j 87 [l,n,A,o,p,q,s,t,u]::Blk e 32 [f]::Fo) (rs):=by
 unfold oI at m;refine ent func187 z ntmps187 z z λa E=>sq<|bx E H z λO w a H E=>pn 1 E z λa E=>wS<|dw [(0,0),(1,0),(2,0),(3,0),(4,0),(5,0),(7,0),(8,0),(9,0),(6,1),(10,1),(11,1),(12,2)] [0,1,2,3] [] H (by kernel_rfl) (λ_ _ _ h=>False.elim h.2) λw W0 hI H=>fb2 E mm1 U28 z λa E=>fn 2 E z λa E=>fb2 E mm2 U32 z λa E=>fn 1 E z λa E=>fb2 E m0 U9 z λa E=>fb2 E mm3 U32 z λa E=>fn 1 E z λa E=>fb2 E m0 U9 z λa E=>bW z<|bd m λQ B m=>xk2 E z (cf_ 24) (F9 H g B) λw H a E=>nt<|⟨sx H [0,1,2,3] z,bW z<|bd m λR C m=>xk2 E z (cf_ 24) (F9 H i C) λw H a E=>nt<|⟨sx H [0,1,2,3] z,bW z<|pn 1 E z λa E=>⟨sx H [0,1,2,3] z,bK z<|pn 1 E z λa E=>bG<|?_⟩⟩⟩
 clear hI;refine aA<|wS<|?_;obtain ⟨S,H⟩:=H.raw g;obtain ⟨T,H⟩:=H.raw (t1 i);refine dw [(0,0),(1,0),(2,0),(3,0),(4,0),(5,0),(6,0),(7,0),(8,0),(9,0),(10,0),(11,0),(12,0),(13,0),(14,0),(15,0),(16,0),(17,0),(18,0),(19,0),(20,0),(21,0),(22,2)] [1,2,3] [1,0] H (by kernel_rfl) (λ_ _ _ h=>False.elim h.2) λw W0 hI H=>fn 3 E z λa E=>cs m (λc m=>?_) λc m=>?_
 ·refine fk 19 E (kc 20 z c) z λa E=>bK z<|pn 1 E z λa E=>bG<|?_;clear hI;refine aA<|wR<|o1 E z<|have H:=H.drop 0;?_;cases m;exact ⟨z,H.reads (Y2 Y0)⟩
 ·refine fk 4 E (kc 20 z c) z λa E=>cs m (λb m=>?_) λb m=>?_
  ·refine fk 15 E (kc 24 z b) z λa E=>bK z<|pn 1 E z λa E=>bG<|?_;clear hI;refine aA<|wR<|o1 E z<|have H:=H.drop 0;?_;cases m;exact ⟨z,H.reads (Y2 Y0)⟩
  ·refine fb E z (ws' (d:=24) E z z z z b) z z z z m0 z U28 z λa E=>fk 2 E (kc 24 z b) z λa E=>fb E z (ws' (d:=24) E z z z z b) z z z z mm1 z U32 z λa E=>fk 1 E (kc 24 z b) z λa E=>bd m λU D m=>?_;obtain ⟨q46,V,F,G⟩:=gD (P:=Tryz.prog) (k:=.i64) hI (gC (.head _)) U32 lA D;refine dV E z (ws' (d:=24) E z z z z b) z z (λw hW=>iO E z z z (F w)) λa E=>?_;have I:=tC G (λ_ _ _ h=>wZ h);refine fk 1 E (kc 24 z b) z λa E=>fa E z (ws' (d:=24) E z z z z b) z z z z I U9 z λa E=>fb E z (ws' (d:=24) E z z z z b) z z z z mm2 z U32 z λa E=>fk 1 E (kc 24 z b) z λa E=>bd m λW J m=>?_;obtain ⟨q53,X,K,L⟩:=gD (P:=Tryz.prog) (k:=.i64) hI (gC (.tail _ (.head _))) U32 lA J;refine dV E z (ws' (d:=24) E z z z z b) z z (λw hW=>iO E z z z (K w)) λa E=>?_;have M:=tC L (λ_ _ _ h=>wZ h);refine fk 1 E (kc 24 z b) z λa E=>fa E z (ws' (d:=24) E z z z z b) z z z z M U9 z λa E=>fk 2 E (kc 24 z b) z λa E=>bK z<|pn 1 E z λa E=>bG<|?_;clear hI;refine aA<|wR<|o1 E z<|have H:=H.drop 0;?_;cases m;exact ⟨z,H.reads (Y2 Y0)⟩

def eN(e:List aU)(c:List aF)(d:List aF):Nat->Int->Option Int
  | 0,_=>none
  | i+1,b=>
    if (decide (b < (e.length:Int)))=true then ((idx e b).bind λf=>(oI f c d).bind λg=>if g=true then (some (b)) else (eN e c d i (IntKind.i64.wrap (b+1)))) else (some ((-1)))
def jK(b:List aU)(c:List aF)(d:List aF):Option Int:=
  eN b c d (((b.length:Int) - 0:Int).toNat+1) 0
theorem K7{B A d g i j k l n o p:VL}{q:List aU}{s e c:Nat}{t u:List aF}(H:Sep w (Blk s 28 [pt e 0]::Blk e 87 [g,i,A,j,k,l,n,o,p]::Blk c 32 [d]::Fo) rs)(x:rSl bA B q ∈ rs)(C:rSl aO A t ∈ rs)(D:rSl aO d u ∈ rs){r:Int}(m:jK q t u=some r) :
    Cf 154 [B,.func (.func 187) #[] #[pt s 0,pt c 0]] w λv w'=>.int .i64 r=v/\Sep w' (Blk s 28 [pt e 0]::Blk e 87 [g,i,A,j,k,l,n,o,p]::Blk c 32 [d]::Fo) (rs):=by
 unfold jK at m;refine ent func154 z ntmps154 z z λa E=>sq<|pn 1 E z λa E=>wS<|sp 1 E z λa E=>lS E H x U58 z λa E=>pr 1 E z λa E=>nt<|wB<|bF (λf a w=>∃ y,Jn 19 a w [(0,B),(1,.func (.func 187) #[] #[pt s 0,pt c 0]),(7,.int .i64 (q.length:Int)),(8,.int .i64 y)] (Blk s 28 [pt e 0]::Blk c 32 [d]::Blk e 87 [g,i,A,j,k,l,n,o,p]::Fo) rs (eN q t u f y=some r)) (((q.length:Int) - 0:Int).toNat+1) ?_ ?_
 ·exact have H:=H.frs [1,2,2] z;⟨_,_,E.to z,H,Y0,m⟩
 ·clear E H m;rintro f a w ⟨y,I,E,H,b,m⟩;cases f with
  | zero=>exact (bD m z).elim
  | succ f=>
   unfold eN at m;refine sq<|pn 1 E z λa E=>wS<|wif E m z (λm=>?_) λm=>?_
   ·refine wK<|aA<|wS<|wB<|sp 2 E z λa E=>xp 3 E z λa E=>bd m λJ F m=>dC E H (wn z) z z z z z (b _ x) U58 rG F λq42 a H E=>ldf gN E H z z z z z m0 U78 z rG λa E=>have H:=H.frs [1,2,2] z;bd m λK G m=>bI E (wn z) z z (bO E z z z ((cf_ 187) _)) (Gq H (t1 (b _ C)) (t1 (b _ D)) G)<|?_;rintro _ w ⟨rfl,H⟩ a E;refine nt<|wif E m z (λm=>?_) λm=>?_
    ·refine sq<|pn 2 E z λa E=>wR<|bJ<|aH<|aH<|bJ<|aH<|o1 E z<|?_;cases m;exact ⟨z,H.reads (Y1 b)⟩
    exact wK<|bM<|aA<|wG<|pn 2 E z λa E=>have H:=H.frs [1,2,2] z;⟨f,nL f,_,_,E.to z,H,(Y1 b),m⟩
   ·refine wX<|aT<|aT<|cL<|aA<|sq<|pn 1 E z λa E=>wR<|o1 E z<|have H:=H.frs [1,2,2] z;?_;cases m;exact ⟨z,H.reads b⟩

def iD(e:List aU)(b:List aF)(c:List aF):Option Bool:=
  (jK e b c).bind λd=>some (decide (d ≥ 0))
theorem E7{A q b e f g i j k l n:VL}{B:List aU}{s d c:Nat}{o p:List aF}(H:Sep w (Blk s 28 [pt d 0]::Blk d 87 [e,f,q,g,i,j,k,l,n]::Blk c 32 [b]::Fo) rs)(t:rSl bA A B ∈ rs)(u:rSl aO q o ∈ rs)(x:rSl aO b p ∈ rs){r:Bool}(m:iD B o p=some r) :
    Cf 160 [A,.func (.func 187) #[] #[pt s 0,pt c 0]] w λv w'=>.bool r=v/\Sep w' (Blk s 28 [pt d 0]::Blk d 87 [e,f,q,g,i,j,k,l,n]::Blk c 32 [b]::Fo) (rs):=by
 unfold iD at m;refine ent func160 z ntmps160 z z λa E=>sp 1 E z λa E=>xp 2 E z λa E=>bd m λC y m=>xk2 E z (cf_ 154) (K7 H t u x y) λw H a E=>pn 2 E z λa E=>wR<|o1 E z<|?_;cases m;exact ⟨z,H.reads Y0⟩

def uS(d:List aF)(e:List aU)(b:List aF):Option Bool:=
  (iD e d b).bind λc=>some (c)
theorem Jl{n:Nat}{o p c d e f g i j k:VL}{u l:List aF}{x:List aU}(H:Sep w (Blk n 87 [d,e,o,p,f,g,i,j,k]::Fo) rs)(q:rSl aO o u ∈ rs)(s:rSl bA p x ∈ rs)(b:rSl aO c l ∈ rs){r:Bool}(m:uS u x l=some r) :
    Cf 110 [pt n 0,c] w λv w'=>.bool r=v/\Sep w' (Blk n 87 [d,e,o,p,f,g,i,j,k]::Fo) (rs):=by
 unfold uS at m;refine ent func110 z ntmps110 z z λa E=>sq<|bx E H z λy w a H E=>?_;obtain ⟨q34,A,rfl⟩:=H.slform b;refine bx E H z λB w a H E=>pr 1 E z λa E=>nx<|lb2 E H 1 U28 z λa E=>pr 2 E z λa E=>lb2 E H 2 U58 z λa E=>sv2 E z (nR E z z z) λa E=>have H:=H.frs [0,2,2] z;bd m λC t m=>xk2 E z (cf_ 160) (E7 H s q b t) λw H a E=>pn 1 E z λa E=>wR<|o1 E z<|have H:=H.drs [0,1];?_;cases m;exact ⟨z,H.reads Y0⟩

def tO(x20:aI)(e:gY)(c:dL)(d:dO):Option Th:=
  (vR x20.Store e x20.Prefix).bind λb=>(ck (c.length+b.1.length <= LIM)).bind λf=>(ck (d.length+b.2.1.length <= LIM)).bind λg=>(ck ((c ++ b.1).length <= 1000000)).bind λi=>(ck ((d ++ b.2.1).length <= 1000000)).bind λj=>some ((⟨0,0,false,0,[],(⟨[],[]⟩:aK),[],[],[]⟩:aW),srtN (c ++ b.1),Tn.srtN (d ++ b.2.1),e)
def pD(x20:aI)(c:gY)(d:List aG)(e:List aM)(i:List aF)(f:Bool):Option Th:=
  if f=true then ((dK 131).bind λg=>some (g,d,e,i)) else ((vR (⟨d,e⟩:aK) c x20.Prefix).bind λb=>tO x20 c b.2.2.1 b.2.2.2)
def lU(x20:aI)(b:gY)(e:List aG)(f:List aM)(d:List aF)(i:List aU)(j:Bool):Option Th:=
  if j=true then ((dK 2).bind λk=>some (k,e,f,d)) else ((pC i b x20.Prefix).bind λc=>if c=true then (pD x20 b e f d c) else ((uS d i b).bind λg=>pD x20 b e f d g))
def lV(x20:aI)(d:List aG)(e:List aM)(f:List aF)(g:List aU)(c:gY×Bool)(b:gY):Option Th:=
  if (!c.2)=true then (lU x20 b d e f g (!c.2)) else (lU x20 b d e f g (decide ((b.length:Int) > 32)))
def jA(x20:aI)(d:List aG)(e:List aM)(c:List aF)(g:List aU)(i:Bool):Option Th:=
  if i=true then (some ((⟨0,0,false,0,[],(⟨[],[]⟩:aK),[],[],[]⟩:aW),d,e,c)) else ((qN c x20.Prefix x20.Epoch).bind λb=>if b.2=true then ((yW b.1 x20.Gone).bind λf=>lV x20 d e c g b f) else (lV x20 d e c g b b.1))
def sO(d:List aG)(e:List aM)(c:List aF)(f:List aU)(x20:aI):Option Th:=
  (kX c x20.Prefix).bind λb=>if b.2=true then (jA x20 d e c f (decide (b.1.Epoch ≥ x20.Epoch))) else (jA x20 d e c f false)
theorem Gr{t:Nat}{u x A B s f g k l n o p q:VL}{Q:List aG}{R:List aM}{b5:List aF}{b6:List aU}{x20:aI}(H:Sep w (Blk t 87 [u,x,A,B,l,n,o,p,q]::Fo) rs)(F:rSl aB u Q ∈ rs)(G:rSl aC x R ∈ rs)(P:rSl aO A b5 ∈ rs)(b7:rSl bA B b6 ∈ rs)(f9:rSl aB f x20.Store.Nodes ∈ rs)(g0:rSl aC g x20.Store.Turns ∈ rs)(g1:rSl kS k x20.Gone ∈ rs){r:aW×dL×dO×gY}(m:sO Q R b5 b6 x20=some r) :
    Cf 47 [pt t 0,.agg (aN x20 s f g k).toArray] w λv w'=>∃ k9 l0 l1 l2 l3 l4 l5 e6 e7,.agg (aS r.1 k9 l0 l1 l2 l3 l4).toArray=v/\Sep w' (Blk t 87 [l5,e6,e7,B,l,n,o,p,q]::Fo) (rSl aX k9 r.1.Results::rSl aB l0 r.1.Store.Nodes::rSl aC l1 r.1.Store.Turns::rSl aQ l2 r.1.Events::rSl bB l3 r.1.Mounts::rSl (kI .i64) l4 r.1.Wounded::rSl aB l5 r.2.1::rSl aC e6 r.2.2.1::rSl aO e7 r.2.2.2::rs):=by
 unfold sO at m;refine ent func47 z ntmps47 z z λa E=>sq<|bx E H z λe w a H E=>al2 E H z lB λj w a H E=>nt<|wS<|sp 2 E z λa E=>lb2 E H 1 U9 z λa E=>have H:=H.frs [1,1,2] z;bd m λl6 g2 m=>xk2 E z (cf_ 104) (M9 H P g2) λw H a E=>pr 3 E z λa E=>al2 E H z Td λo2 w a H E=>ss 0 E H z lA z λw H=>pn 1 E z λa E=>aL (λa w=>∃ b8,Jn 110 a w [(0,pt t 0),(3,pt e 0),(4,pt j 0),(27,.bool b8)] (Blk t 87 [u,x,A,B,l,n,o,p,q]::Blk e 37 (aN x20 s f g k)::Blk j 48 bH::Fo) rs (jA x20 Q R b5 b6 b8=some r)) ?_ ?_
 ·refine wG<|pr 2 E z λa E=>cs m (λC m=>?_) λC m=>?_
  ·exact pk 1 E (kc 21 z C) z λa E=>gl 21 E H 0 C U2 z λa E=>pk 1 E (kc 21 z C) z λa E=>gl 21 E H 3 C U2 z λa E=>pk 2 E (kc 21 z C) z λa E=>nt<|have H:=H.drop 0;have H:=H.frs [1,2,2] z;⟨decide (l6.1.Epoch ≥ x20.Epoch),_,E.sel [0,3,4,27] z,H,λr hr=>hr,m⟩
  exact pk 6 E (kc 21 z C) z λa E=>nt<|have H:=H.drop 0;have H:=H.frs [1,2,2] z;⟨false,_,E.sel [0,3,4,27] z,H,λr hr=>hr,m⟩
 ·clear E H m;rintro a w ⟨b8,m2,E,H,I,m⟩;unfold jA at m;refine wif E m z (λm=>?_) λm=>?_
  ·refine sq<|sv2 E z (cN E z (E.evs z) (v:=.agg bH.toArray) (by kernel_rfl)) λa E=>ss 2 E H z bR z λw H=>?_
   replace H:Sep w (Blk t 87 [u,x,A,B,l,n,o,p,q]::Blk e 37 (aN x20 s f g k)::Blk j 48 bH::Fo) _:=H
   refine nt<|wR<|aH<|Hg E z (qI (i:=2) (us:=bH) H z z z U48 z bR)<|have H:=H.nilSl aX;have H:=H.nilSl aB;have H:=H.nilSl aC;have H:=H.nilSl aQ;have H:=H.nilSl bB;have H:=H.nilSl (kI .i64);have H:=H.drs [1,1];?_;cases m;exact ⟨(nS),(nS),(nS),(nS),(nS),(nS),u,x,A,z,H.rdx [5,4,3,2,1,0] z (aD (t6 (I _ F)) (aD (t6 (I _ G)) (aD (t6 (I _ P)) (λr hr=>(t6 (I r hr))))))⟩
  ·refine wK<|aA<|wS<|dz [0,0,0,0,0,0,0,0,1,0,0,0,1,2] [0,1] H λw W0 hI H=>fn 3 E z λa E=>fb2 E m0 U32 z λa E=>fn 1 E z λa E=>fb2 E mm1 U9 z λa E=>fn 1 E z λa E=>fb2 E mm1 U2 z λa E=>bW z<|bd m λb2 g3 m=>xc2 E z (cf_ 108) (Rs H (I _ P) g3)<|?_;rintro _ w ⟨l7,rfl,H⟩ a E;refine nt<|⟨sx H [1,2] z,fn 3 E z λa E=>bW z<|pn 1 E z λa E=>⟨sx H [1,2] z,bK z<|pn 1 E z λa E=>bG<|?_⟩⟩
   clear hI;refine aA<|aL (λa w=>∃ L J,Jn 110 a w [(0,pt t 0),(3,pt e 0),(4,pt j 0),(7,L),(8,.bool b2.2)] (Blk t 87 [u,x,A,B,l,n,o,p,q]::Blk e 37 (aN x20 s f g k)::Blk j 48 bH::Row 31 aO L J::Fo) rs (lV x20 Q R b5 b6 b2 J=some r)) ?_ ?_
   ·refine sq<|pn 1 E z λa E=>wif E m z (λm=>?_) λm=>?_
    ·refine wG<|pr 2 E z λa E=>lb2 E H 2 U33 z λa E=>bd m λg4 d9 m=>xc2 E z (cf_ 109) (Xs H (I _ g1) d9)<|?_;rintro _ w ⟨g5,rfl,H⟩ a E;exact pn 1 E z λa E=>have H:=H.frs [0,3,3,3] z;⟨g5,g4,_,E.sel [0,3,4,7,8] z,H,I,m⟩
    exact wK<|aA<|have H:=H.frs [0,3,3,3] z;⟨l7,b2.1,_,E.sel [0,3,4,7,8] z,H,I,m⟩
   ·clear E H m;rintro a w ⟨L,J,m3,E,H,b9,m⟩;unfold lV at m;refine wS<|wB<|aL (λa w=>∃ c0,Jn 110 a w [(0,pt t 0),(3,pt e 0),(4,pt j 0),(7,L),(46,.bool c0)] (Blk t 87 [u,x,A,B,l,n,o,p,q]::Blk e 37 (aN x20 s f g k)::Blk j 48 bH::Row 31 aO L J::Fo) rs (lU x20 J Q R b5 b6 c0=some r)) ?_ ?_
    ·refine sq<|pn 3 E z λa E=>wif E m z (λm=>?_) λm=>?_
     ·exact wK<|aA<|⟨!b2.2,_,E.sel [0,3,4,7,46] z,H,b9,m⟩
     exact wG<|pr 1 E z λa E=>sv2 E z (lQ (i:=3) E H z z z U32) λa E=>pn 2 E z λa E=>⟨decide ((J.length:Int) > 32),_,E.sel [0,3,4,7,46] z,H,b9,m⟩
    ·clear E H m;rintro a w ⟨c0,m4,E,H,D,m⟩;unfold lU at m;refine wif E m z (λm=>?_) λm=>?_
     ·refine sq<|bd m λl8 g6 m=>xc2 E z (cf_ 53) (eW H g6)<|?_;rintro _ w ⟨e8,e9,f0,f1,f2,f3,rfl,H⟩ a E;refine ss 2 E H z bR (aZ H m0 mm1 mm2 mm3 mm4 mm5) λw H=>nt<|wR<|bJ<|aH<|oB 2 (aS l8 e8 e9 f0 f1 f2 f3) E H U48 z bR<|have H:=H.drs [1,1,1];?_;cases m;exact ⟨e8,e9,f0,f1,f2,f3,u,x,A,z,H.rdx [0,1,2,3,4,5] z (aD (t6 (D _ F)) (aD (t6 (D _ G)) (aD (t6 (D _ P)) (λr hr=>(t6 (D r hr))))))⟩
     ·refine aL (λa w=>∃ c1 K,Env 110 a [(0,pt t 0),(3,pt e 0),(4,pt j 0),(7,L),(53,.bool c1)]/\Sep w (Blk t 87 [u,x,A,B,l,n,o,p,q]::Blk e 37 (aN x20 s f g k)::Blk j 48 bH::Fo) K/\(∀ r,r ∈ rs->r ∈ K)/\rSl aO L J ∈ K/\pD x20 J Q R b5 c1=some r) ?_ ?_
      ·refine sp 3 E z λa E=>lb2 E H 1 U9 z λa E=>have H:=H.thaw (i:=3) z;bd m λg7 e0 m=>xk2 E z (cf_ 106) (Bw H (t1 (D _ b7)) m0 e0) λw H a E=>pn 1 E z λa E=>wif E m z (λm=>?_) λm=>?_
       ·exact wK<|aA<|⟨g7,_,E.sel [0,3,4,7,53] z,H,λr hr=>(t1 (D r hr)),m0,m⟩
       exact wG<|pr 2 E z λa E=>bd m λg8 e1 m=>xk2 E z (cf_ 110) (Jl H (t1 (D _ P)) (t1 (D _ b7)) m0 e1) λw H a E=>pn 1 E z λa E=>⟨g8,_,E.sel [0,3,4,7,53] z,H,λr hr=>(t1 (D r hr)),m0,m⟩
      ·clear E H m;rintro a w ⟨c1,K,E,H,d,y,m⟩;unfold pD at m;refine wif E m z (λm=>?_) λm=>?_
       ·refine sq<|bd m λf4 g9 m=>xc2 E z (cf_ 53) (eW H g9)<|?_;rintro _ w ⟨c2,c3,c4,c5,c6,c7,rfl,H⟩ a E;refine ss 2 E H z bR (aZ H m0 mm1 mm2 mm3 mm4 mm5) λw H=>?_
        replace H:Sep w (Blk t 87 [u,x,A,B,l,n,o,p,q]::Blk e 37 (aN x20 s f g k)::Blk j 48 (aS f4 c2 c3 c4 c5 c6 c7)::Fo) _:=H
        refine nt<|wR<|bJ<|aH<|oB 2 (aS f4 c2 c3 c4 c5 c6 c7) E H U48 z bR<|have H:=H.drs [1,1];?_;cases m;exact ⟨c2,c3,c4,c5,c6,c7,u,x,A,z,H.rdx [0,1,2,3,4,5] z (aD (t6 (d _ F)) (aD (t6 (d _ G)) (aD (t6 (d _ P)) (λr hr=>(t6 (d r hr))))))⟩
       ·refine wK<|bM<|aA<|aL (λa w=>∃ X Y Z M N S,Env 110 a [(0,pt t 0),(3,pt e 0),(4,pt j 0),(7,L),(10,pt X 0)]/\Sep w (Blk t 87 [u,x,A,B,l,n,o,p,q]::Blk e 37 (aN x20 s f g k)::Blk j 48 bH::Blk X 25 [Y,Z]::Row 107 aB Y M::Row 89 aC Z N::Fo) S/\(∀ r,r ∈ rs->r ∈ S)/\rSl aO L J ∈ S/\tO x20 J M N=some r) ?_ ?_
        ·refine bd m λb O m=>?_;have hI:dN [Blk t 87 [u,x,A,B,l,n,o,p,q],Blk e 37 (aN x20 s f g k)] [] { w with drawn:=w.drawn+1 }:=⟨_,_,H.kept (Kp.drawn _ w _),(aV m0 (aV mm1 (bQ))),(bT)⟩
         refine qJ _ (.go 0 0 (.go 1 0 (.go 2 0 (.go 3 0 (.go 4 0 (.go 5 0 (.go 6 0 (.alt3 7 (.go 8 0 (.go 9 0 (.go 10 0 (.alt 11 (.go 12 1 (.go 13 1 (.go 14 2 .nil))) 12 (.go 11 1 (.go 13 1 (.go 14 2 .nil))))))) 11 (.alt 7 (.go 8 0 (.go 9 0 (.go 10 0 (.go 12 1 (.go 13 1 (.go 14 2 .nil)))))) 12 (.go 7 1 (.go 8 0 (.go 9 0 (.go 10 0 (.go 13 1 (.go 14 2 .nil))))))) 12 (.alt 7 (.go 8 0 (.go 9 0 (.go 10 0 (.go 11 1 (.go 13 1 (.go 14 2 .nil)))))) 11 (.go 7 1 (.go 8 0 (.go 9 0 (.go 10 0 (.go 13 1 (.go 14 2 .nil))))))))))))))) [14] qS (by kernel_rfl) (λ_ _ _ h=>False.elim h.2) hI<|have H:=H.kept (Kp.drawn _ w (w.drawn+1));?_;generalize ({ w with drawn:=w.drawn+1 }:WD)=w at H hI ⊢
         replace hI:∃ W,dN [Blk t 87 [u,x,A,B,l,n,o,p,q],Blk e 37 (aN x20 s f g k)] [] W:=⟨_,hI⟩
         obtain ⟨W0,hI⟩:=hI;refine om E z λa E=>ov E z (λw hW=>(F2 E z z)) λa E=>ov E z (λw hW=>oR E z z (v:=pt t 0) (Rc _ _)) λa E=>ov E z (λw hW=>mW E z z (W7 (us:=[u,x]) m0 z U25 z cY w hW)) λa E=>om E z λa E=>ov E z (λw hW=>oR E z z (v:=pt e 6) (Xj _ _)) λa E=>ol E mm1 U9 z λa E=>AL z z z ?_ ?_ ?_
         ·refine xc2 E z (cf_ 107) (pM (x1:=(⟨Q,R⟩:aK)) H (d _ F) (d _ G) y O)<|?_;rintro _ w ⟨m5,m6,c8,c9,rfl,H⟩ a E;refine nt<|⟨sx H [4,5] z,om E z λa E=>ox E z λa E=>ox E z λa E=>rD z z ?_ ?_⟩
          ·refine al2 E H z mX λi0 w a H E=>nt<|⟨sx H [5,6] z,cO z<|al2 E H z mX λd0 w a H E=>nt<|⟨⟨_,_,H,(aV mm6 (aV (t1 mm6) (bQ))),(bT)⟩,cO z<|?_⟩⟩
           obtain ⟨q212,d1,rfl⟩:=H.rowform (i:=2) z;obtain ⟨q214,d2,rfl⟩:=H.rowform (i:=3) z;refine ss 1 E H z cY z λw H=>?_
           replace H:Sep w (Blk d0 25 [nS,nS]::Blk i0 25 [(.slice q212 b.1.length d1),(.slice q214 b.2.1.length d2)]::Row 107 aB (.slice q212 b.1.length d1) b.1::Row 89 aC (.slice q214 b.2.1.length d2) b.2.1::Row 107 aB c8 b.2.2.1::Row 89 aC c9 b.2.2.2::Blk t 87 [u,x,A,B,l,n,o,p,q]::Blk e 37 (aN x20 s f g k)::Blk j 48 bH::Fo) _:=H
           refine nt<|⟨⟨_,_,H,(aV mm6 (aV (t1 mm6) (bQ))),(bT)⟩,dF z<|?_⟩
           obtain ⟨q216,i1,rfl⟩:=H.rowform (i:=4) z;obtain ⟨q218,i2,rfl⟩:=H.rowform (i:=5) z;refine ss 0 E H z cY z λw H=>nt<|fK<|?_;clear hI;exact aA<|have H:=H.drs [1,1,1];have H:=H.frs [2,2,2,5,5,5] z;⟨d0,(.slice q216 b.2.2.1.length i1),(.slice q218 b.2.2.2.length i2),b.2.2.1,b.2.2.2,_,E.sel [0,3,4,7,10] z,H,d,y,m⟩
          refine al2 E H z mX λd3 w a H E=>nt<|⟨sx H [5,6] z,cO z<|al2 E H z mX λi3 w a H E=>nt<|⟨⟨_,_,H,(aV mm6 (aV (t1 mm6) (bQ))),(bT)⟩,cO z<|?_⟩⟩
          obtain ⟨q222,d4,rfl⟩:=H.rowform (i:=2) z;obtain ⟨q224,d5,rfl⟩:=H.rowform (i:=3) z;refine ss 0 E H z cY z λw H=>?_
          replace H:Sep w (Blk i3 25 [(.slice q222 b.1.length d4),(.slice q224 b.2.1.length d5)]::Blk d3 25 [nS,nS]::Row 107 aB (.slice q222 b.1.length d4) b.1::Row 89 aC (.slice q224 b.2.1.length d5) b.2.1::Row 107 aB c8 b.2.2.1::Row 89 aC c9 b.2.2.2::Blk t 87 [u,x,A,B,l,n,o,p,q]::Blk e 37 (aN x20 s f g k)::Blk j 48 bH::Fo) _:=H
          refine nt<|⟨⟨_,_,H,(aV mm6 (aV (t1 mm6) (bQ))),(bT)⟩,dF z<|?_⟩
          obtain ⟨q226,i4,rfl⟩:=H.rowform (i:=4) z;obtain ⟨q228,i5,rfl⟩:=H.rowform (i:=5) z;refine ss 1 E H z cY z λw H=>nt<|fK<|?_;clear hI;exact aA<|have H:=H.drs [0,1,1];have H:=H.frs [2,2,2,5,5,5] z;⟨d3,(.slice q226 b.2.2.1.length i4),(.slice q228 b.2.2.2.length i5),b.2.2.1,b.2.2.2,_,E.sel [0,3,4,7,10] z,H,d,y,m⟩
         ·refine al2 E H z mX λd6 w a H E=>nt<|⟨sx H [1,2] z,rD z z ?_ ?_⟩
          ·refine xc2 E z (cf_ 107) (pM (x1:=(⟨Q,R⟩:aK)) H (d _ F) (d _ G) y O)<|?_;rintro _ w ⟨i6,i7,i8,i9,rfl,H⟩ a E;refine nt<|⟨sx H [5,6] z,om E z λa E=>ox E z λa E=>ox E z λa E=>cO z<|al2 E H z mX λd7 w a H E=>nt<|?_⟩
           replace H:Sep w (Blk d7 25 [nS,nS]::Row 107 aB i6 b.1::Row 89 aC i7 b.2.1::Row 107 aB i8 b.2.2.1::Row 89 aC i9 b.2.2.2::Blk d6 25 [nS,nS]::Blk t 87 [u,x,A,B,l,n,o,p,q]::Blk e 37 (aN x20 s f g k)::Blk j 48 bH::Fo) (K):=H
           refine ⟨⟨_,_,H,(aV mm6 (aV (t1 mm6) (bQ))),(bT)⟩,cO z<|?_⟩;obtain ⟨q238,m7,rfl⟩:=H.rowform (i:=1) z;obtain ⟨q240,m8,rfl⟩:=H.rowform (i:=2) z;refine ss 5 E H z cY z λw H=>nt<|⟨⟨_,_,H,(aV mm6 (aV (t1 mm6) (bQ))),(bT)⟩,dF z<|?_⟩
           obtain ⟨q242,j0,rfl⟩:=H.rowform (i:=3) z;obtain ⟨q244,j1,rfl⟩:=H.rowform (i:=4) z;refine ss 0 E H z cY z λw H=>nt<|fK<|?_;clear hI;exact aA<|have H:=H.drs [1,1,3];have H:=H.frs [2,2,2,5,5,5] z;⟨d7,(.slice q242 b.2.2.1.length j0),(.slice q244 b.2.2.2.length j1),b.2.2.1,b.2.2.2,_,E.sel [0,3,4,7,10] z,H,d,y,m⟩
          refine al2 E H z mX λd8 w a H E=>nt<|⟨sx H [2,3] z,cO z<|xc2 E z (cf_ 107) (pM (x1:=(⟨Q,R⟩:aK)) H (d _ F) (d _ G) y O)<|?_⟩
          rintro _ w ⟨j2,j3,j4,j5,rfl,H⟩ a E;refine nt<|?_
          replace H:Sep w (Row 107 aB j2 b.1::Row 89 aC j3 b.2.1::Row 107 aB j4 b.2.2.1::Row 89 aC j5 b.2.2.2::Blk d8 25 [nS,nS]::Blk d6 25 [nS,nS]::Blk t 87 [u,x,A,B,l,n,o,p,q]::Blk e 37 (aN x20 s f g k)::Blk j 48 bH::Fo) (K):=H
          refine ⟨⟨_,_,H,(aV mm6 (aV (t1 mm6) (bQ))),(bT)⟩,om E z λa E=>ox E z λa E=>ox E z λa E=>cO z<|?_⟩;obtain ⟨q253,m9,rfl⟩:=H.rowform (i:=0) z;obtain ⟨q255,n0,rfl⟩:=H.rowform (i:=1) z;refine ss 5 E H z cY z λw H=>nt<|⟨⟨_,_,H,(aV mm6 (aV (t1 mm6) (bQ))),(bT)⟩,dF z<|?_⟩
          obtain ⟨q257,j6,rfl⟩:=H.rowform (i:=2) z;obtain ⟨q259,j7,rfl⟩:=H.rowform (i:=3) z;refine ss 4 E H z cY z λw H=>nt<|fK<|?_;clear hI;exact aA<|have H:=H.drs [0,0,3];have H:=H.frs [1,1,2,5,5,5] z;⟨d8,(.slice q257 b.2.2.1.length j6),(.slice q259 b.2.2.2.length j7),b.2.2.1,b.2.2.2,_,E.sel [0,3,4,7,10] z,H,d,y,m⟩
         refine al2 E H z mX λT w a H E=>nt<|⟨sx H [1,2] z,rD z z ?_ ?_⟩
         ·refine xc2 E z (cf_ 107) (pM (x1:=(⟨Q,R⟩:aK)) H (d _ F) (d _ G) y O)<|?_;rintro _ w ⟨j8,j9,k0,k1,rfl,H⟩ a E;refine nt<|?_
          replace H:Sep w (Row 107 aB j8 b.1::Row 89 aC j9 b.2.1::Row 107 aB k0 b.2.2.1::Row 89 aC k1 b.2.2.2::Blk T 25 [nS,nS]::Blk t 87 [u,x,A,B,l,n,o,p,q]::Blk e 37 (aN x20 s f g k)::Blk j 48 bH::Fo) (K):=H
          refine ⟨sx H [5,6] z,om E z λa E=>ox E z λa E=>ox E z λa E=>cO z<|al2 E H z mX λn1 w a H E=>nt<|⟨⟨_,_,H,(aV mm6 (aV (t1 mm6) (bQ))),(bT)⟩,cO z<|?_⟩⟩;obtain ⟨q269,n2,rfl⟩:=H.rowform (i:=1) z;obtain ⟨q271,n3,rfl⟩:=H.rowform (i:=2) z;refine ss 0 E H z cY z λw H=>nt<|⟨⟨_,_,H,(aV mm6 (aV (t1 mm6) (bQ))),(bT)⟩,dF z<|?_⟩
          obtain ⟨q273,k2,rfl⟩:=H.rowform (i:=3) z;obtain ⟨q275,k3,rfl⟩:=H.rowform (i:=4) z;refine ss 5 E H z cY z λw H=>nt<|fK<|?_;clear hI;exact aA<|have H:=H.drs [0,0,0];have H:=H.frs [1,1,2,5,5,5] z;⟨T,(.slice q273 b.2.2.1.length k2),(.slice q275 b.2.2.2.length k3),b.2.2.1,b.2.2.2,_,E.sel [0,3,4,7,10] z,H,d,y,m⟩
         refine al2 E H z mX λk4 w a H E=>nt<|?_
         replace H:Sep w (Blk k4 25 [nS,nS]::Blk T 25 [nS,nS]::Blk t 87 [u,x,A,B,l,n,o,p,q]::Blk e 37 (aN x20 s f g k)::Blk j 48 bH::Fo) (K):=H
         refine ⟨sx H [2,3] z,cO z<|xc2 E z (cf_ 107) (pM (x1:=(⟨Q,R⟩:aK)) H (d _ F) (d _ G) y O)<|?_⟩;rintro _ w ⟨n4,n5,n6,n7,rfl,H⟩ a E;refine nt<|⟨⟨_,_,H,(aV mm6 (aV (t1 mm6) (bQ))),(bT)⟩,om E z λa E=>ox E z λa E=>ox E z λa E=>cO z<|?_⟩
         obtain ⟨q284,n8,rfl⟩:=H.rowform (i:=0) z;obtain ⟨q286,n9,rfl⟩:=H.rowform (i:=1) z;refine ss 4 E H z cY z λw H=>nt<|⟨⟨_,_,H,(aV mm6 (aV (t1 mm6) (bQ))),(bT)⟩,dF z<|?_⟩
         obtain ⟨q288,k5,rfl⟩:=H.rowform (i:=2) z;obtain ⟨q290,k6,rfl⟩:=H.rowform (i:=3) z;refine ss 5 E H z cY z λw H=>nt<|fK<|?_;clear hI;exact aA<|have H:=H.drs [0,0,2];have H:=H.frs [1,1,2,5,5,5] z;⟨T,(.slice q288 b.2.2.1.length k5),(.slice q290 b.2.2.2.length k6),b.2.2.1,b.2.2.2,_,E.sel [0,3,4,7,10] z,H,d,y,m⟩
        ·clear E H m;rintro a w ⟨X,Y,Z,M,N,S,E,H,b0,b1,m⟩;unfold tO at m;refine sp 1 E z λa E=>ln 1 [f,g] E H U25 z cY λa E=>pr 2 E z λa E=>lb2 E H 1 U9 z λa E=>bd m λc k7 m=>xc2 E z (cf_ 107) (pM H (b0 _ f9) (b0 _ g0) b1 k7)<|?_;rintro _ w ⟨o3,o4,l9,m1,rfl,H⟩ a E;refine pr 3 E z λa E=>al2 E H z mX λf5 w a H E=>al2 E H z mX λf6 w a H E=>?_;obtain ⟨q92,b3,rfl⟩:=H.rowform (i:=2) z;obtain ⟨q94,b4,rfl⟩:=H.rowform (i:=3) z;refine ss 1 E H z cY z λw H=>?_
         replace H:Sep w (Blk f6 25 [nS,nS]::Blk f5 25 [(.slice q92 c.1.length b3),(.slice q94 c.2.1.length b4)]::Row 107 aB (.slice q92 c.1.length b3) c.1::Row 89 aC (.slice q94 c.2.1.length b4) c.2.1::Row 107 aB l9 c.2.2.1::Row 89 aC m1 c.2.2.2::Blk t 87 [u,x,A,B,l,n,o,p,q]::Blk e 37 (aN x20 s f g k)::Blk j 48 bH::Blk X 25 [Y,Z]::Row 107 aB Y M::Row 89 aC Z N::Fo) _:=H
         obtain ⟨q96,f7,rfl⟩:=H.rowform (i:=4) z;obtain ⟨q98,f8,rfl⟩:=H.rowform (i:=5) z;refine ss 0 E H z cY z λw H=>xp 1 E z λa E=>lb2 E H 9 U22 z λa E=>pr 1 E z λa E=>lb2 E H 1 U22 z λa E=>bk m λe2 m=>eF (i:=10) E H (wn z) z z z z z z (Mc (i:=2) z) U22 Kk z e2 z λo0 w a H E=>pr 1 E z λa E=>?_;obtain ⟨q103,U,rfl⟩:=H.rowform (i:=10) z;refine ss 9 E H z Tg z λw H=>xp 1 E z λa E=>lb2 E H 9 U23 z λa E=>pr 1 E z λa E=>lb2 E H 1 U23 z λa E=>bk m λe3 m=>eF (i:=11) E H (wn z) z z z z z z (Mc (i:=3) z) U23 Vt z e3 z λo1 w a H E=>pr 1 E z λa E=>?_;obtain ⟨q108,V,rfl⟩:=H.rowform (i:=11) z;refine ss 9 E H z Hn z λw H=>xp 1 E z λa E=>lb2 E H 9 U22 z λa E=>bk m λe4 m=>xc2 E z (cf_ 111) (sort_c (ix:=10) H z e4)<|?_;rintro _ w ⟨rfl,H⟩ a E;refine xp 1 E z λa E=>lb2 E H 9 U23 z λa E=>bk m λe5 m=>xc2 E z (cf_ 114) (Tn.sort_c (ix:=11) H z e5)<|?_;rintro _ w ⟨rfl,H⟩ a E
         replace H:Sep w (Blk f6 25 [(.slice q96 c.2.2.1.length f7),(.slice q98 c.2.2.2.length f8)]::Blk f5 25 [(.slice q92 c.1.length b3),(.slice q94 c.2.1.length b4)]::Row 107 aB (.slice q92 c.1.length b3) c.1::Row 89 aC (.slice q94 c.2.1.length b4) c.2.1::Row 107 aB (.slice q96 c.2.2.1.length f7) c.2.2.1::Row 89 aC (.slice q98 c.2.2.2.length f8) c.2.2.2::Blk t 87 [u,x,A,B,l,n,o,p,q]::Blk e 37 (aN x20 s f g k)::Blk j 48 bH::Blk X 25 [(.slice q103 (M ++ c.1).length U),(.slice q108 (N ++ c.2.1).length V)]::Row 107 aB (.slice q103 (M ++ c.1).length U) (srtN (M ++ c.1))::Row 89 aC (.slice q108 (N ++ c.2.1).length V) (Tn.srtN (N ++ c.2.1))::Fo) (S):=H
         refine xp 2 E z λa E=>ln 9 [(.slice q103 (M ++ c.1).length U),(.slice q108 (N ++ c.2.1).length V)] E H U25 z cY λa E=>pr 3 E z λa E=>ss 6 E H z cY z λw H=>pr 2 E z λa E=>?_;obtain ⟨q114,k8,rfl⟩:=H.slform b1;refine ss 6 E H z HP z λw H=>nx<|sv2 E z (cN E z (E.evs z) (v:=.agg bH.toArray) (by kernel_rfl)) λa E=>ss 8 E H z bR z λw H=>nt<|wR<|Hg E z (qI (i:=8) (us:=bH) H z z z U48 z bR)<|have H:=H.nilSl aX;have H:=H.nilSl aB;have H:=H.nilSl aC;have H:=H.nilSl aQ;have H:=H.nilSl bB;have H:=H.nilSl (kI .i64);have H:=H.thaw (i:=10) z;have H:=H.thaw (i:=10) z;have H:=H.drs [0,0,0,0,0,0,1,1,1];?_;cases m;exact ⟨(nS),(nS),(nS),(nS),(nS),(nS),(.slice q103 (M ++ c.1).length U),(.slice q108 (N ++ c.2.1).length V),(.slice q114 J.length k8),z,H.reads (aD (t1 mm6) (aD mm6 (aD mm5 (aD mm4 (aD mm3 (aD mm2 (aD mm1 (aD m0 (aD (t8 b1) (λr hr=>(t8 (b0 r hr))))))))))))⟩

def lW(c:List aP)(d:List aE)(x20:aY)(e:List bP)(b:Int):Option Mn:=
  if (b != 0)=true then ((dK b).bind λf=>some (f,c,d)) else (some ((⟨0,0,false,0,[],(⟨[],[]⟩:aK),e,[],[]⟩:aW),x20.Watches,x20.Sessions))
theorem D4{C:Nat}{i j c d k l n o p q s t:VL}{u:List aP}{x:List aE}{x20:aY}{b:List bP}{y:Int}(H:Sep w (Blk C 87 [l,n,o,p,i,j,q,s,t]::Fo) rs)(D:rSl aR i u ∈ rs)(F:rSl aJ j x ∈ rs)(e:rSl aR c x20.Watches ∈ rs)(f:rSl aJ d x20.Sessions ∈ rs)(g:rSl aQ k b ∈ rs){r:aW×eZ×dY}(m:lW u x x20 b y=some r) :
    Cf 118 [pt C 0,.agg #[c,d],k,.int .i64 y] w λv w'=>∃ I J K L M N O A,.agg (aS r.1 I J K L M N).toArray=v/\Sep w' (Blk C 87 [l,n,o,p,O,A,q,s,t]::Fo) (rSl aX I r.1.Results::rSl aB J r.1.Store.Nodes::rSl aC K r.1.Store.Turns::rSl aQ L r.1.Events::rSl bB M r.1.Mounts::rSl (kI .i64) N r.1.Wounded::rSl aR O r.2.1::rSl aJ A r.2.2::rs):=by
 unfold lW at m;refine ent func118 z ntmps118 z z λa E=>sq<|bx E H z λW w a H E=>al2 E H z lB λX w a H E=>nt<|wS<|sq<|pn 2 E z λa E=>wif E m z (λm=>?_) λm=>?_
 ·refine sp 1 E z λa E=>bd m λP G m=>xc2 E z (cf_ 53) (eW H G)<|?_;rintro _ w ⟨Q,R,S,T,U,V,rfl,H⟩ a E;refine ss 0 E H z bR (aZ H m0 mm1 mm2 mm3 mm4 mm5) λw H=>nt<|wR<|aH<|oB 0 (aS P Q R S T U V) E H U48 z bR<|have H:=H.drs [0,0];?_;cases m;exact X8 ⟨z,H.rdx [0,1,2,3,4,5] z (aD (t6 D) (aD (t6 F) (λr hr=>(t6 hr))))⟩
 ·refine wK<|aA<|sp 1 E z λa E=>ln 1 [c,d] E H U73 z gT λa E=>pr 2 E z λa E=>ss 2 E H z gT (kM H e f) λw H=>xp 1 E z λa E=>?_;obtain ⟨q48,B,rfl⟩:=H.slform g;refine sv2 E z (cN E z (E.evs z) (v:=.agg #[.int .i64 0,.int .i64 0,.bool false,.int .i64 0,nS,nS,nS,(.slice q48 b.length B),nS,nS]) (by kernel_rfl)) λa E=>ss 0 E H z bR z λw H=>nt<|wR<|oB 0 [.int .i64 0,.int .i64 0,.bool false,.int .i64 0,nS,nS,nS,(.slice q48 b.length B),nS,nS] E H U48 z bR<|have H:=H.nilSl aX;have H:=H.nilSl aB;have H:=H.nilSl aC;have H:=H.nilSl bB;have H:=H.nilSl (kI .i64);have H:=H.drs [0,0];?_;cases m;exact X8 ⟨z,H.rdx [4,3,2] z (aD (t5 g) (aD mm1 (aD m0 (aD (t5 e) (aD (t5 f) (λr hr=>(t5 hr)))))))⟩

def cF(c:List aE)(x3:Int):Nat->Int->Int->Option zT
  | 0,_,_=>none
  | e+1,b,d=>
    if (decide (b < d))=true then ((idx c (IntKind.i64.wrap (uB .u64 (IntKind.u64.wrap (IntKind.i64.wrap (b+d))) 1))).bind λj=>(rV j x3).bind λf=>if (decide (f < 0))=true then (cF c x3 e (IntKind.i64.wrap ((IntKind.i64.wrap (uB .u64 (IntKind.u64.wrap (IntKind.i64.wrap (b+d))) 1))+1)) d) else (cF c x3 e b (IntKind.i64.wrap (uB .u64 (IntKind.u64.wrap (IntKind.i64.wrap (b+d))) 1)))) else (if (decide (b < (c.length:Int)))=true then ((idx c b).bind λg=>(rV g x3).bind λi=>some (b,i == 0)) else (some (b,false)))
def dB(b:List aE)(x3:Int):Option zT:=
  cF b x3 (((b.length:Int) - 0:Int).toNat+1) 0 (b.length:Int)
theorem mB{i:VL}{f:List aE}{x3:Int}(H:Sep w (Fo) rs)(g:rSl aJ i f ∈ rs){r:Int×Bool}(m:dB f x3=some r) :
    Cf 195 [i,.int .i64 x3,.func (.func 196) #[] #[]] w λv w'=>.tuple #[.int .i64 r.1,.bool r.2]=v/\Sep w' (Fo) (rs):=by
 unfold dB at m;refine ent func195 z ntmps195 z z λa E=>sp 2 E z λa E=>xp 1 E z λa E=>lS E H g U71 z λa E=>pr 1 E z λa E=>xp 3 E z λa E=>nt<|wS<|wB<|bF (λe a w=>∃ j k,Jn 49 a w [(0,i),(1,.int .i64 x3),(2,.func (.func 196) #[] #[]),(8,.int .i64 (f.length:Int)),(9,.int .i64 j),(10,.int .i64 k)] (Fo) rs (cF f x3 e j k=some r)) (((f.length:Int) - 0:Int).toNat+1) ?_ ?_
 ·exact X3 ⟨E.to z,H,Y0,m⟩
 ·clear E H m;rintro e a w ⟨j,k,q,E,H,c,m⟩;cases e with
  | zero=>exact (bD m z).elim
  | succ e=>
   unfold cF at m;refine wS<|sq<|pn 3 E z λa E=>wif E m z (λm=>?_) λm=>?_
   ·refine wK<|aA<|wB<|sp 4 E z λa E=>sv2 E z (He E z z z (by decide)) λa E=>pr 2 E z λa E=>xp 3 E z λa E=>bd m λC l m=>dC E H (wn z) z z z z z (c _ g) U71 B3 l λq11 a H E=>Dd E H (wn z) z z z z m0 Tf z B3 λs a H E=>?_;obtain ⟨t,rfl,h⟩:=Cc H;clear H;have H:=h;refine pr 1 E z λa E=>bd m λu n m=>bI E (wn z) z z (bO E z z z ((cf_ 196) _)) (Ct H n)<|?_;rintro _ w ⟨rfl,H⟩ a E;refine pn 1 E z λa E=>wif E m z (λm=>?_) λm=>?_
    ·exact wG<|pr 3 E z λa E=>wN<|bM<|aA<|⟨e,nL e,X3 ⟨E.to z,H,(Y3 c),m⟩⟩
    exact wG<|pr 2 E z λa E=>wN<|bM<|aA<|⟨e,nL e,X3 ⟨E.to z,H,(Y3 c),m⟩⟩
   ·refine wX<|aT<|aT<|cL<|aA<|sp 5 E z λa E=>cs m (λb m=>?_) λb m=>?_
    ·refine pk 3 E (kc 39 z b) z λa E=>bd m λx o m=>dC E H (ws' (d:=39) E z z z z b) z z z z z (c _ g) U71 B3 o λq19 a H E=>Dd E H (ws' (d:=39) E z z z z b) z z z z m0 Tf z B3 λy a H E=>?_;obtain ⟨A,rfl,h⟩:=Cc H;clear H;have H:=h;refine pk 1 E (kc 39 z b) z λa E=>bd m λB p m=>bI E (ws' (d:=39) E z z z z b) z z (bO E z z z ((cf_ 196) _)) (Ct H p)<|?_;rintro _ w ⟨rfl,H⟩ a E;refine pk 4 E (kc 39 z b) z λa E=>nt<|wR<|hX E z z z<|?_;cases m;exact ⟨z,H.reads (Y3 c)⟩
    ·refine pk 11 E (kc 39 z b) z λa E=>nt<|wR<|hX E z z z<|?_;cases m;exact ⟨z,H.reads c⟩

def vF(x1:bP)(x3:Int):Option Bool:=
  some (decide (x1.Num <= x3))
theorem Gs{x1:bP}{b:Nat}{x3:Int}(H:Sep w (Blk b 2 [.int .i64 x3]::Fo) rs){r:Bool}(m:vF x1 x3=some r) :
    Cf 200 [.agg (Fa x1).toArray,pt b 0] w λv w'=>.bool r=v/\Sep w' (Blk b 2 [.int .i64 x3]::Fo) (rs):=by
 unfold vF at m;refine ent func200 z ntmps200 z z λa E=>sq<|bx E H z λc w a H E=>pr 1 E z λa E=>xp 1 E z λa E=>lb2 E H 0 U2 z λa E=>lb2 E H 1 U2 z λa E=>pr 2 E z λa E=>nt<|wR<|o1 E z<|have H:=H.drop 0;?_;cases m;exact ⟨z,H.reads Y0⟩

def eO(c:List bP)(d:Int):Nat->Int->Option Int
  | 0,_=>none
  | f+1,b=>
    if (decide (b < (c.length:Int)))=true then ((idx c b).bind λg=>(vF g d).bind λe=>if e=true then (some (b)) else (eO c d f (IntKind.i64.wrap (b+1)))) else (some ((-1)))
def jL(b:List bP)(c:Int):Option Int:=
  eO b c (((b.length:Int) - 0:Int).toNat+1) 0
theorem K8{e:VL}{b:List bP}{f:Nat}{g:Int}(H:Sep w (Row 131 aQ e b::Blk f 2 [.int .i64 g]::Fo) rs){r:Int}(m:jL b g=some r) :
    Cf 273 [e,.func (.func 200) #[] #[pt f 0]] w λv w'=>.int .i64 r=v/\Sep w' (Blk f 2 [.int .i64 g]::Row 131 aQ e b::Fo) (rs):=by
 unfold jL at m;refine ent func273 z ntmps273 z z λa E=>sq<|pn 1 E z λa E=>wS<|sp 1 E z λa E=>sv2 E z (lQ (i:=0) E H z z z U44) λa E=>pr 1 E z λa E=>nt<|wB<|bF (λc a w=>∃ o,Jn 19 a w [(0,e),(1,.func (.func 200) #[] #[pt f 0]),(7,.int .i64 (b.length:Int)),(8,.int .i64 o)] (Row 131 aQ e b::Blk f 2 [.int .i64 g]::Fo) rs (eO b g c o=some r)) (((b.length:Int) - 0:Int).toNat+1) ?_ ?_
 ·exact ⟨_,_,E.to z,H,Y0,m⟩
 ·clear E H m;rintro c a w ⟨o,q,E,H,j,m⟩;cases c with
  | zero=>exact (bD m z).elim
  | succ c=>
   unfold eO at m;refine sq<|pn 1 E z λa E=>wS<|wif E m z (λm=>?_) λm=>?_
   ·refine wK<|aA<|wS<|wB<|sp 2 E z λa E=>xp 3 E z λa E=>bd m λn k m=>?_;obtain ⟨s,t,l⟩:=H.rowformNE (i:=0) z k;refine sv2 E z (dP (d:=aQ) E l z z z z U44 xA k) λa E=>sv2 E z (kJ (i:=0) E H uZ l z z z k (us:=[.int .i64 n.Num,.int .i64 n.Kind,.string n.Path,.int .i64 n.Watch]) z Hm z xA) λa E=>have H:=H.frs [0,1] z;bd m λu p m=>bI E (wn z) z z (bO E z z z ((cf_ 200) _)) (Gs H p)<|?_;rintro _ w ⟨rfl,H⟩ a E;refine nt<|wif E m z (λm=>?_) λm=>?_
    ·refine sq<|pn 2 E z λa E=>wR<|bJ<|aH<|aH<|bJ<|aH<|o1 E z<|?_;cases m;exact ⟨z,H.reads j⟩
    exact wK<|bM<|aA<|wG<|pn 2 E z λa E=>have H:=H.frs [0,1] z;⟨c,nL c,_,_,E.to z,H,j,m⟩
   ·refine wX<|aT<|aT<|cL<|aA<|sq<|pn 1 E z λa E=>wR<|o1 E z<|have H:=H.frs [0,1] z;?_;cases m;exact ⟨z,H.reads j⟩

def fN(rec_1:B4->Int->Int->Option B4)(d:Int)(b:B4)(c:Int):Option B4:=
  rec_1 b c (IntKind.i64.wrap (d+1))
def dD(f:Int):Nat->B4->Int->Int->Option B4
  | 0,_,_,_=>none
  | g+1,c,b,d=>
    if (decide (d < (c.length:Int)))=true then ((idx c d).bind λe=>(vF e f).bind λi=>if (!i)=true then ((idx c b).bind λj=>fN (dD f g) d (c.set b.toNat e) (IntKind.i64.wrap (b+1))) else (fN (dD f g) d c b)) else ((ck (0 <= b/\b <= c.length)).bind λk=>(ck (0 <= b/\b <= (c.take b.toNat ++ List.replicate (c.length - b.toNat) (⟨0,0,⟨#[]⟩,0⟩:bP)).length)).bind λl=>some ((c.take b.toNat ++ List.replicate (c.length - b.toNat) (⟨0,0,⟨#[]⟩,0⟩:bP)).take b.toNat))
def gH(b:List bP)(d:Int):Option B4:=
  (jL b d).bind λc=>if (c == (-1))=true then (some (b)) else (dD d (((b.length:Int) - (IntKind.i64.wrap (c+1)):Int).toNat+1) b c (IntKind.i64.wrap (c+1)))
theorem J1{l:VL}{u:List bP}{c:Nat}{e:Int}(H:Sep w (Row 131 aQ l u::Blk c 2 [.int .i64 e]::Fo) rs){r:B4}(m:gH u e=some r) :
    Cf 199 [l,.func (.func 200) #[] #[pt c 0]] w λv w'=>∃ D,D=v/\Sep w' (Row 131 aQ D r::Blk c 2 [.int .i64 e]::Fo) (rs):=by
 unfold gH at m;refine ent func199 z ntmps199 z z λa E=>sp 1 E z λa E=>xp 2 E z λa E=>bd m λG F m=>xk2 E z (cf_ 273) (K8 H F) λw H a E=>pn 1 E z λa E=>wS<|sq<|pn 2 E z λa E=>wif E m z (λm=>?_) λm=>?_
 ·refine sq<|pn 2 E z λa E=>wR<|aH<|o1 E z<|have H:=H.frs [0,1] z;?_;cases m;exact ⟨_,z,H.reads Y0⟩
 ·refine wK<|aA<|wS<|sq<|pn 3 E z λa E=>wB<|bF (λf a w=>∃ x y n,Jn 42 a w [(0,l),(1,.func (.func 200) #[] #[pt c 0]),(5,.int .i64 y),(6,.int .i64 n)] (Row 131 aQ l x::Blk c 2 [.int .i64 e]::Fo) rs (dD e f x y n=some r)) (((u.length:Int) - (IntKind.i64.wrap (G+1)):Int).toNat+1) ?_ ?_
  ·exact have H:=H.frs [0,1] z;X4 ⟨E.to z,H,Y0,m⟩
  ·clear E H m;rintro f a w ⟨x,y,n,I,E,H,g,m⟩;cases f with
   | zero=>exact (bD m z).elim
   | succ f=>
    unfold dD at m;refine wS<|sp 2 E z λa E=>sv2 E z (lQ (i:=0) E H z z z U44) λa E=>pn 1 E z λa E=>wif E m z (λm=>?_) λm=>?_
    ·refine wK<|aA<|aL (λa w=>∃ o p,Jn 42 a w [(0,l),(1,.func (.func 200) #[] #[pt c 0]),(5,.int .i64 p),(6,.int .i64 n)] (Row 131 aQ l o::Blk c 2 [.int .i64 e]::Fo) rs (fN (dD e f) n o p=some r)) ?_ ?_
     ·refine wB<|sp 2 E z λa E=>bd m λb j m=>?_;obtain ⟨K,L,q⟩:=H.rowformNE (i:=0) z j;refine sv2 E z (dP (d:=aQ) E q z z z z U44 xA j) λa E=>sv2 E z (kJ (i:=0) E H uZ q z z z j (us:=[.int .i64 b.Num,.int .i64 b.Kind,.string b.Path,.int .i64 b.Watch]) z Hm z xA) λa E=>al2 E H z CH λM w a H E=>ss 0 E H z xA z λw H=>xp 1 E z λa E=>ln 0 (Fa b) E H Hm z xA λa E=>have H:=H.frs [1,1,2] z;bd m λN A m=>bI E (wn z) z z (bO E z z z ((cf_ 200) _)) (Gs H A)<|?_;rintro _ w ⟨rfl,H⟩ a E;refine pn 1 E z λa E=>wif E m z (λm=>?_) λm=>?_
      ·refine sp 2 E z λa E=>ln 1 (Fa b) E H Hm z xA λa E=>bd m λO k m=>?_;obtain ⟨P,Q,s⟩:=H.rowformNE (i:=2) z k;exact sv2 E z (dP (d:=aQ) E s z z z z U44 xA k) λa E=>W8 (d:=aQ) (i:=2) (us:=[.int .i64 b.Num,.int .i64 b.Kind,.string b.Path,.int .i64 b.Watch]) (z':=b) E H uZ (wn z) z s z z z z z z z k xA λw H=>nt<|wG<|pr 3 E z λa E=>wN<|bM<|aA<|have H:=H.drop 1;have H:=H.frs [0,1] z;X3 ⟨E.to z,H,g,m⟩
      exact wK<|bM<|aA<|have H:=H.drop 1;have H:=H.frs [0,1] z;X3 ⟨E.to z,H,g,m⟩
     clear E H m;rintro a w ⟨o,p,J,E,H,B,m⟩;unfold fN at m;exact wG<|pn 3 E z λa E=>⟨f,nL f,X4 ⟨E.to z,H,B,m⟩⟩
    ·refine wX<|aT<|aT<|cL<|aA<|sp 2 E z λa E=>bk m λt m=>sv2 E z (Hj (d:=aQ) (i:=0) E H z z z z U44 xA t) λa E=>Ba (i:=0) (z0:=(⟨0,0,⟨#[]⟩,0⟩:bP)) E H uZ (wn z) z z z U44 PO z z z t λw H=>xp 2 E z λa E=>bk m λC m=>Ec (i:=0) E H uZ (wn z) z z z z z z U44 xA C λR a H E=>pn 1 E z λa E=>wR<|o1 E z<|?_;cases m;exact ⟨_,z,H.reads g⟩

def D5(x1:aY)(f:Int)(g:Int):Option (aY×B4×Int):=
  (uA x1).bind λd=>if (!d)=true then (some ((⟨[],[]⟩:aY),[],1)) else ((dB x1.Sessions f).bind λb=>if (!b.2)=true then (some (x1,[],62)) else ((ck (x1.Sessions.length <= LIM)).bind λi=>(idx x1.Sessions b.1).bind λx20=>(ck (x20.Events.length <= LIM)).bind λj=>(gH x20.Events g).bind λc=>(idx x1.Sessions b.1).bind λe=>(ck (c.length <= LIM)).bind λk=>some ((⟨x1.Watches,x1.Sessions.set b.1.toNat ({ e with Events:=c }:aE)⟩:aY),c,0)))
theorem Xw{x1:aY}{g j:VL}{D F:Int}(H:Sep w (Fo) rs)(b:rSl aR g x1.Watches ∈ rs)(c:rSl aJ j x1.Sessions ∈ rs){r:aY×B4×Int}(m:D5 x1 D F=some r) :
    Cf 120 [.agg #[g,j],.int .i64 D,.int .i64 F] w λv w'=>∃ G I J,.tuple #[.agg #[G,I],J,.int .i64 r.2.2]=v/\Sep w' (Row 131 aQ J r.2.1::Fo) (rSl aR G r.1.Watches::rSl aJ I r.1.Sessions::rs):=by
 unfold D5 at m;refine ent func120 z ntmps120 z z λa E=>sq<|bx E H z λY w a H E=>bx E H z λZ w a H E=>al2 E H z Hl λM w a H E=>pn 2 E z λa E=>wS<|sq<|ln 2 [g,j] E H U73 z gT λa E=>bd m λN t m=>xk2 E z (cf_ 192) (S7 H b c t) λw H a E=>pn 1 E z λa E=>wif E m z (λm=>?_) λm=>?_
 ·refine sq<|sv2 E z (cN E z (E.evs z) (v:=.agg #[nS,nS]) (by kernel_rfl)) λa E=>ss 0 E H z gT z λw H=>pn 2 E z λa E=>wR<|aH<|BR E z (qI (i:=0) (us:=[nS,nS]) H z z z U73 z gT) (rvT z) (rvT z)<|have H:=H.nilSl aR;have H:=H.nilSl aJ;have H:=H.nilRow 131 aQ;have H:=H.drs [1,1,1];?_;cases m;exact X3 ⟨z,H.rdx [1,0] z (λr hr=>(t2 hr))⟩
 ·refine wK<|aA<|sp 1 E z λa E=>lb2 E H 2 U71 z λa E=>pr 1 E z λa E=>bd m λO u m=>xk2 E z (cf_ 195) (mB H c u) λw H a E=>pr 5 E z λa E=>nt<|wS<|sq<|pn 2 E z λa E=>wif E m z (λm=>?_) λm=>?_
  ·refine sq<|ln 2 [g,j] E H U73 z gT λa E=>ss 0 E H z gT (kM H b c) λw H=>pn 2 E z λa E=>wR<|aH<|BR E z (qI (i:=0) (us:=[g,j]) H z z z U73 z gT) (rvT z) (rvT z)<|have H:=H.nilRow 131 aQ;have H:=H.drs [1,1,1];?_;cases m;exact X3 ⟨z,H.reads (aD b (aD c (λr hr=>hr)))⟩
  ·refine wK<|aA<|sp 1 E z λa E=>lb2 E H 2 U71 z λa E=>bk m λy m=>xc2 E z (cf_ 75) (gX H c y) λP w H a E=>pr 1 E z λa E=>?_;obtain ⟨q18,p,rfl⟩:=H.rowform (i:=0) z;refine ss 3 E H z Xn z λw H=>xp 1 E z λa E=>lb2 E H 3 U71 z λa E=>pr 1 E z λa E=>bd m λx20 e m=>?_;obtain ⟨Q,R,l⟩:=H.rowformNE (i:=0) z e;refine sv2 E z (dP (d:=aJ) E l z z z z U71 B3 e) λa E=>pr 1 E z λa E=>V8 (i:=0) (k:=2) E H l (wn z) z z z z z e z U44 z λS a H E=>?_;obtain ⟨_,hcs⟩:=H.rd (.head _);obtain ⟨q,rfl,-⟩:=eA hcs;clear hcs;refine have H:=H.derive1 m0 (rSl aQ q x20.Events) (λok h=>kK h);?_
   replace E:Env 48 a ((35,q)::_):=E
   refine bk m λA m=>xc2 E z (cf_ 76) (gE H m0 A) λT w H a E=>sv2 E z (nR E z z z) λa E=>have H:=H.frs [4,3,3,4,4] z;bd m λn B m=>xc2 E z (cf_ 199) (J1 H B)<|?_;rintro _ w ⟨U,rfl,H⟩ a E;refine pr 1 E z λa E=>xp 1 E z λa E=>lb2 E H 4 U71 z λa E=>pr 2 E z λa E=>bd m λs f m=>?_;obtain ⟨V,W,o⟩:=H.rowformNE (i:=2) z f;refine sv2 E z (dP (d:=aJ) E o z z z z U71 B3 f) λa E=>pr 1 E z λa E=>?_;obtain ⟨q38,K,rfl⟩:=H.rowform (i:=0) z;refine have H:=H.thaw (i:=0) z;W9 (i:=1) (k:=2) (us:=[(.slice q38 n.length K)]) (y':=({ s with Events:=n }:aE)) E H o (wn z) z z z z z z f z CI z (λok cs hr h=>by obtain ⟨b0,rfl,g1⟩:=eA h;exact oT (x:=({ s with Events:=n }:aE)) (hr _ m0)) λw H=>nt<|wS<|dz [0,0,1,1,2,2] [3] H λw W0 hI H=>fbn E [g,(.slice q18 x1.Sessions.length p)] z (wn z) z z z z m0 z U73 z gT λa E=>fn 1 E z λa E=>bW z<|bk m λC m=>xc2 E z (cf_ 76) (gE H m0 C) λX w H a E=>nt<|⟨sx H [4] z,bW z<|?_⟩
   obtain ⟨q43,L,rfl⟩:=H.slform (t3 b);refine ss 3 E H z gT z λw H=>nt<|⟨sx H [4] z,bK z<|pn 1 E z λa E=>bK z<|pn 1 E z λa E=>bG<|?_⟩
   clear hI;refine aA<|wR<|BR E z (qI (i:=3) (us:=[(.slice q43 x1.Watches.length L),(.slice q18 x1.Sessions.length p)]) H z z z U73 z gT) (rvT z) (rvT z)<|have H:=H.thaw (i:=2) z;have H:=H.drs [1,1,1];?_;cases m;exact X3 ⟨z,H.reads (aD (t4 b) (aD m0 (λr hr=>(t4 hr))))⟩

def wO(d:List aP)(e:List aE)(x20:aI):Option Mn:=
  (D5 (⟨d,e⟩:aY) x20.Watch.Session x20.Epoch).bind λb=>(lW d e b.1 b.2.1 b.2.2).bind λc=>some (c.1,c.2.1,c.2.2)
theorem Lb{t:Nat}{b c y A B C j k l n o p q:VL}{d:List aP}{e:List aE}{x20:aI}(H:Sep w (Blk t 87 [j,k,l,n,b,c,o,p,q]::Fo) rs)(f:rSl aR b d ∈ rs)(g:rSl aJ c e ∈ rs){r:aW×eZ×dY}(m:wO d e x20=some r) :
    Cf 51 [pt t 0,.agg (aN x20 y A B C).toArray] w λv w'=>∃ D F G I J K L s,.agg (aS r.1 D F G I J K).toArray=v/\Sep w' (Blk t 87 [j,k,l,n,L,s,o,p,q]::Fo) (rSl aX D r.1.Results::rSl aB F r.1.Store.Nodes::rSl aC G r.1.Store.Turns::rSl aQ I r.1.Events::rSl bB J r.1.Mounts::rSl (kI .i64) K r.1.Wounded::rSl aR L r.2.1::rSl aJ s r.2.2::rs):=by
 unfold wO at m;refine ent func51 z ntmps51 z z λa E=>sq<|bx E H z λT w a H E=>al2 E H z lB λU w a H E=>nt<|wS<|dwc [(0,0),(1,0),(2,0),(3,0),(5,0),(6,0),(8,0),(4,0),(7,0),(9,1),(10,1),(11,0),(12,0),(13,0),(14,2),(15,2)] [1,2] [] H (by kernel_rfl) (λ_ _ _ h=>False.elim h.2) λw W0 hI H=>fn 7 E z λa E=>fbn E [b,c] z (wn z) z z z z mm1 z U73 z gT λa E=>fb2 E m0 U2 z λa E=>bW z<|lb2 E H 1 U2 z λa E=>nt<|⟨sx H [1,2] z,bW z<|bd m λV u m=>xc2 E z (cf_ 120) (Xw (x1:=(⟨d,e⟩:aY)) H f g u)<|?_⟩
 rintro _ w ⟨W,X,Y,rfl,H⟩ a E;refine nt<|⟨sx H [2,3] z,fn 3 E z λa E=>bK z<|have H:=H.thaw (i:=0) z;have H:=H.frs [1,1,2] z;bd m λM x m=>xc2 E z (cf_ 118) (D4 H (t3 f) (t3 g) mm1 mm2 m0 x)<|?_⟩
 rintro _ w ⟨N,O,P,Q,R,S,Z,b0,rfl,H⟩ a E;refine nt<|bK z<|ss 1 E H z bR (aZ H m0 mm1 mm2 mm3 mm4 mm5) λw H=>nt<|bG<|?_;clear hI;refine aA<|wR<|oB 1 (aS M.1 N O P Q R S) E H U48 z bR<|have H:=H.drs [1,1];?_;cases m;exact X8 ⟨z,H.rdx [0,1,2,3,4,5,6] z (aD (t1 mm6) (λr hr=>(t3 (t8 hr))))⟩

def oJ(b:aW×eZ×dY)(c:kO):Option U1:=
  some (b.1,b.2.1,b.2.2,c)
def lX(b:aW×eZ×dY)(c:List lN)(x20:aI)(e:Bool):Option U1:=
  if e=true then ((mpt (kyI .i64) c x20.Id b.1).bind λd=>oJ b d) else (oJ b c)
def sP(c:List lN)(x20:aI)(d:List aP)(e:List aE)(f:Bool):Option U1:=
  if f=true then ((dK 2).bind λg=>some (g,d,e,c)) else ((wO d e x20).bind λb=>if (x20.Id != 0)=true then (if (b.1.Err != 131)=true then (lX b c x20 (b.1.Err != 132)) else (lX b c x20 false)) else (lX b c x20 false))
def xF(b:List lN)(x20:aI)(c:List aP)(d:List aE)(e:Bool)(f:Int)(g:Int)(i:Bool)(j:Int)(k:Z4)(l:dL)(m:dO)(n:B4)(o:Mm)(p:(List Int)):Option U1:=
  if e=true then (some ((⟨f,g,i,j,k,(⟨l,m⟩:aK),n,o,p⟩:aW),c,d,b)) else (if (x20.Id != 0)=true then (sP b x20 c d ((b.length:Int) == 512)) else (sP b x20 c d false))
def sQ(d:List aP)(e:List aE)(c:List lN)(x20:aI):Option U1:=
  (Q5 (kyI .i64) c x20.Id vW).bind λb=>xF c x20 d e b.2 b.1.Err b.1.At b.1.Yes b.1.Epoch b.1.Results b.1.Store.Nodes b.1.Store.Turns b.1.Events b.1.Mounts b.1.Wounded
theorem Lc{o e:Nat}{P Q J L M N p q s t u x:VL}{c0:List aP}{c1:List aE}{y:List lN}{x20:aI}(H:Sep w (Blk o 87 [p,q,s,t,P,Q,.map (some e),u,x]::bX Tryz.prog 2 (kyI .i64) bC true e y::Fo) rs)(b8:rSl aR P c0 ∈ rs)(b9:rSl aJ Q c1 ∈ rs){r:aW×eZ×dY×kO}(m:sQ c0 c1 y x20=some r) :
    Cf 54 [pt o 0,.agg (aN x20 J L M N).toArray,.func (.func 51) #[] #[]] w λv w'=>∃ f9 g0 g1 g2 g3 g4 g5 f3,.agg (aS r.1 f9 g0 g1 g2 g3 g4).toArray=v/\Sep w' (Blk o 87 [p,q,s,t,g5,f3,.map (some e),u,x]::bX Tryz.prog 2 (kyI .i64) bC true e r.2.2.2::Fo) (rSl aX f9 r.1.Results::rSl aB g0 r.1.Store.Nodes::rSl aC g1 r.1.Store.Turns::rSl aQ g2 r.1.Events::rSl bB g3 r.1.Mounts::rSl (kI .i64) g4 r.1.Wounded::rSl aR g5 r.2.1::rSl aJ f3 r.2.2.1::rs):=by
 unfold sQ at m;refine ent func54 z ntmps54 z z λa E=>sq<|bx E H z λk w a H E=>al2 E H z lB λA w a H E=>nt<|wS<|aL (λa w=>∃ c9 Y Z b0 b1 b2 b3 d0 b4 b5 b6 b7 d1 d2 d3 d4 d5 d6 f,Env 59 a [(0,pt o 0),(2,.func (.func 51) #[] #[]),(4,pt k 0),(6,pt A 0),(7,pt c9 0),(8,.bool d0)]/\Sep w (Blk o 87 [p,q,s,t,P,Q,.map (some e),u,x]::Blk k 37 (aN x20 J L M N)::Blk A 48 bH::Blk c9 48 [.int .i64 b4,.int .i64 b5,.bool b6,.int .i64 b7,Y,Z,b0,b1,b2,b3]::bX Tryz.prog 2 (kyI .i64) bC true e y::Fo) f/\(∀ r,r ∈ rs->r ∈ f)/\rSl aX Y d1 ∈ f/\rSl aB Z d2 ∈ f/\rSl aC b0 d3 ∈ f/\rSl aQ b1 d4 ∈ f/\rSl bB b2 d5 ∈ f/\rSl (kI .i64) b3 d6 ∈ f/\xF y x20 c0 c1 d0 b4 b5 b6 b7 d1 d2 d3 d4 d5 d6=some r) ?_ ?_
 ·refine bd m λi3 c2 m=>?_;have hI:dN [Blk k 37 (aN x20 J L M N),Blk o 87 [p,q,s,t,P,Q,.map (some e),u,x]] [] { w with drawn:=w.drawn+1 }:=⟨_,_,H.kept (Kp.drawn _ w _),(aV mm1 (aV mm2 (bQ))),(bT)⟩
  refine qJ _ (.go 0 0 (.go 1 0 (.go 2 0 (.go 3 0 (.go 4 0 (.go 5 0 (.alt 6 (.go 7 0 (.go 8 0 (.go 9 0 (.go 10 1 (.go 11 1 (.go 12 2 .nil)))))) 10 (.go 6 1 (.go 7 0 (.go 8 0 (.go 9 0 (.go 11 1 (.go 12 2 .nil))))))))))))) [12] qS (by kernel_rfl) (λ_ _ _ h=>False.elim h.2) hI<|have H:=H.kept (Kp.drawn _ w (w.drawn+1));?_;generalize ({ w with drawn:=w.drawn+1 }:WD)=w at H hI ⊢
  replace hI:∃ W,dN [Blk k 37 (aN x20 J L M N),Blk o 87 [p,q,s,t,P,Q,.map (some e),u,x]] [] W:=⟨_,hI⟩
  obtain ⟨W0,hI⟩:=hI;refine om E z λa E=>ov E z (λw hW=>(F2 E z z)) λa E=>ov E z (λw hW=>oR E z z (v:=pt o 6) (Kj _ _)) λa E=>ol E mm1 U84 z λa E=>ov E z (λw hW=>oR E z z (v:=pt k 1) (Ki _ _)) λa E=>ol E m0 U2 z λa E=>rD z z ?_ ?_
  ·refine tD (i:=3) (K:=(kyI .i64)) E H (wn z) z z z z z z (fV U2) U84 Z3 Dl c2 λi4 a H E=>?_;obtain ⟨i5,i6,i7,i8,i9,j0,rfl,h⟩:=oU H;clear H;have H:=h;refine nt<|⟨sx H [1,2] z,om E z λa E=>ox E z λa E=>ox E z λa E=>cO z<|al2 E H z lB λj1 w a H E=>nt<|⟨sx H [2,3] z,cO z<|ss 0 E H z bR (aZ H mm5 mm4 mm3 mm2 mm1 m0) λw H=>nt<|⟨sx H [2,3] z,dF z<|pn 1 E z λa E=>fK<|?_⟩⟩⟩
   clear hI;exact aA<|have H:=H.frs [4,1,2,3,4] z;X19 ⟨E.to z,H,(Y7 Y0),mm5,mm4,mm3,mm2,mm1,m0,m⟩
  refine al2 E H z lB λj2 w a H E=>nt<|⟨sx H [2,3] z,cO z<|tD (i:=4) (K:=(kyI .i64)) E H (wn z) z z z z z z (fV U2) U84 Z3 Dl c2 λj3 a H E=>?_⟩
  obtain ⟨j4,j5,j6,j7,j8,j9,rfl,h⟩:=oU H;clear H;have H:=h;refine nt<|⟨sx H [2,3] z,om E z λa E=>ox E z λa E=>ox E z λa E=>cO z<|ss 0 E H z bR (aZ H mm5 mm4 mm3 mm2 mm1 m0) λw H=>nt<|⟨sx H [2,3] z,dF z<|pn 1 E z λa E=>fK<|?_⟩⟩
  clear hI;exact aA<|have H:=H.frs [4,1,2,3,4] z;X19 ⟨E.to z,H,(Y7 Y0),mm5,mm4,mm3,mm2,mm1,m0,m⟩
 ·clear E H m;rintro a w ⟨c9,Y,Z,b0,b1,b2,b3,d0,b4,b5,b6,b7,d1,d2,d3,d4,d5,d6,f,E,H,O,d7,d8,d9,e0,e1,e2,m⟩;unfold xF at m;refine sq<|pn 1 E z λa E=>wif E m z (λm=>?_) λm=>?_
  ·refine sq<|ln 3 [.int .i64 b4,.int .i64 b5,.bool b6,.int .i64 b7,Y,Z,b0,b1,b2,b3] E H U48 z bR λa E=>ss 2 E H z bR (aZ H d7 d8 d9 e0 e1 e2) λw H=>nt<|wR<|aH<|oB 2 [.int .i64 b4,.int .i64 b5,.bool b6,.int .i64 b7,Y,Z,b0,b1,b2,b3] E H U48 z bR<|have H:=H.drs [1,1,1];?_;cases m;exact X8 ⟨z,H.reads (aD d7 (aD d8 (aD d9 (aD e0 (aD e1 (aD e2 (aD (O _ b8) (aD (O _ b9) (O)))))))))⟩
  ·refine wK<|aA<|wS<|aL (λa w=>∃ e3,Jn 59 a w [(0,pt o 0),(2,.func (.func 51) #[] #[]),(4,pt k 0),(6,pt A 0),(32,.bool e3)] (Blk o 87 [p,q,s,t,P,Q,.map (some e),u,x]::Blk k 37 (aN x20 J L M N)::Blk A 48 bH::bX Tryz.prog 2 (kyI .i64) bC true e y::Fo) rs (sP y x20 c0 c1 e3=some r)) ?_ ?_
   ·refine wG<|pr 1 E z λa E=>lb2 E H 1 U2 z λa E=>pr 2 E z λa E=>cs m (λj m=>?_) λj m=>?_
    ·exact pk 3 E (kc 25 z j) z λa E=>gl 25 E H 0 j U84 z λa E=>gv 25 E j z (Bs (i:=4) E H z z z U84) λa E=>pk 2 E (kc 25 z j) z λa E=>nt<|have H:=H.drop 3;⟨_,_,E.to z,H,O,m⟩
    exact pk 7 E (kc 25 z j) z λa E=>nt<|have H:=H.drop 3;⟨_,_,E.to z,H,O,m⟩
   ·clear E H m;rintro a w ⟨e3,k0,E,H,g,m⟩;unfold sP at m;refine wif E m z (λm=>?_) λm=>?_
    ·refine sq<|bd m λg6 f4 m=>xc2 E z (cf_ 53) (eW H f4)<|?_;rintro _ w ⟨g7,g8,g9,i0,i1,i2,rfl,H⟩ a E;refine ss 2 E H z bR (aZ H m0 mm1 mm2 mm3 mm4 mm5) λw H=>nt<|wR<|aH<|oB 2 (aS g6 g7 g8 g9 i0 i1 i2) E H U48 z bR<|have H:=H.drs [1,1];?_;cases m;exact X8 ⟨z,H.rdx [0,1,2,3,4,5] z (aD (t6 (g _ b8)) (aD (t6 (g _ b9)) (λr hr=>(t6 (g r hr)))))⟩
    ·refine wK<|aA<|sp 2 E z λa E=>ln 1 (aN x20 J L M N) E H U37 z xZ λa E=>bd m λb f5 m=>bI E (wn z) z z (bO E z z z ((cf_ 51) _)) (Lb H (g _ b8) (g _ b9) f5)<|?_;rintro _ w ⟨B,C,D,F,G,I,c3,c4,rfl,H⟩ a E;refine al2 E H z lB λc5 w a H E=>ss 0 E H z bR (aZ H m0 mm1 mm2 mm3 mm4 mm5) λw H=>nt<|aL (λa w=>∃ e4 d,Env 59 a [(6,pt A 0),(9,pt c5 0)]/\Sep w (Blk A 48 bH::Blk c5 48 (aS b.1 B C D F G I)::Blk o 87 [p,q,s,t,c3,c4,.map (some e),u,x]::bX Tryz.prog 2 (kyI .i64) bC true e e4::Fo) d/\(∀ r,r ∈ rs->r ∈ d)/\rSl aX B b.1.Results ∈ d/\rSl aB C b.1.Store.Nodes ∈ d/\rSl aC D b.1.Store.Turns ∈ d/\rSl aQ F b.1.Events ∈ d/\rSl bB G b.1.Mounts ∈ d/\rSl (kI .i64) I b.1.Wounded ∈ d/\rSl aR c3 b.2.1 ∈ d/\rSl aJ c4 b.2.2 ∈ d/\oJ b e4=some r) ?_ ?_
     ·refine aL (λa w=>∃ e5 c,Env 59 a [(0,pt o 0),(4,pt k 0),(6,pt A 0),(9,pt c5 0),(50,.bool e5)]/\Sep w (Blk o 87 [p,q,s,t,c3,c4,.map (some e),u,x]::Blk k 37 (aN x20 J L M N)::Blk A 48 bH::Blk c5 48 (aS b.1 B C D F G I)::bX Tryz.prog 2 (kyI .i64) bC true e y::Fo) c/\(∀ r,r ∈ rs->r ∈ c)/\rSl aR c3 b.2.1 ∈ c/\rSl aJ c4 b.2.2 ∈ c/\rSl aX B b.1.Results ∈ c/\rSl aB C b.1.Store.Nodes ∈ c/\rSl aC D b.1.Store.Turns ∈ c/\rSl aQ F b.1.Events ∈ c/\rSl bB G b.1.Mounts ∈ c/\rSl (kI .i64) I b.1.Wounded ∈ c/\lX b y x20 e5=some r) ?_ ?_
      ·refine wG<|pr 1 E z λa E=>lb2 E H 2 U2 z λa E=>pr 2 E z λa E=>cs m (λl m=>?_) λl m=>?_
       ·refine pk 1 E (kc 41 z l) z λa E=>gl 41 E H 0 l U41 z λa E=>pk 3 E (kc 41 z l) z λa E=>cs m (λn m=>?_) λn m=>?_
        ·exact pk 1 E (kc 46 z n) z λa E=>gl 46 E H 0 n U41 z λa E=>pk 2 E (kc 46 z n) z λa E=>nt<|have H:=H.frs [4,1,4,4,4] z;⟨_,_,E.to z,H,(Y8 g),mm6,(t1 mm6),m0,mm1,mm2,mm3,mm4,mm5,m⟩
        exact pk 4 E (kc 46 z n) z λa E=>nt<|have H:=H.frs [4,1,4,4,4] z;⟨_,_,E.to z,H,(Y8 g),mm6,(t1 mm6),m0,mm1,mm2,mm3,mm4,mm5,m⟩
       exact pk 9 E (kc 41 z l) z λa E=>nt<|have H:=H.frs [4,1,4,4,4] z;⟨_,_,E.to z,H,(Y8 g),mm6,(t1 mm6),m0,mm1,mm2,mm3,mm4,mm5,m⟩
      clear E H m;rintro a w ⟨e5,c,E,H,c6,c7,c8,R,S,T,U,V,X,m⟩;unfold lX at m;refine wif E m z (λm=>?_) λm=>?_
      ·refine dz [0,0,0,0,0,0,0,2] [0,1,3] H λw W0 hI H=>fn 3 E z λa E=>fb2 E m0 U84 z λa E=>fn 1 E z λa E=>fb2 E mm1 U2 z λa E=>fbn E (aS b.1 B C D F G I) z (wn z) z z z z mm2 z U48 z bR λa E=>bK z<|bd m λk1 f2 m=>Ar (i:=4) (K:=(kyI .i64)) (v:=b.1) (cs:=[.int .i64 b.1.Err,.int .i64 b.1.At,.bool b.1.Yes,.int .i64 b.1.Epoch,B,C,D,F,G,I]) E H (wn z) z z z z z z (fV U2) U84 f2 (λok hr=>(tE (hr _ R) (hr _ S) (hr _ T) (hr _ U) (hr _ V) (hr _ X))) λw H=>nt<|bG<|?_;clear hI;exact aA<|have H:=H.drop 1;have H:=H.frs [3,1,3,3] z;⟨_,_,E.to z,H,c6,R,S,T,U,V,X,c7,c8,m⟩
      exact wK<|aA<|have H:=H.drop 1;have H:=H.frs [3,1,3,3] z;⟨_,_,E.to z,H,c6,R,S,T,U,V,X,c7,c8,m⟩
     ·clear E H m;rintro a w ⟨e4,d,E,H,f6,e6,e7,e8,e9,f0,f1,f7,f8,m⟩;unfold oJ at m;refine sq<|ln 1 (aS b.1 B C D F G I) E H U48 z bR λa E=>ss 0 E H z bR (aZ H e6 e7 e8 e9 f0 f1) λw H=>nt<|wR<|oB 0 (aS b.1 B C D F G I) E H U48 z bR<|have H:=H.drs [0,0];?_;cases m;exact X8 ⟨z,H.reads (aD e6 (aD e7 (aD e8 (aD e9 (aD f0 (aD f1 (aD f7 (aD f8 (f6)))))))))⟩

def yI(x1:aP)(x3:Int)(b:Int):Option Bool:=
  if (x1.Session == x3)=true then (some (x1.Num == b)) else (some (false))
theorem Tp{x1:aP}{c d:Nat}{x3 e:Int}(H:Sep w (Blk c 2 [.int .i64 x3]::Blk d 2 [.int .i64 e]::Fo) rs){r:Bool}(m:yI x1 x3 e=some r) :
    Cf 269 [.agg (eG x1).toArray,pt c 0,pt d 0] w λv w'=>.bool r=v/\Sep w' (Blk c 2 [.int .i64 x3]::Blk d 2 [.int .i64 e]::Fo) (rs):=by
 unfold yI at m;refine ent func269 z ntmps269 z z λa E=>sq<|bx E H z λf w a H E=>pr 1 E z λa E=>xp 1 E z λa E=>lb2 E H 0 U2 z λa E=>lb2 E H 1 U2 z λa E=>pr 2 E z λa E=>cs m (λb m=>?_) λb m=>?_
 ·refine pk 1 E (kc 9 z b) z λa E=>gl 9 E H 0 b U2 z λa E=>gl 9 E H 2 b U2 z λa E=>pk 3 E (kc 9 z b) z λa E=>nt<|wR<|o1 E z<|have H:=H.drop 0;?_;cases m;exact ⟨z,H.reads Y0⟩
 ·refine pk 6 E (kc 9 z b) z λa E=>nt<|wR<|o1 E z<|have H:=H.drop 0;?_;cases m;exact ⟨z,H.reads Y0⟩

def eC(c:List aP)(d:Int)(e:Int):Nat->Int->Option Int
  | 0,_=>none
  | i+1,b=>
    if (decide (b < (c.length:Int)))=true then ((idx c b).bind λf=>(yI f d e).bind λg=>if g=true then (some (b)) else (eC c d e i (IntKind.i64.wrap (b+1)))) else (some ((-1)))
def iI(b:List aP)(c:Int)(d:Int):Option Int:=
  eC b c d (((b.length:Int) - 0:Int).toNat+1) 0
theorem G3{k:VL}{d:List aP}{e f:Nat}{g i:Int}(H:Sep w (Blk e 2 [.int .i64 g]::Blk f 2 [.int .i64 i]::Fo) rs)(j:rSl aR k d ∈ rs){r:Int}(m:iI d g i=some r) :
    Cf 268 [k,.func (.func 269) #[] #[pt e 0,pt f 0]] w λv w'=>.int .i64 r=v/\Sep w' (Blk e 2 [.int .i64 g]::Blk f 2 [.int .i64 i]::Fo) (rs):=by
 unfold iI at m;refine ent func268 z ntmps268 z z λa E=>sq<|pn 1 E z λa E=>wS<|sp 1 E z λa E=>lS E H j U70 z λa E=>pr 1 E z λa E=>nt<|wB<|bF (λc a w=>∃ l,Jn 19 a w [(0,k),(1,.func (.func 269) #[] #[pt e 0,pt f 0]),(7,.int .i64 (d.length:Int)),(8,.int .i64 l)] (Blk e 2 [.int .i64 g]::Blk f 2 [.int .i64 i]::Fo) rs (eC d g i c l=some r)) (((d.length:Int) - 0:Int).toNat+1) ?_ ?_
 ·exact ⟨_,_,E.to z,H,Y0,m⟩
 ·clear E H m;rintro c a w ⟨l,p,E,H,b,m⟩;cases c with
  | zero=>exact (bD m z).elim
  | succ c=>
   unfold eC at m;refine sq<|pn 1 E z λa E=>wS<|wif E m z (λm=>?_) λm=>?_
   ·refine wK<|aA<|wS<|wB<|sp 2 E z λa E=>xp 3 E z λa E=>bd m λq n m=>dC E H (wn z) z z z z z (b _ j) U70 yQ n λq13 a H E=>ldf mQ E H z z z z z m0 U35 z yQ λa E=>bd m λs o m=>bI E (wn z) z z (bO E z z z ((cf_ 269) _)) (Tp H o)<|?_;rintro _ w ⟨rfl,H⟩ a E;refine nt<|wif E m z (λm=>?_) λm=>?_
    ·refine sq<|pn 2 E z λa E=>wR<|bJ<|aH<|aH<|bJ<|aH<|o1 E z<|?_;cases m;exact ⟨z,H.reads (Y1 b)⟩
    exact wK<|bM<|aA<|wG<|pn 2 E z λa E=>⟨c,nL c,_,_,E.to z,H,(Y1 b),m⟩
   ·refine wX<|aT<|aT<|cL<|aA<|sq<|pn 1 E z λa E=>wR<|o1 E z<|?_;cases m;exact ⟨z,H.reads b⟩

def D6(x1:aY)(c:Int)(d:Int):Option Int:=
  (iI x1.Watches c d).bind λb=>some (b)
theorem Ld{x1:aY}{c g:VL}{d e:Int}(H:Sep w (Fo) rs)(f:rSl aR c x1.Watches ∈ rs){r:Int}(m:D6 x1 d e=some r) :
    Cf 194 [.agg #[c,g],.int .i64 d,.int .i64 e] w λv w'=>.int .i64 r=v/\Sep w' (Fo) (rs):=by
 unfold D6 at m;refine ent func194 z ntmps194 z z λa E=>sq<|bx E H z λk w a H E=>bx E H z λl w a H E=>bx E H z λi w a H E=>pr 1 E z λa E=>xp 1 E z λa E=>lb2 E H 2 U70 z λa E=>sv2 E z (nR E z z z) λa E=>have H:=H.frs [2,1,2] z;bd m λj b m=>xk2 E z (cf_ 268) (G3 H f b) λw H a E=>pn 1 E z λa E=>wR<|o1 E z<|have H:=H.drs [0,0,0];?_;cases m;exact ⟨z,H.reads Y0⟩

def zO(x1:aY)(d:Int)(e:Int):Option Hq:=
  (uA x1).bind λc=>if (!c)=true then (some ((⟨[],[]⟩:aY),1)) else ((D6 x1 d e).bind λb=>if (decide (b < 0))=true then (some (x1,62)) else ((ck (x1.Watches.length <= LIM)).bind λf=>(ck (0 <= b/\b < x1.Watches.length/\IntKind.i64.wrap (b+1)=b+1)).bind λg=>some ((⟨x1.Watches.eraseIdx b.toNat,x1.Sessions⟩:aY),0)))
theorem Jb{x1:aY}{e d:VL}{o p:Int}(H:Sep w (Fo) rs)(b:rSl aR e x1.Watches ∈ rs)(c:rSl aJ d x1.Sessions ∈ rs){r:aY×Int}(m:zO x1 o p=some r) :
    Cf 119 [.agg #[e,d],.int .i64 o,.int .i64 p] w λv w'=>∃ q s,.tuple #[.agg #[q,s],.int .i64 r.2]=v/\Sep w' (Fo) (rSl aR q r.1.Watches::rSl aJ s r.1.Sessions::rs):=by
 unfold zO at m;refine ent func119 z ntmps119 z z λa E=>sq<|bx E H z λA w a H E=>al2 E H z Hl λB w a H E=>pn 1 E z λa E=>wS<|sq<|ln 1 [e,d] E H U73 z gT λa E=>bd m λu j m=>xk2 E z (cf_ 192) (S7 H b c j) λw H a E=>pn 1 E z λa E=>wif E m z (λm=>?_) λm=>?_
 ·refine sq<|sv2 E z (cN E z (E.evs z) (v:=.agg #[nS,nS]) (by kernel_rfl)) λa E=>ss 0 E H z gT z λw H=>pn 1 E z λa E=>wR<|aH<|A9 E z (qI (i:=0) (us:=[nS,nS]) H z z z U73 z gT) (rvT z)<|have H:=H.nilSl aR;have H:=H.nilSl aJ;have H:=H.drs [0,0];?_;cases m;exact ⟨_,_,z,H.rdx [1,0] z (λr hr=>(t2 hr))⟩
 ·refine wK<|aA<|sq<|ln 1 [e,d] E H U73 z gT λa E=>pr 2 E z λa E=>bd m λf k m=>xk2 E z (cf_ 194) (Ld H b k) λw H a E=>pn 1 E z λa E=>wS<|sq<|pn 2 E z λa E=>wif E m z (λm=>?_) λm=>?_
  ·refine sq<|ln 1 [e,d] E H U73 z gT λa E=>ss 0 E H z gT (kM H b c) λw H=>pn 1 E z λa E=>wR<|aH<|A9 E z (qI (i:=0) (us:=[e,d]) H z z z U73 z gT) (rvT z)<|have H:=H.drs [0,0];?_;cases m;exact ⟨_,_,z,H.reads (aD b (aD c (λr hr=>hr)))⟩
  ·refine wK<|aA<|sp 1 E z λa E=>lb2 E H 1 U70 z λa E=>bk m λl m=>xc2 E z (cf_ 74) (iR H b l) λx w H a E=>pr 3 E z λa E=>bk m λn m=>xc2 E z (cf_ 198) (Wa.delete_c (ix:=0) H z n) λy w H a E=>pr 1 E z λa E=>?_;obtain ⟨q20,g,rfl⟩:=H.rowform (i:=0) z;refine ss 2 E H z CK z λw H=>nx<|ln 2 [(.slice q20 (x1.Watches.eraseIdx f.toNat).length g),d] E H U73 z gT λa E=>?_;obtain ⟨q22,t,rfl⟩:=H.slform c;refine ss 1 E H z gT z λw H=>pn 1 E z λa E=>wR<|A9 E z (qI (i:=1) (us:=[(.slice q20 (x1.Watches.eraseIdx f.toNat).length g),(.slice q22 x1.Sessions.length t)]) H z z z U73 z gT) (rvT z)<|have H:=H.thaw (i:=0) z;have H:=H.drs [0,0];?_;cases m;exact ⟨_,_,z,H.reads (aD m0 (aD (t1 c) (λr hr=>(t1 hr))))⟩

def tP(c:List aP)(d:List aE)(e:Int)(f:eZ)(g:dY):Option Mn:=
  (lW c d (⟨f,g⟩:aY) ([]:List bP) e).bind λb=>some (b.1,b.2.1,b.2.2)
def sR(c:List aP)(d:List aE)(x20:aI):Option Mn:=
  (zO (⟨c,d⟩:aY) x20.Watch.Session x20.Watch.Num).bind λb=>tP c d b.2 b.1.Watches b.1.Sessions
theorem Gt{f:Nat}{c d C D F G g i j k l n o:VL}{p:List aP}{q:List aE}{x20:aI}(H:Sep w (Blk f 87 [g,i,j,k,c,d,l,n,o]::Fo) rs)(s:rSl aR c p ∈ rs)(t:rSl aJ d q ∈ rs){r:aW×eZ×dY}(m:sR p q x20=some r) :
    Cf 50 [pt f 0,.agg (aN x20 C D F G).toArray] w λv w'=>∃ Q R S T U V X L,.agg (aS r.1 Q R S T U V).toArray=v/\Sep w' (Blk f 87 [g,i,j,k,X,L,l,n,o]::Fo) (rSl aX Q r.1.Results::rSl aB R r.1.Store.Nodes::rSl aC S r.1.Store.Turns::rSl aQ T r.1.Events::rSl bB U r.1.Mounts::rSl (kI .i64) V r.1.Wounded::rSl aR X r.2.1::rSl aJ L r.2.2::rs):=by
 unfold sR at m;refine ent func50 z ntmps50 z z λa E=>sq<|bx E H z λe w a H E=>al2 E H z lB λM w a H E=>nt<|aL (λa w=>∃ I x y J A B b,Env 25 a [(0,pt f 0),(4,pt M 0),(5,pt I 0),(6,.int .i64 J)]/\Sep w (Blk f 87 [g,i,j,k,c,d,l,n,o]::Blk M 48 bH::Blk I 73 [x,y]::Fo) b/\(∀ r,r ∈ rs->r ∈ b)/\rSl aR x A ∈ b/\rSl aJ y B ∈ b/\tP p q J A B=some r) ?_ ?_
 ·refine bd m λb5 K m=>?_;have hI:dN [Blk e 37 (aN x20 C D F G),Blk f 87 [g,i,j,k,c,d,l,n,o]] [] { w with drawn:=w.drawn+1 }:=⟨_,_,H.kept (Kp.drawn _ w _),(aV mm1 (aV mm2 (bQ))),(bT)⟩
  refine qJ _ (.go 0 0 (.go 1 0 (.go 2 0 (.go 3 0 (.go 4 0 (.go 5 0 (.go 6 0 (.go 7 0 (.go 8 0 (.go 9 0 (.alt 10 (.go 11 0 (.go 12 0 (.go 13 0 (.go 14 1 (.go 15 1 (.go 16 2 .nil)))))) 14 (.go 10 1 (.go 11 0 (.go 12 0 (.go 13 0 (.go 15 1 (.go 16 2 .nil))))))))))))))))) [16] qS (by kernel_rfl) (λ_ _ _ h=>False.elim h.2) hI<|have H:=H.kept (Kp.drawn _ w (w.drawn+1));?_;generalize ({ w with drawn:=w.drawn+1 }:WD)=w at H hI ⊢
  replace hI:∃ W,dN [Blk e 37 (aN x20 C D F G),Blk f 87 [g,i,j,k,c,d,l,n,o]] [] W:=⟨_,hI⟩
  obtain ⟨W0,hI⟩:=hI;refine om E z λa E=>ov E z (λw hW=>(F2 E z z)) λa E=>ov E z (λw hW=>oR E z z (v:=pt f 4) (Xl _ _)) λa E=>ov E z (λw hW=>mW E z z (W7 (us:=[c,d]) mm1 z U73 z gT w hW)) λa E=>ov E z (λw hW=>oR E z z (v:=pt e 12) (Ml _ _)) λa E=>ov E z (λw hW=>oR E z z (v:=pt e 12) (Qz _ _)) λa E=>ol E m0 U2 z λa E=>ov E z (λw hW=>oR E z z (v:=pt e 12) (Ml _ _)) λa E=>ov E z (λw hW=>oR E z z (v:=pt e 13) (Xk _ _)) λa E=>ol E m0 U2 z λa E=>rD z z ?_ ?_
  ·refine xc2 E z (cf_ 119) (Jb (x1:=(⟨p,q⟩:aY)) H s t K)<|?_;rintro _ w ⟨b6,b7,rfl,H⟩ a E;refine nt<|⟨sx H [1,2] z,om E z λa E=>ox E z λa E=>ox E z λa E=>cO z<|al2 E H z Hl λb8 w a H E=>nt<|⟨sx H [2,3] z,cO z<|ss 0 E H z gT (kM H m0 mm1) λw H=>nt<|⟨sx H [2,3] z,dF z<|pn 1 E z λa E=>fK<|?_⟩⟩⟩
   clear hI;exact aA<|have H:=H.drop 2;have H:=H.frs [0,1,2] z;X7 ⟨E.to z,H,(Y2 Y0),m0,mm1,m⟩
  refine al2 E H z Hl λb9 w a H E=>nt<|⟨sx H [2,3] z,cO z<|xc2 E z (cf_ 119) (Jb (x1:=(⟨p,q⟩:aY)) H s t K)<|?_⟩
  rintro _ w ⟨c0,c1,rfl,H⟩ a E;refine nt<|⟨sx H [2,3] z,om E z λa E=>ox E z λa E=>ox E z λa E=>cO z<|ss 0 E H z gT (kM H m0 mm1) λw H=>nt<|⟨sx H [2,3] z,dF z<|pn 1 E z λa E=>fK<|?_⟩⟩
  clear hI;exact aA<|have H:=H.drop 2;have H:=H.frs [0,1,2] z;X7 ⟨E.to z,H,(Y2 Y0),m0,mm1,m⟩
 ·clear E H m;rintro a w ⟨I,x,y,J,A,B,b,E,H,u,N,O,m⟩;unfold tP at m;refine sp 1 E z λa E=>ln 2 [x,y] E H U73 z gT λa E=>pr 1 E z λa E=>have H:=H.nilSl aQ;bd m λY P m=>xc2 E z (cf_ 118) (D4 (x20:=(⟨A,B⟩:aY)) H (t1 (u _ s)) (t1 (u _ t)) (t1 N) (t1 O) m0 P)<|?_;rintro _ w ⟨Z,b0,b1,b2,b3,b4,c2,c3,rfl,H⟩ a E;refine ss 1 E H z bR (aZ H m0 mm1 mm2 mm3 mm4 mm5) λw H=>nt<|wR<|oB 1 (aS Y.1 Z b0 b1 b2 b3 b4) E H U48 z bR<|have H:=H.drs [1,1];?_;cases m;exact X8 ⟨z,H.rdx [0,1,2,3,4,5,6] z (aD (t1 mm6) (λr hr=>(t1 (t8 (u r hr)))))⟩

def mL(b:aW×eZ×dY)(c:kO):Option U1:=
  some (b.1,b.2.1,b.2.2,c)
def jZ(b:aW×eZ×dY)(c:List lN)(x20:aI)(e:Bool):Option U1:=
  if e=true then ((mpt (kyI .i64) c x20.Id b.1).bind λd=>mL b d) else (mL b c)
def qE(c:List lN)(x20:aI)(d:List aP)(e:List aE)(f:Bool):Option U1:=
  if f=true then ((dK 2).bind λg=>some (g,d,e,c)) else ((sR d e x20).bind λb=>if (x20.Id != 0)=true then (if (b.1.Err != 131)=true then (jZ b c x20 (b.1.Err != 132)) else (jZ b c x20 false)) else (jZ b c x20 false))
def uG(b:List lN)(x20:aI)(c:List aP)(d:List aE)(e:Bool)(f:Int)(g:Int)(i:Bool)(j:Int)(k:Z4)(l:dL)(m:dO)(n:B4)(o:Mm)(p:(List Int)):Option U1:=
  if e=true then (some ((⟨f,g,i,j,k,(⟨l,m⟩:aK),n,o,p⟩:aW),c,d,b)) else (if (x20.Id != 0)=true then (qE b x20 c d ((b.length:Int) == 512)) else (qE b x20 c d false))
def pS(d:List aP)(e:List aE)(c:List lN)(x20:aI):Option U1:=
  (Q5 (kyI .i64) c x20.Id vW).bind λb=>uG c x20 d e b.2 b.1.Err b.1.At b.1.Yes b.1.Epoch b.1.Results b.1.Store.Nodes b.1.Store.Turns b.1.Events b.1.Mounts b.1.Wounded
theorem Ib{o e:Nat}{P Q J L M N p q s t u x:VL}{c0:List aP}{c1:List aE}{y:List lN}{x20:aI}(H:Sep w (Blk o 87 [p,q,s,t,P,Q,.map (some e),u,x]::bX Tryz.prog 2 (kyI .i64) bC true e y::Fo) rs)(b8:rSl aR P c0 ∈ rs)(b9:rSl aJ Q c1 ∈ rs){r:aW×eZ×dY×kO}(m:pS c0 c1 y x20=some r) :
    Cf 54 [pt o 0,.agg (aN x20 J L M N).toArray,.func (.func 50) #[] #[]] w λv w'=>∃ f9 g0 g1 g2 g3 g4 g5 f3,.agg (aS r.1 f9 g0 g1 g2 g3 g4).toArray=v/\Sep w' (Blk o 87 [p,q,s,t,g5,f3,.map (some e),u,x]::bX Tryz.prog 2 (kyI .i64) bC true e r.2.2.2::Fo) (rSl aX f9 r.1.Results::rSl aB g0 r.1.Store.Nodes::rSl aC g1 r.1.Store.Turns::rSl aQ g2 r.1.Events::rSl bB g3 r.1.Mounts::rSl (kI .i64) g4 r.1.Wounded::rSl aR g5 r.2.1::rSl aJ f3 r.2.2.1::rs):=by
 unfold pS at m;refine ent func54 z ntmps54 z z λa E=>sq<|bx E H z λk w a H E=>al2 E H z lB λA w a H E=>nt<|wS<|aL (λa w=>∃ c9 Y Z b0 b1 b2 b3 d0 b4 b5 b6 b7 d1 d2 d3 d4 d5 d6 f,Env 59 a [(0,pt o 0),(2,.func (.func 50) #[] #[]),(4,pt k 0),(6,pt A 0),(7,pt c9 0),(8,.bool d0)]/\Sep w (Blk o 87 [p,q,s,t,P,Q,.map (some e),u,x]::Blk k 37 (aN x20 J L M N)::Blk A 48 bH::Blk c9 48 [.int .i64 b4,.int .i64 b5,.bool b6,.int .i64 b7,Y,Z,b0,b1,b2,b3]::bX Tryz.prog 2 (kyI .i64) bC true e y::Fo) f/\(∀ r,r ∈ rs->r ∈ f)/\rSl aX Y d1 ∈ f/\rSl aB Z d2 ∈ f/\rSl aC b0 d3 ∈ f/\rSl aQ b1 d4 ∈ f/\rSl bB b2 d5 ∈ f/\rSl (kI .i64) b3 d6 ∈ f/\uG y x20 c0 c1 d0 b4 b5 b6 b7 d1 d2 d3 d4 d5 d6=some r) ?_ ?_
 ·refine bd m λi3 c2 m=>?_;have hI:dN [Blk k 37 (aN x20 J L M N),Blk o 87 [p,q,s,t,P,Q,.map (some e),u,x]] [] { w with drawn:=w.drawn+1 }:=⟨_,_,H.kept (Kp.drawn _ w _),(aV mm1 (aV mm2 (bQ))),(bT)⟩
  refine qJ _ (.go 0 0 (.go 1 0 (.go 2 0 (.go 3 0 (.go 4 0 (.go 5 0 (.alt 6 (.go 7 0 (.go 8 0 (.go 9 0 (.go 10 1 (.go 11 1 (.go 12 2 .nil)))))) 10 (.go 6 1 (.go 7 0 (.go 8 0 (.go 9 0 (.go 11 1 (.go 12 2 .nil))))))))))))) [12] qS (by kernel_rfl) (λ_ _ _ h=>False.elim h.2) hI<|have H:=H.kept (Kp.drawn _ w (w.drawn+1));?_;generalize ({ w with drawn:=w.drawn+1 }:WD)=w at H hI ⊢
  replace hI:∃ W,dN [Blk k 37 (aN x20 J L M N),Blk o 87 [p,q,s,t,P,Q,.map (some e),u,x]] [] W:=⟨_,hI⟩
  obtain ⟨W0,hI⟩:=hI;refine om E z λa E=>ov E z (λw hW=>(F2 E z z)) λa E=>ov E z (λw hW=>oR E z z (v:=pt o 6) (Kj _ _)) λa E=>ol E mm1 U84 z λa E=>ov E z (λw hW=>oR E z z (v:=pt k 1) (Ki _ _)) λa E=>ol E m0 U2 z λa E=>rD z z ?_ ?_
  ·refine tD (i:=3) (K:=(kyI .i64)) E H (wn z) z z z z z z (fV U2) U84 Z3 Dl c2 λi4 a H E=>?_;obtain ⟨i5,i6,i7,i8,i9,j0,rfl,h⟩:=oU H;clear H;have H:=h;refine nt<|⟨sx H [1,2] z,om E z λa E=>ox E z λa E=>ox E z λa E=>cO z<|al2 E H z lB λj1 w a H E=>nt<|⟨sx H [2,3] z,cO z<|ss 0 E H z bR (aZ H mm5 mm4 mm3 mm2 mm1 m0) λw H=>nt<|⟨sx H [2,3] z,dF z<|pn 1 E z λa E=>fK<|?_⟩⟩⟩
   clear hI;exact aA<|have H:=H.frs [4,1,2,3,4] z;X19 ⟨E.to z,H,(Y7 Y0),mm5,mm4,mm3,mm2,mm1,m0,m⟩
  refine al2 E H z lB λj2 w a H E=>nt<|⟨sx H [2,3] z,cO z<|tD (i:=4) (K:=(kyI .i64)) E H (wn z) z z z z z z (fV U2) U84 Z3 Dl c2 λj3 a H E=>?_⟩
  obtain ⟨j4,j5,j6,j7,j8,j9,rfl,h⟩:=oU H;clear H;have H:=h;refine nt<|⟨sx H [2,3] z,om E z λa E=>ox E z λa E=>ox E z λa E=>cO z<|ss 0 E H z bR (aZ H mm5 mm4 mm3 mm2 mm1 m0) λw H=>nt<|⟨sx H [2,3] z,dF z<|pn 1 E z λa E=>fK<|?_⟩⟩
  clear hI;exact aA<|have H:=H.frs [4,1,2,3,4] z;X19 ⟨E.to z,H,(Y7 Y0),mm5,mm4,mm3,mm2,mm1,m0,m⟩
 ·clear E H m;rintro a w ⟨c9,Y,Z,b0,b1,b2,b3,d0,b4,b5,b6,b7,d1,d2,d3,d4,d5,d6,f,E,H,O,d7,d8,d9,e0,e1,e2,m⟩;unfold uG at m;refine sq<|pn 1 E z λa E=>wif E m z (λm=>?_) λm=>?_
  ·refine sq<|ln 3 [.int .i64 b4,.int .i64 b5,.bool b6,.int .i64 b7,Y,Z,b0,b1,b2,b3] E H U48 z bR λa E=>ss 2 E H z bR (aZ H d7 d8 d9 e0 e1 e2) λw H=>nt<|wR<|aH<|oB 2 [.int .i64 b4,.int .i64 b5,.bool b6,.int .i64 b7,Y,Z,b0,b1,b2,b3] E H U48 z bR<|have H:=H.drs [1,1,1];?_;cases m;exact X8 ⟨z,H.reads (aD d7 (aD d8 (aD d9 (aD e0 (aD e1 (aD e2 (aD (O _ b8) (aD (O _ b9) (O)))))))))⟩
  ·refine wK<|aA<|wS<|aL (λa w=>∃ e3,Jn 59 a w [(0,pt o 0),(2,.func (.func 50) #[] #[]),(4,pt k 0),(6,pt A 0),(32,.bool e3)] (Blk o 87 [p,q,s,t,P,Q,.map (some e),u,x]::Blk k 37 (aN x20 J L M N)::Blk A 48 bH::bX Tryz.prog 2 (kyI .i64) bC true e y::Fo) rs (qE y x20 c0 c1 e3=some r)) ?_ ?_
   ·refine wG<|pr 1 E z λa E=>lb2 E H 1 U2 z λa E=>pr 2 E z λa E=>cs m (λj m=>?_) λj m=>?_
    ·exact pk 3 E (kc 25 z j) z λa E=>gl 25 E H 0 j U84 z λa E=>gv 25 E j z (Bs (i:=4) E H z z z U84) λa E=>pk 2 E (kc 25 z j) z λa E=>nt<|have H:=H.drop 3;⟨_,_,E.to z,H,O,m⟩
    exact pk 7 E (kc 25 z j) z λa E=>nt<|have H:=H.drop 3;⟨_,_,E.to z,H,O,m⟩
   ·clear E H m;rintro a w ⟨e3,k0,E,H,g,m⟩;unfold qE at m;refine wif E m z (λm=>?_) λm=>?_
    ·refine sq<|bd m λg6 f4 m=>xc2 E z (cf_ 53) (eW H f4)<|?_;rintro _ w ⟨g7,g8,g9,i0,i1,i2,rfl,H⟩ a E;refine ss 2 E H z bR (aZ H m0 mm1 mm2 mm3 mm4 mm5) λw H=>nt<|wR<|aH<|oB 2 (aS g6 g7 g8 g9 i0 i1 i2) E H U48 z bR<|have H:=H.drs [1,1];?_;cases m;exact X8 ⟨z,H.rdx [0,1,2,3,4,5] z (aD (t6 (g _ b8)) (aD (t6 (g _ b9)) (λr hr=>(t6 (g r hr)))))⟩
    ·refine wK<|aA<|sp 2 E z λa E=>ln 1 (aN x20 J L M N) E H U37 z xZ λa E=>bd m λb f5 m=>bI E (wn z) z z (bO E z z z ((cf_ 50) _)) (Gt H (g _ b8) (g _ b9) f5)<|?_;rintro _ w ⟨B,C,D,F,G,I,c3,c4,rfl,H⟩ a E;refine al2 E H z lB λc5 w a H E=>ss 0 E H z bR (aZ H m0 mm1 mm2 mm3 mm4 mm5) λw H=>nt<|aL (λa w=>∃ e4 d,Env 59 a [(6,pt A 0),(9,pt c5 0)]/\Sep w (Blk A 48 bH::Blk c5 48 (aS b.1 B C D F G I)::Blk o 87 [p,q,s,t,c3,c4,.map (some e),u,x]::bX Tryz.prog 2 (kyI .i64) bC true e e4::Fo) d/\(∀ r,r ∈ rs->r ∈ d)/\rSl aX B b.1.Results ∈ d/\rSl aB C b.1.Store.Nodes ∈ d/\rSl aC D b.1.Store.Turns ∈ d/\rSl aQ F b.1.Events ∈ d/\rSl bB G b.1.Mounts ∈ d/\rSl (kI .i64) I b.1.Wounded ∈ d/\rSl aR c3 b.2.1 ∈ d/\rSl aJ c4 b.2.2 ∈ d/\mL b e4=some r) ?_ ?_
     ·refine aL (λa w=>∃ e5 c,Env 59 a [(0,pt o 0),(4,pt k 0),(6,pt A 0),(9,pt c5 0),(50,.bool e5)]/\Sep w (Blk o 87 [p,q,s,t,c3,c4,.map (some e),u,x]::Blk k 37 (aN x20 J L M N)::Blk A 48 bH::Blk c5 48 (aS b.1 B C D F G I)::bX Tryz.prog 2 (kyI .i64) bC true e y::Fo) c/\(∀ r,r ∈ rs->r ∈ c)/\rSl aR c3 b.2.1 ∈ c/\rSl aJ c4 b.2.2 ∈ c/\rSl aX B b.1.Results ∈ c/\rSl aB C b.1.Store.Nodes ∈ c/\rSl aC D b.1.Store.Turns ∈ c/\rSl aQ F b.1.Events ∈ c/\rSl bB G b.1.Mounts ∈ c/\rSl (kI .i64) I b.1.Wounded ∈ c/\jZ b y x20 e5=some r) ?_ ?_
      ·refine wG<|pr 1 E z λa E=>lb2 E H 2 U2 z λa E=>pr 2 E z λa E=>cs m (λl m=>?_) λl m=>?_
       ·refine pk 1 E (kc 41 z l) z λa E=>gl 41 E H 0 l U41 z λa E=>pk 3 E (kc 41 z l) z λa E=>cs m (λn m=>?_) λn m=>?_
        ·exact pk 1 E (kc 46 z n) z λa E=>gl 46 E H 0 n U41 z λa E=>pk 2 E (kc 46 z n) z λa E=>nt<|have H:=H.frs [4,1,4,4,4] z;⟨_,_,E.to z,H,(Y8 g),mm6,(t1 mm6),m0,mm1,mm2,mm3,mm4,mm5,m⟩
        exact pk 4 E (kc 46 z n) z λa E=>nt<|have H:=H.frs [4,1,4,4,4] z;⟨_,_,E.to z,H,(Y8 g),mm6,(t1 mm6),m0,mm1,mm2,mm3,mm4,mm5,m⟩
       exact pk 9 E (kc 41 z l) z λa E=>nt<|have H:=H.frs [4,1,4,4,4] z;⟨_,_,E.to z,H,(Y8 g),mm6,(t1 mm6),m0,mm1,mm2,mm3,mm4,mm5,m⟩
      clear E H m;rintro a w ⟨e5,c,E,H,c6,c7,c8,R,S,T,U,V,X,m⟩;unfold jZ at m;refine wif E m z (λm=>?_) λm=>?_
      ·refine dz [0,0,0,0,0,0,0,2] [0,1,3] H λw W0 hI H=>fn 3 E z λa E=>fb2 E m0 U84 z λa E=>fn 1 E z λa E=>fb2 E mm1 U2 z λa E=>fbn E (aS b.1 B C D F G I) z (wn z) z z z z mm2 z U48 z bR λa E=>bK z<|bd m λk1 f2 m=>Ar (i:=4) (K:=(kyI .i64)) (v:=b.1) (cs:=[.int .i64 b.1.Err,.int .i64 b.1.At,.bool b.1.Yes,.int .i64 b.1.Epoch,B,C,D,F,G,I]) E H (wn z) z z z z z z (fV U2) U84 f2 (λok hr=>(tE (hr _ R) (hr _ S) (hr _ T) (hr _ U) (hr _ V) (hr _ X))) λw H=>nt<|bG<|?_;clear hI;exact aA<|have H:=H.drop 1;have H:=H.frs [3,1,3,3] z;⟨_,_,E.to z,H,c6,R,S,T,U,V,X,c7,c8,m⟩
      exact wK<|aA<|have H:=H.drop 1;have H:=H.frs [3,1,3,3] z;⟨_,_,E.to z,H,c6,R,S,T,U,V,X,c7,c8,m⟩
     ·clear E H m;rintro a w ⟨e4,d,E,H,f6,e6,e7,e8,e9,f0,f1,f7,f8,m⟩;unfold mL at m;refine sq<|ln 1 (aS b.1 B C D F G I) E H U48 z bR λa E=>ss 0 E H z bR (aZ H e6 e7 e8 e9 f0 f1) λw H=>nt<|wR<|oB 0 (aS b.1 B C D F G I) E H U48 z bR<|have H:=H.drs [0,0];?_;cases m;exact X8 ⟨z,H.reads (aD e6 (aD e7 (aD e8 (aD e9 (aD f0 (aD f1 (aD f7 (aD f8 (f6)))))))))⟩

def P5(b:dY)(c:eZ):Option Hq:=
  some ((⟨c,b⟩:aY),0)
def D7(x1:aY)(b:aP)(c:dY):Option Hq:=
  (ck (x1.Watches.length <= LIM)).bind λd=>(ck (x1.Watches.length+([b]:List aP).length <= LIM)).bind λe=>P5 c (x1.Watches ++ ([b]:List aP))
def D8(x1:aY)(c:aP)(d:Bool):Option Hq:=
  if d=true then (some ((⟨[],[]⟩:aY),1)) else ((D6 x1 c.Session c.Num).bind λe=>if (decide (e ≥ 0))=true then (some (x1,61)) else (if ((x1.Watches.length:Int) == 64)=true then (some (x1,2)) else ((dB x1.Sessions c.Session).bind λb=>if (!b.2)=true then ((ck (x1.Sessions.length <= LIM)).bind λf=>(ck (0 <= b.1/\b.1 <= x1.Sessions.length/\x1.Sessions.length <= 1000000)).bind λg=>D7 x1 c (x1.Sessions.take b.1.toNat ++ (⟨c.Session,0,[]⟩:aE)::x1.Sessions.drop b.1.toNat)) else (D7 x1 c x1.Sessions))))
def J6(x1:aY)(c:aP):Option Hq:=
  (uA x1).bind λb=>if (!b)=true then (D8 x1 c (!b)) else ((zN c).bind λd=>D8 x1 c (!d))
theorem Oc{x1:aY}{f n:VL}{b:aP}(H:Sep w (Fo) rs)(g:rSl aR f x1.Watches ∈ rs)(j:rSl aJ n x1.Sessions ∈ rs){r:aY×Int}(m:J6 x1 b=some r) :
    Cf 117 [.agg #[f,n],.agg (eG b).toArray] w λv w'=>∃ P Q,.tuple #[.agg #[P,Q],.int .i64 r.2]=v/\Sep w' (Fo) (rSl aR P r.1.Watches::rSl aJ Q r.1.Sessions::rs):=by
 unfold J6 at m;refine ent func117 z ntmps117 z z λa E=>sq<|bx E H z λl w a H E=>bx E H z λp w a H E=>al2 E H z Hl λA w a H E=>pn 1 E z λa E=>wS<|wB<|aL (λa w=>∃ B,Jn 59 a w [(2,pt l 0),(3,pt p 0),(4,pt A 0),(8,.bool B)] (Blk l 73 [f,n]::Blk p 35 (eG b)::Blk A 73 [nS,nS]::Fo) rs (D8 x1 b B=some r)) ?_ ?_
 ·refine sq<|ln 2 [f,n] E H U73 z gT λa E=>bd m λT K m=>xk2 E z (cf_ 192) (S7 H g j K) λw H a E=>pn 2 E z λa E=>wif E m z (λm=>?_) λm=>?_
  ·exact wK<|aA<|have H:=H.frs [0,1,2] z;⟨_,_,E.to z,H,Y0,m⟩
  exact wG<|ln 1 (eG b) E H U35 z yQ λa E=>bd m λU L m=>xk2 E z (cf_ 193) (Ja H L) λw H a E=>pn 2 E z λa E=>have H:=H.frs [0,1,2] z;⟨_,_,E.to z,H,Y0,m⟩
 ·clear E H m;rintro a w ⟨B,V,E,H,c,m⟩;unfold D8 at m;refine wif E m z (λm=>?_) λm=>?_
  ·refine sq<|sv2 E z (cN E z (E.evs z) (v:=.agg #[nS,nS]) (by kernel_rfl)) λa E=>ss 2 E H z gT z λw H=>pn 1 E z λa E=>wR<|bJ<|aH<|A9 E z (qI (i:=2) (us:=[nS,nS]) H z z z U73 z gT) (rvT z)<|have H:=H.nilSl aR;have H:=H.nilSl aJ;have H:=H.drs [0,0,0];?_;cases m;exact ⟨_,_,z,H.rdx [1,0] z (λr hr=>(t2 (c r hr)))⟩
  ·refine sq<|ln 0 [f,n] E H U73 z gT λa E=>pr 1 E z λa E=>lb2 E H 1 U2 z λa E=>pr 1 E z λa E=>lb2 E H 1 U2 z λa E=>bd m λZ M m=>xk2 E z (cf_ 194) (Ld H (c _ g) M) λw H a E=>pr 2 E z λa E=>nt<|wif E m z (λm=>?_) λm=>?_
   ·refine sq<|ln 0 [f,n] E H U73 z gT λa E=>Qd (i:=2) E H (wn z) z z z z z z gT z (kM H (c _ g) (c _ j)) λw H=>pn 1 E z λa E=>wR<|bJ<|aH<|A9 E z (qI (i:=2) (us:=[f,n]) H z z z U73 z gT) (rvT z)<|have H:=H.drs [0,0,0];?_;cases m;exact ⟨_,_,z,H.reads (aD (c _ g) (aD (c _ j) (c)))⟩
   ·refine sp 1 E z λa E=>lb2 E H 0 U70 z λa E=>lS E H (c _ g) U70 z λa E=>pn 2 E z λa E=>wif E m z (λm=>?_) λm=>?_
    ·refine sq<|ln 0 [f,n] E H U73 z gT λa E=>Qd (i:=2) E H (wn z) z z z z z z gT z (kM H (c _ g) (c _ j)) λw H=>pn 1 E z λa E=>wR<|bJ<|aH<|A9 E z (qI (i:=2) (us:=[f,n]) H z z z U73 z gT) (rvT z)<|have H:=H.drs [0,0,0];?_;cases m;exact ⟨_,_,z,H.reads (aD (c _ g) (aD (c _ j) (c)))⟩
    ·refine wK<|bM<|aA<|aL (λa w=>∃ k o q,Env 59 a [(2,pt l 0),(3,pt p 0),(4,pt A 0)]/\Sep w (Blk l 73 [f,k]::Blk p 35 (eG b)::Blk A 73 [nS,nS]::Fo) q/\(∀ r,r ∈ rs->r ∈ q)/\rSl aJ k o ∈ q/\D7 x1 b o=some r) ?_ ?_
     ·refine sp 1 E z λa E=>lb2 E H 0 U71 z λa E=>pr 1 E z λa E=>lb2 E H 1 U2 z λa E=>bd m λb0 N m=>xk2 E z (cf_ 195) (mB H (c _ j) N) λw H a E=>pr 5 E z λa E=>nx<|pn 2 E z λa E=>wif E m z (λm=>?_) λm=>?_
      ·refine bk m λC m=>bk m λD m=>?_;have hI:dN [Blk l 73 [f,n],Blk p 35 (eG b)] [] { w with drawn:=w.drawn+1 }:=⟨_,_,H.kept (Kp.drawn _ w _),(aV m0 (aV mm1 (bQ))),(bT)⟩
       refine qJ _ (.go 0 0 (.go 1 0 (.go 3 0 (.go 4 0 (.go 5 0 (.go 6 0 (.alt 2 (.go 7 1 (.go 8 1 (.go 9 2 (.go 10 2 .nil)))) 7 (.go 2 1 (.go 8 1 (.go 9 2 (.go 10 2 .nil))))))))))) [9,10] qS (by kernel_rfl) (λ_ _ _ h=>False.elim h.2) hI<|have H:=H.kept (Kp.drawn _ w (w.drawn+1));?_;generalize ({ w with drawn:=w.drawn+1 }:WD)=w at H hI ⊢
       replace hI:∃ W,dN [Blk l 73 [f,n],Blk p 35 (eG b)] [] W:=⟨_,hI⟩
       obtain ⟨W0,hI⟩:=hI;refine ov E z (λw hW=>oR E z z (v:=pt l 1) (EV _ _)) λa E=>ol E m0 U71 z λa E=>om E z λa E=>ov E z (λw hW=>oR E z z (v:=pt p 0) (Qz _ _)) λa E=>ol E mm1 U2 z λa E=>ov E z (λw hW=>(cN E z (E.evs z) (v:=.agg #[.int .i64 b.Session,.int .i64 0,nS]) (by kernel_rfl))) λa E=>rD z z ?_ ?_
       ·refine xc2 E z (cf_ 75) (gX H (c _ j) C) λb1 w H a E=>nt<|⟨sx H [1,2] z,cO z<|kH (e:=126) (d:=aJ) (cs:=[.int .i64 b.Session,.int .i64 0,nS]) (xs:=[(⟨b.Session,0,[]⟩:aE)]) E H (wn z) z z z (E.evs z) (by kernel_rfl) z z (λok hr=>(Rows.single (d:=aJ) (cs:=[.int .i64 b.Session,.int .i64 0,nS]) (x:=(⟨b.Session,0,[]⟩:aE)) (oT (Sl.nil _ _ _)))) λb2 w a H E=>nt<|⟨sx H [2,3] z,cO z<|xc2 E z (cf_ 197) (Se.insert_a (ix:=1) (iu:=0) H z z (by decide) D) λb3 w H a E=>nt<|⟨sx H [2,3] z,dF z<|pn 1 E z λa E=>dF z<|?_⟩⟩⟩
        obtain ⟨q92,b4,rfl⟩:=H.rowform (i:=1) z;refine ss 2 E H z Xn z λw H=>nt<|fK<|?_;clear hI;exact aA<|have H:=H.thaw (i:=1) z;have H:=H.drop 0;X3 ⟨E.to z,H,(Y1 c),m0,m⟩
       refine kH (e:=126) (d:=aJ) (cs:=[.int .i64 b.Session,.int .i64 0,nS]) (xs:=[(⟨b.Session,0,[]⟩:aE)]) E H (wn z) z z z (E.evs z) (by kernel_rfl) z z (λok hr=>(Rows.single (d:=aJ) (cs:=[.int .i64 b.Session,.int .i64 0,nS]) (x:=(⟨b.Session,0,[]⟩:aE)) (oT (Sl.nil _ _ _)))) λb5 w a H E=>nt<|⟨sx H [1,2] z,cO z<|xc2 E z (cf_ 75) (gX H (c _ j) C) λb6 w H a E=>nt<|⟨sx H [2,3] z,cO z<|xc2 E z (cf_ 197) (Se.insert_a (ix:=0) (iu:=1) H z z (by decide) D) λX w H a E=>nt<|⟨sx H [2,3] z,dF z<|pn 1 E z λa E=>dF z<|?_⟩⟩⟩
       obtain ⟨q101,Y,rfl⟩:=H.rowform (i:=0) z;refine ss 2 E H z Xn z λw H=>nt<|fK<|?_;clear hI;exact aA<|have H:=H.thaw (i:=0) z;have H:=H.drop 0;X3 ⟨E.to z,H,(Y1 c),m0,m⟩
      exact wK<|aA<|X3 ⟨E.to z,H,c,(c _ j),m⟩
     ·clear E H m;rintro a w ⟨k,o,q,E,H,s,F,m⟩;unfold D7 at m;refine aL (λa w=>∃ u y t,Env 59 a [(2,pt l 0),(4,pt A 0)]/\Sep w (Blk l 73 [u,k]::Blk A 73 [nS,nS]::Row 35 aR u y::Fo) t/\(∀ r,r ∈ rs->r ∈ t)/\rSl aJ k o ∈ t/\P5 o y=some r) ?_ ?_
      ·refine bk m λG m=>bk m λI m=>?_;have hI:dN [Blk l 73 [f,k],Blk p 35 (eG b)] [] { w with drawn:=w.drawn+1 }:=⟨_,_,H.kept (Kp.drawn _ w _),(aV m0 (aV mm1 (bQ))),(bT)⟩
       refine qJ _ (.go 0 0 (.go 1 0 (.go 3 0 (.alt 2 (.go 4 1 (.go 5 1 (.go 6 2 (.go 7 2 .nil)))) 4 (.go 2 1 (.go 5 1 (.go 6 2 (.go 7 2 .nil)))))))) [6,7] qS (by kernel_rfl) (λ_ _ _ h=>False.elim h.2) hI<|have H:=H.kept (Kp.drawn _ w (w.drawn+1));?_;generalize ({ w with drawn:=w.drawn+1 }:WD)=w at H hI ⊢
       replace hI:∃ W,dN [Blk l 73 [f,k],Blk p 35 (eG b)] [] W:=⟨_,hI⟩
       obtain ⟨W0,hI⟩:=hI;refine ov E z (λw hW=>oR E z z (v:=pt l 0) (EU _ _)) λa E=>ol E m0 U70 z λa E=>ov E z (λw hW=>mW E z z (W7 (us:=(eG b)) mm1 z U35 z yQ w hW)) λa E=>rD z z ?_ ?_
       ·refine xc2 E z (cf_ 74) (iR H (s _ g) G) λb7 w H a E=>nt<|⟨sx H [1,2] z,cO z<|sD (e:=35) (d:=aR) (cs:=[.int .i64 b.Session,.int .i64 b.Num,.string b.Path,.bool b.Deep]) (xs:=[b]) E H (wn z) z z z (E.evs z) (by kernel_rfl) z (λok hr=>(Rows.single (d:=aR) (cs:=[.int .i64 b.Session,.int .i64 b.Num,.string b.Path,.bool b.Deep]) (x:=b) As)) λb8 w a H E=>nt<|⟨sx H [1,2] z,cO z<|eF (i:=0) E H (wn z) z z z z z z (lH m0) U70 CJ z I z λb9 w a H E=>nt<|⟨sx H [1,2] z,dF z<|pn 1 E z λa E=>dF z<|?_⟩⟩⟩
        obtain ⟨q54,c0,rfl⟩:=H.rowform (i:=0) z;refine ss 1 E H z CK z λw H=>nt<|fK<|?_;clear hI;exact aA<|have H:=H.drop 2;have H:=H.frs [0,2,2] z;X3 ⟨E.to z,H,(Y1 s),(t1 F),m⟩
       refine sD (e:=35) (d:=aR) (cs:=[.int .i64 b.Session,.int .i64 b.Num,.string b.Path,.bool b.Deep]) (xs:=[b]) E H (wn z) z z z (E.evs z) (by kernel_rfl) z (λok hr=>(Rows.single (d:=aR) (cs:=[.int .i64 b.Session,.int .i64 b.Num,.string b.Path,.bool b.Deep]) (x:=b) As)) λc1 w a H E=>nt<|⟨sx H [0,1] z,cO z<|xc2 E z (cf_ 74) (iR H (t1 (s _ g)) G) λc2 w H a E=>nt<|⟨sx H [1,2] z,cO z<|eF (i:=0) E H (wn z) z z z z z z (lH m0) U70 CJ z I z λc3 w a H E=>nt<|⟨sx H [1,2] z,dF z<|pn 1 E z λa E=>dF z<|?_⟩⟩⟩
       obtain ⟨q63,c4,rfl⟩:=H.rowform (i:=0) z;refine ss 1 E H z CK z λw H=>nt<|fK<|?_;clear hI;exact aA<|have H:=H.drop 2;have H:=H.frs [0,2,2] z;X3 ⟨E.to z,H,(Y1 s),(t1 F),m⟩
      ·clear E H m;rintro a w ⟨u,y,t,E,H,O,J,m⟩;unfold P5 at m;refine sq<|ln 0 [u,k] E H U73 z gT λa E=>?_;obtain ⟨q25,R,rfl⟩:=H.rowform (i:=2) z;obtain ⟨q27,S,rfl⟩:=H.slform J;refine ss 1 E H z gT z λw H=>pn 1 E z λa E=>wR<|A9 E z (qI (i:=1) (us:=[(.slice q25 y.length R),(.slice q27 o.length S)]) H z z z U73 z gT) (rvT z)<|have H:=H.thaw (i:=2) z;have H:=H.drs [0,0];?_;cases m;exact ⟨_,_,z,H.reads (aD m0 (aD (t1 J) (λr hr=>(t1 (O r hr)))))⟩

def vS(c:List aP)(d:List aE)(e:Int)(f:eZ)(g:dY):Option Mn:=
  (lW c d (⟨f,g⟩:aY) ([]:List bP) e).bind λb=>some (b.1,b.2.1,b.2.2)
def uT(c:List aP)(d:List aE)(x20:aI):Option Mn:=
  (J6 (⟨c,d⟩:aY) x20.Watch).bind λb=>vS c d b.2 b.1.Watches b.1.Sessions
theorem Jm{e:Nat}{c d B C D F f g i j k l n:VL}{o:List aP}{p:List aE}{x20:aI}(H:Sep w (Blk e 87 [f,g,i,j,c,d,k,l,n]::Fo) rs)(q:rSl aR c o ∈ rs)(s:rSl aJ d p ∈ rs){r:aW×eZ×dY}(m:uT o p x20=some r) :
    Cf 49 [pt e 0,.agg (aN x20 B C D F).toArray] w λv w'=>∃ Q R S T U V X L,.agg (aS r.1 Q R S T U V).toArray=v/\Sep w' (Blk e 87 [f,g,i,j,X,L,k,l,n]::Fo) (rSl aX Q r.1.Results::rSl aB R r.1.Store.Nodes::rSl aC S r.1.Store.Turns::rSl aQ T r.1.Events::rSl bB U r.1.Mounts::rSl (kI .i64) V r.1.Wounded::rSl aR X r.2.1::rSl aJ L r.2.2::rs):=by
 unfold uT at m;refine ent func49 z ntmps49 z z λa E=>sq<|bx E H z λG w a H E=>al2 E H z lB λM w a H E=>nt<|aL (λa w=>∃ I u x J y A b,Env 21 a [(0,pt e 0),(4,pt M 0),(5,pt I 0),(6,.int .i64 J)]/\Sep w (Blk e 87 [f,g,i,j,c,d,k,l,n]::Blk M 48 bH::Blk I 73 [u,x]::Fo) b/\(∀ r,r ∈ rs->r ∈ b)/\rSl aR u y ∈ b/\rSl aJ x A ∈ b/\vS o p J y A=some r) ?_ ?_
 ·refine bd m λb5 K m=>?_;have hI:dN [Blk G 37 (aN x20 B C D F),Blk e 87 [f,g,i,j,c,d,k,l,n]] [] { w with drawn:=w.drawn+1 }:=⟨_,_,H.kept (Kp.drawn _ w _),(aV mm1 (aV mm2 (bQ))),(bT)⟩
  refine qJ _ (.go 0 0 (.go 1 0 (.go 2 0 (.go 3 0 (.go 4 0 (.go 5 0 (.alt 6 (.go 7 0 (.go 8 0 (.go 9 0 (.go 10 1 (.go 11 1 (.go 12 2 .nil)))))) 10 (.go 6 1 (.go 7 0 (.go 8 0 (.go 9 0 (.go 11 1 (.go 12 2 .nil))))))))))))) [12] qS (by kernel_rfl) (λ_ _ _ h=>False.elim h.2) hI<|have H:=H.kept (Kp.drawn _ w (w.drawn+1));?_;generalize ({ w with drawn:=w.drawn+1 }:WD)=w at H hI ⊢
  replace hI:∃ W,dN [Blk G 37 (aN x20 B C D F),Blk e 87 [f,g,i,j,c,d,k,l,n]] [] W:=⟨_,hI⟩
  obtain ⟨W0,hI⟩:=hI;refine om E z λa E=>ov E z (λw hW=>(F2 E z z)) λa E=>ov E z (λw hW=>oR E z z (v:=pt e 4) (Xl _ _)) λa E=>ov E z (λw hW=>mW E z z (W7 (us:=[c,d]) mm1 z U73 z gT w hW)) λa E=>ov E z (λw hW=>oR E z z (v:=pt G 12) (Ml _ _)) λa E=>ov E z (λw hW=>mW E z z (W7 (us:=(eG x20.Watch)) m0 z U35 z yQ w hW)) λa E=>rD z z ?_ ?_
  ·refine xc2 E z (cf_ 117) (Oc (x1:=(⟨o,p⟩:aY)) H q s K)<|?_;rintro _ w ⟨b6,b7,rfl,H⟩ a E;refine nt<|⟨sx H [1,2] z,om E z λa E=>ox E z λa E=>ox E z λa E=>cO z<|al2 E H z Hl λb8 w a H E=>nt<|⟨sx H [2,3] z,cO z<|ss 0 E H z gT (kM H m0 mm1) λw H=>nt<|⟨sx H [2,3] z,dF z<|pn 1 E z λa E=>fK<|?_⟩⟩⟩
   clear hI;exact aA<|have H:=H.drop 2;have H:=H.frs [0,1,2] z;X7 ⟨E.to z,H,(Y2 Y0),m0,mm1,m⟩
  refine al2 E H z Hl λb9 w a H E=>nt<|⟨sx H [2,3] z,cO z<|xc2 E z (cf_ 117) (Oc (x1:=(⟨o,p⟩:aY)) H q s K)<|?_⟩
  rintro _ w ⟨c0,c1,rfl,H⟩ a E;refine nt<|⟨sx H [2,3] z,om E z λa E=>ox E z λa E=>ox E z λa E=>cO z<|ss 0 E H z gT (kM H m0 mm1) λw H=>nt<|⟨sx H [2,3] z,dF z<|pn 1 E z λa E=>fK<|?_⟩⟩
  clear hI;exact aA<|have H:=H.drop 2;have H:=H.frs [0,1,2] z;X7 ⟨E.to z,H,(Y2 Y0),m0,mm1,m⟩
 ·clear E H m;rintro a w ⟨I,u,x,J,y,A,b,E,H,t,N,O,m⟩;unfold vS at m;refine sp 1 E z λa E=>ln 2 [u,x] E H U73 z gT λa E=>pr 1 E z λa E=>have H:=H.nilSl aQ;bd m λY P m=>xc2 E z (cf_ 118) (D4 (x20:=(⟨y,A⟩:aY)) H (t1 (t _ q)) (t1 (t _ s)) (t1 N) (t1 O) m0 P)<|?_;rintro _ w ⟨Z,b0,b1,b2,b3,b4,c2,c3,rfl,H⟩ a E;refine ss 1 E H z bR (aZ H m0 mm1 mm2 mm3 mm4 mm5) λw H=>nt<|wR<|oB 1 (aS Y.1 Z b0 b1 b2 b3 b4) E H U48 z bR<|have H:=H.drs [1,1];?_;cases m;exact X8 ⟨z,H.rdx [0,1,2,3,4,5,6] z (aD (t1 mm6) (λr hr=>(t1 (t8 (t r hr)))))⟩

def mM(b:aW×eZ×dY)(c:kO):Option U1:=
  some (b.1,b.2.1,b.2.2,c)
def kA(b:aW×eZ×dY)(c:List lN)(x20:aI)(e:Bool):Option U1:=
  if e=true then ((mpt (kyI .i64) c x20.Id b.1).bind λd=>mM b d) else (mM b c)
def qF(c:List lN)(x20:aI)(d:List aP)(e:List aE)(f:Bool):Option U1:=
  if f=true then ((dK 2).bind λg=>some (g,d,e,c)) else ((uT d e x20).bind λb=>if (x20.Id != 0)=true then (if (b.1.Err != 131)=true then (kA b c x20 (b.1.Err != 132)) else (kA b c x20 false)) else (kA b c x20 false))
def uH(b:List lN)(x20:aI)(c:List aP)(d:List aE)(e:Bool)(f:Int)(g:Int)(i:Bool)(j:Int)(k:Z4)(l:dL)(m:dO)(n:B4)(o:Mm)(p:(List Int)):Option U1:=
  if e=true then (some ((⟨f,g,i,j,k,(⟨l,m⟩:aK),n,o,p⟩:aW),c,d,b)) else (if (x20.Id != 0)=true then (qF b x20 c d ((b.length:Int) == 512)) else (qF b x20 c d false))
def pT(d:List aP)(e:List aE)(c:List lN)(x20:aI):Option U1:=
  (Q5 (kyI .i64) c x20.Id vW).bind λb=>uH c x20 d e b.2 b.1.Err b.1.At b.1.Yes b.1.Epoch b.1.Results b.1.Store.Nodes b.1.Store.Turns b.1.Events b.1.Mounts b.1.Wounded
theorem Ic{o e:Nat}{P Q J L M N p q s t u x:VL}{c0:List aP}{c1:List aE}{y:List lN}{x20:aI}(H:Sep w (Blk o 87 [p,q,s,t,P,Q,.map (some e),u,x]::bX Tryz.prog 2 (kyI .i64) bC true e y::Fo) rs)(b8:rSl aR P c0 ∈ rs)(b9:rSl aJ Q c1 ∈ rs){r:aW×eZ×dY×kO}(m:pT c0 c1 y x20=some r) :
    Cf 54 [pt o 0,.agg (aN x20 J L M N).toArray,.func (.func 49) #[] #[]] w λv w'=>∃ f9 g0 g1 g2 g3 g4 g5 f3,.agg (aS r.1 f9 g0 g1 g2 g3 g4).toArray=v/\Sep w' (Blk o 87 [p,q,s,t,g5,f3,.map (some e),u,x]::bX Tryz.prog 2 (kyI .i64) bC true e r.2.2.2::Fo) (rSl aX f9 r.1.Results::rSl aB g0 r.1.Store.Nodes::rSl aC g1 r.1.Store.Turns::rSl aQ g2 r.1.Events::rSl bB g3 r.1.Mounts::rSl (kI .i64) g4 r.1.Wounded::rSl aR g5 r.2.1::rSl aJ f3 r.2.2.1::rs):=by
 unfold pT at m;refine ent func54 z ntmps54 z z λa E=>sq<|bx E H z λk w a H E=>al2 E H z lB λA w a H E=>nt<|wS<|aL (λa w=>∃ c9 Y Z b0 b1 b2 b3 d0 b4 b5 b6 b7 d1 d2 d3 d4 d5 d6 f,Env 59 a [(0,pt o 0),(2,.func (.func 49) #[] #[]),(4,pt k 0),(6,pt A 0),(7,pt c9 0),(8,.bool d0)]/\Sep w (Blk o 87 [p,q,s,t,P,Q,.map (some e),u,x]::Blk k 37 (aN x20 J L M N)::Blk A 48 bH::Blk c9 48 [.int .i64 b4,.int .i64 b5,.bool b6,.int .i64 b7,Y,Z,b0,b1,b2,b3]::bX Tryz.prog 2 (kyI .i64) bC true e y::Fo) f/\(∀ r,r ∈ rs->r ∈ f)/\rSl aX Y d1 ∈ f/\rSl aB Z d2 ∈ f/\rSl aC b0 d3 ∈ f/\rSl aQ b1 d4 ∈ f/\rSl bB b2 d5 ∈ f/\rSl (kI .i64) b3 d6 ∈ f/\uH y x20 c0 c1 d0 b4 b5 b6 b7 d1 d2 d3 d4 d5 d6=some r) ?_ ?_
 ·refine bd m λi3 c2 m=>?_;have hI:dN [Blk k 37 (aN x20 J L M N),Blk o 87 [p,q,s,t,P,Q,.map (some e),u,x]] [] { w with drawn:=w.drawn+1 }:=⟨_,_,H.kept (Kp.drawn _ w _),(aV mm1 (aV mm2 (bQ))),(bT)⟩
  refine qJ _ (.go 0 0 (.go 1 0 (.go 2 0 (.go 3 0 (.go 4 0 (.go 5 0 (.alt 6 (.go 7 0 (.go 8 0 (.go 9 0 (.go 10 1 (.go 11 1 (.go 12 2 .nil)))))) 10 (.go 6 1 (.go 7 0 (.go 8 0 (.go 9 0 (.go 11 1 (.go 12 2 .nil))))))))))))) [12] qS (by kernel_rfl) (λ_ _ _ h=>False.elim h.2) hI<|have H:=H.kept (Kp.drawn _ w (w.drawn+1));?_;generalize ({ w with drawn:=w.drawn+1 }:WD)=w at H hI ⊢
  replace hI:∃ W,dN [Blk k 37 (aN x20 J L M N),Blk o 87 [p,q,s,t,P,Q,.map (some e),u,x]] [] W:=⟨_,hI⟩
  obtain ⟨W0,hI⟩:=hI;refine om E z λa E=>ov E z (λw hW=>(F2 E z z)) λa E=>ov E z (λw hW=>oR E z z (v:=pt o 6) (Kj _ _)) λa E=>ol E mm1 U84 z λa E=>ov E z (λw hW=>oR E z z (v:=pt k 1) (Ki _ _)) λa E=>ol E m0 U2 z λa E=>rD z z ?_ ?_
  ·refine tD (i:=3) (K:=(kyI .i64)) E H (wn z) z z z z z z (fV U2) U84 Z3 Dl c2 λi4 a H E=>?_;obtain ⟨i5,i6,i7,i8,i9,j0,rfl,h⟩:=oU H;clear H;have H:=h;refine nt<|⟨sx H [1,2] z,om E z λa E=>ox E z λa E=>ox E z λa E=>cO z<|al2 E H z lB λj1 w a H E=>nt<|⟨sx H [2,3] z,cO z<|ss 0 E H z bR (aZ H mm5 mm4 mm3 mm2 mm1 m0) λw H=>nt<|⟨sx H [2,3] z,dF z<|pn 1 E z λa E=>fK<|?_⟩⟩⟩
   clear hI;exact aA<|have H:=H.frs [4,1,2,3,4] z;X19 ⟨E.to z,H,(Y7 Y0),mm5,mm4,mm3,mm2,mm1,m0,m⟩
  refine al2 E H z lB λj2 w a H E=>nt<|⟨sx H [2,3] z,cO z<|tD (i:=4) (K:=(kyI .i64)) E H (wn z) z z z z z z (fV U2) U84 Z3 Dl c2 λj3 a H E=>?_⟩
  obtain ⟨j4,j5,j6,j7,j8,j9,rfl,h⟩:=oU H;clear H;have H:=h;refine nt<|⟨sx H [2,3] z,om E z λa E=>ox E z λa E=>ox E z λa E=>cO z<|ss 0 E H z bR (aZ H mm5 mm4 mm3 mm2 mm1 m0) λw H=>nt<|⟨sx H [2,3] z,dF z<|pn 1 E z λa E=>fK<|?_⟩⟩
  clear hI;exact aA<|have H:=H.frs [4,1,2,3,4] z;X19 ⟨E.to z,H,(Y7 Y0),mm5,mm4,mm3,mm2,mm1,m0,m⟩
 ·clear E H m;rintro a w ⟨c9,Y,Z,b0,b1,b2,b3,d0,b4,b5,b6,b7,d1,d2,d3,d4,d5,d6,f,E,H,O,d7,d8,d9,e0,e1,e2,m⟩;unfold uH at m;refine sq<|pn 1 E z λa E=>wif E m z (λm=>?_) λm=>?_
  ·refine sq<|ln 3 [.int .i64 b4,.int .i64 b5,.bool b6,.int .i64 b7,Y,Z,b0,b1,b2,b3] E H U48 z bR λa E=>ss 2 E H z bR (aZ H d7 d8 d9 e0 e1 e2) λw H=>nt<|wR<|aH<|oB 2 [.int .i64 b4,.int .i64 b5,.bool b6,.int .i64 b7,Y,Z,b0,b1,b2,b3] E H U48 z bR<|have H:=H.drs [1,1,1];?_;cases m;exact X8 ⟨z,H.reads (aD d7 (aD d8 (aD d9 (aD e0 (aD e1 (aD e2 (aD (O _ b8) (aD (O _ b9) (O)))))))))⟩
  ·refine wK<|aA<|wS<|aL (λa w=>∃ e3,Jn 59 a w [(0,pt o 0),(2,.func (.func 49) #[] #[]),(4,pt k 0),(6,pt A 0),(32,.bool e3)] (Blk o 87 [p,q,s,t,P,Q,.map (some e),u,x]::Blk k 37 (aN x20 J L M N)::Blk A 48 bH::bX Tryz.prog 2 (kyI .i64) bC true e y::Fo) rs (qF y x20 c0 c1 e3=some r)) ?_ ?_
   ·refine wG<|pr 1 E z λa E=>lb2 E H 1 U2 z λa E=>pr 2 E z λa E=>cs m (λj m=>?_) λj m=>?_
    ·exact pk 3 E (kc 25 z j) z λa E=>gl 25 E H 0 j U84 z λa E=>gv 25 E j z (Bs (i:=4) E H z z z U84) λa E=>pk 2 E (kc 25 z j) z λa E=>nt<|have H:=H.drop 3;⟨_,_,E.to z,H,O,m⟩
    exact pk 7 E (kc 25 z j) z λa E=>nt<|have H:=H.drop 3;⟨_,_,E.to z,H,O,m⟩
   ·clear E H m;rintro a w ⟨e3,k0,E,H,g,m⟩;unfold qF at m;refine wif E m z (λm=>?_) λm=>?_
    ·refine sq<|bd m λg6 f4 m=>xc2 E z (cf_ 53) (eW H f4)<|?_;rintro _ w ⟨g7,g8,g9,i0,i1,i2,rfl,H⟩ a E;refine ss 2 E H z bR (aZ H m0 mm1 mm2 mm3 mm4 mm5) λw H=>nt<|wR<|aH<|oB 2 (aS g6 g7 g8 g9 i0 i1 i2) E H U48 z bR<|have H:=H.drs [1,1];?_;cases m;exact X8 ⟨z,H.rdx [0,1,2,3,4,5] z (aD (t6 (g _ b8)) (aD (t6 (g _ b9)) (λr hr=>(t6 (g r hr)))))⟩
    ·refine wK<|aA<|sp 2 E z λa E=>ln 1 (aN x20 J L M N) E H U37 z xZ λa E=>bd m λb f5 m=>bI E (wn z) z z (bO E z z z ((cf_ 49) _)) (Jm H (g _ b8) (g _ b9) f5)<|?_;rintro _ w ⟨B,C,D,F,G,I,c3,c4,rfl,H⟩ a E;refine al2 E H z lB λc5 w a H E=>ss 0 E H z bR (aZ H m0 mm1 mm2 mm3 mm4 mm5) λw H=>nt<|aL (λa w=>∃ e4 d,Env 59 a [(6,pt A 0),(9,pt c5 0)]/\Sep w (Blk A 48 bH::Blk c5 48 (aS b.1 B C D F G I)::Blk o 87 [p,q,s,t,c3,c4,.map (some e),u,x]::bX Tryz.prog 2 (kyI .i64) bC true e e4::Fo) d/\(∀ r,r ∈ rs->r ∈ d)/\rSl aX B b.1.Results ∈ d/\rSl aB C b.1.Store.Nodes ∈ d/\rSl aC D b.1.Store.Turns ∈ d/\rSl aQ F b.1.Events ∈ d/\rSl bB G b.1.Mounts ∈ d/\rSl (kI .i64) I b.1.Wounded ∈ d/\rSl aR c3 b.2.1 ∈ d/\rSl aJ c4 b.2.2 ∈ d/\mM b e4=some r) ?_ ?_
     ·refine aL (λa w=>∃ e5 c,Env 59 a [(0,pt o 0),(4,pt k 0),(6,pt A 0),(9,pt c5 0),(50,.bool e5)]/\Sep w (Blk o 87 [p,q,s,t,c3,c4,.map (some e),u,x]::Blk k 37 (aN x20 J L M N)::Blk A 48 bH::Blk c5 48 (aS b.1 B C D F G I)::bX Tryz.prog 2 (kyI .i64) bC true e y::Fo) c/\(∀ r,r ∈ rs->r ∈ c)/\rSl aR c3 b.2.1 ∈ c/\rSl aJ c4 b.2.2 ∈ c/\rSl aX B b.1.Results ∈ c/\rSl aB C b.1.Store.Nodes ∈ c/\rSl aC D b.1.Store.Turns ∈ c/\rSl aQ F b.1.Events ∈ c/\rSl bB G b.1.Mounts ∈ c/\rSl (kI .i64) I b.1.Wounded ∈ c/\kA b y x20 e5=some r) ?_ ?_
      ·refine wG<|pr 1 E z λa E=>lb2 E H 2 U2 z λa E=>pr 2 E z λa E=>cs m (λl m=>?_) λl m=>?_
       ·refine pk 1 E (kc 41 z l) z λa E=>gl 41 E H 0 l U41 z λa E=>pk 3 E (kc 41 z l) z λa E=>cs m (λn m=>?_) λn m=>?_
        ·exact pk 1 E (kc 46 z n) z λa E=>gl 46 E H 0 n U41 z λa E=>pk 2 E (kc 46 z n) z λa E=>nt<|have H:=H.frs [4,1,4,4,4] z;⟨_,_,E.to z,H,(Y8 g),mm6,(t1 mm6),m0,mm1,mm2,mm3,mm4,mm5,m⟩
        exact pk 4 E (kc 46 z n) z λa E=>nt<|have H:=H.frs [4,1,4,4,4] z;⟨_,_,E.to z,H,(Y8 g),mm6,(t1 mm6),m0,mm1,mm2,mm3,mm4,mm5,m⟩
       exact pk 9 E (kc 41 z l) z λa E=>nt<|have H:=H.frs [4,1,4,4,4] z;⟨_,_,E.to z,H,(Y8 g),mm6,(t1 mm6),m0,mm1,mm2,mm3,mm4,mm5,m⟩
      clear E H m;rintro a w ⟨e5,c,E,H,c6,c7,c8,R,S,T,U,V,X,m⟩;unfold kA at m;refine wif E m z (λm=>?_) λm=>?_
      ·refine dz [0,0,0,0,0,0,0,2] [0,1,3] H λw W0 hI H=>fn 3 E z λa E=>fb2 E m0 U84 z λa E=>fn 1 E z λa E=>fb2 E mm1 U2 z λa E=>fbn E (aS b.1 B C D F G I) z (wn z) z z z z mm2 z U48 z bR λa E=>bK z<|bd m λk1 f2 m=>Ar (i:=4) (K:=(kyI .i64)) (v:=b.1) (cs:=[.int .i64 b.1.Err,.int .i64 b.1.At,.bool b.1.Yes,.int .i64 b.1.Epoch,B,C,D,F,G,I]) E H (wn z) z z z z z z (fV U2) U84 f2 (λok hr=>(tE (hr _ R) (hr _ S) (hr _ T) (hr _ U) (hr _ V) (hr _ X))) λw H=>nt<|bG<|?_;clear hI;exact aA<|have H:=H.drop 1;have H:=H.frs [3,1,3,3] z;⟨_,_,E.to z,H,c6,R,S,T,U,V,X,c7,c8,m⟩
      exact wK<|aA<|have H:=H.drop 1;have H:=H.frs [3,1,3,3] z;⟨_,_,E.to z,H,c6,R,S,T,U,V,X,c7,c8,m⟩
     ·clear E H m;rintro a w ⟨e4,d,E,H,f6,e6,e7,e8,e9,f0,f1,f7,f8,m⟩;unfold mM at m;refine sq<|ln 1 (aS b.1 B C D F G I) E H U48 z bR λa E=>ss 0 E H z bR (aZ H e6 e7 e8 e9 f0 f1) λw H=>nt<|wR<|oB 0 (aS b.1 B C D F G I) E H U48 z bR<|have H:=H.drs [0,0];?_;cases m;exact X8 ⟨z,H.reads (aD e6 (aD e7 (aD e8 (aD e9 (aD f0 (aD f1 (aD f7 (aD f8 (f6)))))))))⟩

def xG(c:List cJ):Nat->cR->Int->Option cR
  | 0,_,_=>none
  | f+1,b,d=>
    if (decide (d < (c.length:Int)))=true then ((idx c d).bind λe=>(ck (b.length+([e.Part.Dir]:List BY).length <= LIM)).bind λg=>xG c f (b ++ ([e.Part.Dir]:List BY)) (IntKind.i64.wrap (d+1))) else ((ck (b.length <= 1000000)).bind λi=>(ck ((wY b).length <= 1000000)).bind λj=>some (tB (wY b)))
def D9(b:List cJ):Option cR:=
  xG b (((b.length:Int) - 0:Int).toNat+1) [] 0
theorem Le{k:VL}{c:List cJ}(H:Sep w (Fo) rs)(j:rSl bN k c ∈ rs){r:cR}(m:D9 c=some r) :
    Cf 96 [k] w λv w'=>∃ u,u=v/\Sep w' (Row 9 kS u r::Fo) (rs):=by
 unfold D9 at m;refine ent func96 z ntmps96 z z λa E=>sp 1 E z λa E=>nx<|pn 1 E z λa E=>wS<|sp 1 E z λa E=>lS E H j U26 z λa E=>pn 1 E z λa E=>wB<|bF (λb a w=>∃ l n o,Jn 23 a w [(3,l),(6,k),(7,.int .i64 (c.length:Int)),(8,.int .i64 o)] (Row 9 kS l n::Fo) rs (xG c b n o=some r)) (((c.length:Int) - 0:Int).toNat+1) ?_ ?_
 ·exact have H:=H.nilRow 9 kS;X4 ⟨E.to z,H,Y0,m⟩
 ·clear E H m;rintro b a w ⟨l,n,o,y,E,H,f,m⟩;cases b with
  | zero=>exact (bD m z).elim
  | succ b=>
   unfold xG at m;refine sq<|pn 1 E z λa E=>wS<|wif E m z (λm=>?_) λm=>?_
   ·exact wK<|aA<|wS<|wB<|sq<|bd m λg p m=>dC E H (wn z) z z z z z (f _ j) U26 Z2 p λq11 a H E=>ldf F6 E H z z z z z m0 U99 z Z2 λa E=>al2 E H z CG λA w a H E=>ss 0 E H z Z2 z λw H=>nt<|wG<|pr 3 E z λa E=>lb2 E H 0 U9 z λa E=>sD (e:=9) (d:=kS) (cs:=[.string g.Part.Dir]) (xs:=[g.Part.Dir]) E H (wn z) z z z (E.evs z) (by kernel_rfl) z (λok hr=>(Rows.single (d:=kS) (cs:=[.string g.Part.Dir]) (x:=g.Part.Dir) z)) λB w a H E=>bk m λq m=>eF (i:=1) E H (wn z) z z z z z z (lH m0) U33 Kh z q z λC w a H E=>pr 1 E z λa E=>wN<|bM<|aA<|wG<|pn 2 E z λa E=>have H:=H.drop 0;⟨b,nL b,X4 ⟨E.to z,H,(Y2 f),m⟩⟩
   ·refine wX<|aT<|aT<|cL<|aA<|sp 1 E z λa E=>bk m λs m=>xc2 E z (cf_ 151) (MF (ix:=0) H z s)<|?_;rintro _ w ⟨rfl,H⟩ a E;refine xp 1 E z λa E=>bk m λt m=>xc2 E z (cf_ 152) (MG (ix:=0) H z t) λD w H a E=>pn 1 E z λa E=>wR<|o1 E z<|?_;cases m;exact ⟨_,z,H.reads f⟩

def J2(b:List aF)(d:BY):Option Int:=
  (mT b d).bind λc=>if (decide (c ≥ 0))=true then ((idx b c).bind λe=>some (e.State)) else (some (3))
theorem Vk{c:VL}{d:List aF}{e:BY}(H:Sep w (Fo) rs)(b:rSl aO c d ∈ rs){r:Int}(m:J2 d e=some r) :
    Cf 27 [c,.string e] w λv w'=>.int .i64 r=v/\Sep w' (Fo) (rs):=by
 unfold J2 at m;refine ent func27 z ntmps27 z z λa E=>sq<|pn 1 E z λa E=>wS<|sp 2 E z λa E=>bd m λj f m=>xk2 E z (cf_ 24) (F9 H b f) λw H a E=>pr 1 E z λa E=>nx<|pn 2 E z λa E=>wif E m z (λm=>?_) λm=>?_
 ·refine sp 2 E z λa E=>bd m λi g m=>dC E H (wn z) z z z z z b U32 lA g λq9 a H E=>have H:=H.derive1 m0 (rAt (kI .i64) (q9.add 2) i.State) (λok h=>Y9 h);pr 1 E z λa E=>sv2 E z (oO E H z z m0 U3 z) λa E=>pn 1 E z λa E=>wR<|aH<|o1 E z<|?_;cases m;exact ⟨z,H.reads (Y2 Y0)⟩
 ·refine wK<|aA<|sq<|pn 1 E z λa E=>wR<|o1 E z<|?_;cases m;exact ⟨z,H.reads Y0⟩

def mN(d:BY)(e:List aF)(b:Int):Option Bool:=
  (J2 e d).bind λc=>some (c == b)
theorem Dy{t:BY}{o d b:Nat}{p e f g i j k l n:VL}{u:List aF}{c:Int}(H:Sep w (Blk o 28 [pt d 0]::Blk d 87 [e,f,p,g,i,j,k,l,n]::Blk b 3 [.int .i64 c]::Fo) rs)(q:rSl aO p u ∈ rs){r:Bool}(m:mN t u c=some r) :
    Cf 157 [.string t,pt o 0,pt b 0] w λv w'=>.bool r=v/\Sep w' (Blk o 28 [pt d 0]::Blk d 87 [e,f,p,g,i,j,k,l,n]::Blk b 3 [.int .i64 c]::Fo) (rs):=by
 unfold mN at m;refine ent func157 z ntmps157 z z λa E=>sq<|pn 1 E z λa E=>wS<|dw [(0,0),(1,0),(2,0),(3,0),(4,0),(6,0),(5,1),(7,0),(8,2)] [0,1,2] [] H (by kernel_rfl) (λ_ _ _ h=>False.elim h.2) λw W0 hI H=>fb2 E m0 U28 z λa E=>fn 2 E z λa E=>fb2 E mm1 U32 z λa E=>fn 1 E z λa E=>fb2 E mm2 U3 z λa E=>bW z<|bd m λx s m=>xk2 E z (cf_ 27) (Vk H q s) λw H a E=>nt<|⟨sx H [0,1,2] z,fn 1 E z λa E=>bK z<|pn 1 E z λa E=>bG<|?_⟩
 clear hI;refine aA<|wR<|o1 E z<|?_;cases m;exact ⟨z,H.reads Y0⟩

def fF(e:List BY)(c:List aF)(d:Int):Nat->Int->Option Int
  | 0,_=>none
  | i+1,b=>
    if (decide (b < (e.length:Int)))=true then ((idx e b).bind λf=>(mN f c d).bind λg=>if g=true then (some (b)) else (fF e c d i (IntKind.i64.wrap (b+1)))) else (some ((-1)))
def lO(b:List BY)(c:List aF)(d:Int):Option Int:=
  fF b c d (((b.length:Int) - 0:Int).toNat+1) 0
theorem Q8{A y g i j k l n o p:VL}{q:List BY}{s e c:Nat}{t:List aF}{d:Int}(H:Sep w (Blk s 28 [pt e 0]::Blk e 87 [g,i,y,j,k,l,n,o,p]::Blk c 3 [.int .i64 d]::Fo) rs)(u:rSl kS A q ∈ rs)(B:rSl aO y t ∈ rs){r:Int}(m:lO q t d=some r) :
    Cf 153 [A,.func (.func 157) #[] #[pt s 0,pt c 0]] w λv w'=>.int .i64 r=v/\Sep w' (Blk s 28 [pt e 0]::Blk e 87 [g,i,y,j,k,l,n,o,p]::Blk c 3 [.int .i64 d]::Fo) (rs):=by
 unfold lO at m;refine ent func153 z ntmps153 z z λa E=>sq<|pn 1 E z λa E=>wS<|sp 1 E z λa E=>lS E H u U33 z λa E=>pr 1 E z λa E=>nt<|wB<|bF (λf a w=>∃ x,Jn 19 a w [(0,A),(1,.func (.func 157) #[] #[pt s 0,pt c 0]),(7,.int .i64 (q.length:Int)),(8,.int .i64 x)] (Blk s 28 [pt e 0]::Blk c 3 [.int .i64 d]::Blk e 87 [g,i,y,j,k,l,n,o,p]::Fo) rs (fF q t d f x=some r)) (((q.length:Int) - 0:Int).toNat+1) ?_ ?_
 ·exact have H:=H.frs [1,2,2] z;⟨_,_,E.to z,H,Y0,m⟩
 ·clear E H m;rintro f a w ⟨x,F,E,H,b,m⟩;cases f with
  | zero=>exact (bD m z).elim
  | succ f=>
   unfold fF at m;refine sq<|pn 1 E z λa E=>wS<|wif E m z (λm=>?_) λm=>?_
   ·refine wK<|aA<|wS<|wB<|sp 2 E z λa E=>xp 3 E z λa E=>bd m λG C m=>dC E H (wn z) z z z z z (b _ u) U33 sz9 C λq40 a H E=>sv2 E z (oO E H z z m0 U9 z) λa E=>have H:=H.frs [1,2,2] z;bd m λI D m=>bI E (wn z) z z (bO E z z z ((cf_ 157) _)) (Dy H (t1 (b _ B)) D)<|?_;rintro _ w ⟨rfl,H⟩ a E;refine nt<|wif E m z (λm=>?_) λm=>?_
    ·refine sq<|pn 2 E z λa E=>wR<|bJ<|aH<|aH<|bJ<|aH<|o1 E z<|?_;cases m;exact ⟨z,H.reads (Y1 b)⟩
    exact wK<|bM<|aA<|wG<|pn 2 E z λa E=>have H:=H.frs [1,2,2] z;⟨f,nL f,_,_,E.to z,H,(Y1 b),m⟩
   ·refine wX<|aT<|aT<|cL<|aA<|sq<|pn 1 E z λa E=>wR<|o1 E z<|have H:=H.frs [1,2,2] z;?_;cases m;exact ⟨z,H.reads b⟩

def jX(e:List BY)(b:List aF)(c:Int):Option Bool:=
  (lO e b c).bind λd=>some (decide (d ≥ 0))
theorem L5{x p e f g i j k l n:VL}{y:List BY}{q d b:Nat}{o:List aF}{c:Int}(H:Sep w (Blk q 28 [pt d 0]::Blk d 87 [e,f,p,g,i,j,k,l,n]::Blk b 3 [.int .i64 c]::Fo) rs)(s:rSl kS x y ∈ rs)(t:rSl aO p o ∈ rs){r:Bool}(m:jX y o c=some r) :
    Cf 97 [x,.func (.func 157) #[] #[pt q 0,pt b 0]] w λv w'=>.bool r=v/\Sep w' (Blk q 28 [pt d 0]::Blk d 87 [e,f,p,g,i,j,k,l,n]::Blk b 3 [.int .i64 c]::Fo) (rs):=by
 unfold jX at m;refine ent func97 z ntmps97 z z λa E=>sp 1 E z λa E=>xp 2 E z λa E=>bd m λA u m=>xk2 E z (cf_ 153) (Q8 H s t u) λw H a E=>pn 2 E z λa E=>wR<|o1 E z<|?_;cases m;exact ⟨z,H.reads Y0⟩

def oK(x1:Int)(d:List BY)(b:List aF):Option Bool:=
  (jX d b x1).bind λc=>some (c)
theorem V9{x1:Int}{o p c:Nat}{q b d e f g i j k l:VL}{x:List BY}{n:List aF}(H:Sep w (Blk o 33 [q]::Blk p 28 [pt c 0]::Blk c 87 [d,e,b,f,g,i,j,k,l]::Fo) rs)(s:rSl kS q x ∈ rs)(t:rSl aO b n ∈ rs){r:Bool}(m:oK x1 x n=some r) :
    Cf 156 [.int .i64 x1,pt o 0,pt p 0] w λv w'=>.bool r=v/\Sep w' (Blk o 33 [q]::Blk p 28 [pt c 0]::Blk c 87 [d,e,b,f,g,i,j,k,l]::Fo) (rs):=by
 unfold oK at m;refine ent func156 z ntmps156 z z λa E=>sq<|bx E H z λy w a H E=>pr 1 E z λa E=>nx<|lb2 E H 1 U33 z λa E=>sv2 E z (nR E z z z) λa E=>have H:=H.frs [1,1,3,3] z;bd m λA u m=>xk2 E z (cf_ 97) (L5 H s t u) λw H a E=>pn 1 E z λa E=>wR<|o1 E z<|have H:=H.drop 2;have H:=H.frs [1,1,2] z;?_;cases m;exact ⟨z,H.reads Y0⟩

def qZ(c:List aF)(b:List BY):Option Int:=
  (oK 3 b c).bind λd=>if d=true then (some (132)) else ((oK 2 b c).bind λe=>if e=true then (some (131)) else (some (0)))
theorem Ak{p:Nat}{q d e f g i j k l n:VL}{u:List aF}{o:List BY}(H:Sep w (Blk p 87 [e,f,q,g,i,j,k,l,n]::Fo) rs)(c:rSl aO q u ∈ rs)(b:rSl kS d o ∈ rs){r:Int}(m:qZ u o=some r) :
    Cf 100 [pt p 0,d] w λv w'=>.int .i64 r=v/\Sep w' (Blk p 87 [e,f,q,g,i,j,k,l,n]::Fo) (rs):=by
 unfold qZ at m;refine ent func100 z ntmps100 z z λa E=>sq<|bx E H z λx w a H E=>?_;obtain ⟨q34,y,rfl⟩:=H.slform b;refine bx E H z λA w a H E=>pr 1 E z λa E=>nx<|sv2 E z (nR E z z z) λa E=>pn 1 E z λa E=>wS<|wB<|sq<|pr 1 E z λa E=>bd m λB s m=>bI E (wn z) z z (bO E z z z ((cf_ 156) _)) (V9 H b c s)<|?_;rintro _ w ⟨rfl,H⟩ a E;refine pn 1 E z λa E=>wif E m z (λm=>?_) λm=>?_
 ·refine sq<|pn 1 E z λa E=>wR<|bJ<|aH<|o1 E z<|have H:=H.drs [0,0];?_;cases m;exact ⟨z,H.reads Y0⟩
 ·refine sp 1 E z λa E=>bd m λC t m=>bI E (wn z) z z (bO E z z z ((cf_ 156) _)) (V9 H b c t)<|?_;rintro _ w ⟨rfl,H⟩ a E;refine pn 1 E z λa E=>wif E m z (λm=>?_) λm=>?_
  ·refine sq<|pn 1 E z λa E=>wR<|bJ<|aH<|o1 E z<|have H:=H.drs [0,0];?_;cases m;exact ⟨z,H.reads Y0⟩
  ·refine wK<|bM<|aA<|sq<|pn 1 E z λa E=>wR<|o1 E z<|have H:=H.drs [0,0];?_;cases m;exact ⟨z,H.reads Y0⟩

def yJ(x1:aU)(b:BY):Option Bool:=
  some (sEq x1.Dir b)
theorem Tq{x1:aU}{b:Nat}{c:BY}(H:Sep w (Blk b 9 [.string c]::Fo) rs){r:Bool}(m:yJ x1 c=some r) :
    Cf 155 [.agg (vK x1).toArray,pt b 0] w λv w'=>.bool r=v/\Sep w' (Blk b 9 [.string c]::Fo) (rs):=by
 unfold yJ at m;refine ent func155 z ntmps155 z z λa E=>sq<|bx E H z λd w a H E=>pr 1 E z λa E=>xp 1 E z λa E=>lb2 E H 0 U9 z λa E=>lb2 E H 1 U9 z λa E=>pr 2 E z λa E=>nt<|wR<|o1 E z<|have H:=H.drop 0;?_;cases m;exact ⟨z,H.reads Y0⟩

def eT(c:List aU)(d:BY):Nat->Int->Option Int
  | 0,_=>none
  | f+1,b=>
    if (decide (b < (c.length:Int)))=true then ((idx c b).bind λg=>(yJ g d).bind λe=>if e=true then (some (b)) else (eT c d f (IntKind.i64.wrap (b+1)))) else (some ((-1)))
def kY(b:List aU)(c:BY):Option Int:=
  eT b c (((b.length:Int) - 0:Int).toNat+1) 0
theorem N1{i:VL}{d:List aU}{e:Nat}{f:BY}(H:Sep w (Blk e 9 [.string f]::Fo) rs)(g:rSl bA i d ∈ rs){r:Int}(m:kY d f=some r) :
    Cf 154 [i,.func (.func 155) #[] #[pt e 0]] w λv w'=>.int .i64 r=v/\Sep w' (Blk e 9 [.string f]::Fo) (rs):=by
 unfold kY at m;refine ent func154 z ntmps154 z z λa E=>sq<|pn 1 E z λa E=>wS<|sp 1 E z λa E=>lS E H g U58 z λa E=>pr 1 E z λa E=>nt<|wB<|bF (λc a w=>∃ j,Jn 19 a w [(0,i),(1,.func (.func 155) #[] #[pt e 0]),(7,.int .i64 (d.length:Int)),(8,.int .i64 j)] (Blk e 9 [.string f]::Fo) rs (eT d f c j=some r)) (((d.length:Int) - 0:Int).toNat+1) ?_ ?_
 ·exact ⟨_,_,E.to z,H,Y0,m⟩
 ·clear E H m;rintro c a w ⟨j,n,E,H,b,m⟩;cases c with
  | zero=>exact (bD m z).elim
  | succ c=>
   unfold eT at m;refine sq<|pn 1 E z λa E=>wS<|wif E m z (λm=>?_) λm=>?_
   ·refine wK<|aA<|wS<|wB<|sp 2 E z λa E=>xp 3 E z λa E=>bd m λp k m=>dC E H (wn z) z z z z z (b _ g) U58 rG k λq11 a H E=>ldf gN E H z z z z z m0 U78 z rG λa E=>bd m λo l m=>bI E (wn z) z z (bO E z z z ((cf_ 155) _)) (Tq H l)<|?_;rintro _ w ⟨rfl,H⟩ a E;refine nt<|wif E m z (λm=>?_) λm=>?_
    ·refine sq<|pn 2 E z λa E=>wR<|bJ<|aH<|aH<|bJ<|aH<|o1 E z<|?_;cases m;exact ⟨z,H.reads (Y1 b)⟩
    exact wK<|bM<|aA<|wG<|pn 2 E z λa E=>⟨c,nL c,_,_,E.to z,H,(Y1 b),m⟩
   ·refine wX<|aT<|aT<|cL<|aA<|sq<|pn 1 E z λa E=>wR<|o1 E z<|?_;cases m;exact ⟨z,H.reads b⟩

def N2(b:List aU)(d:BY):Option zT:=
  (kY b d).bind λc=>if (decide (c < 0))=true then (some (0,false)) else ((idx b c).bind λe=>some (e.Txn,true))
theorem Xx{c:VL}{d:List aU}{e:BY}(H:Sep w (Fo) rs)(b:rSl bA c d ∈ rs){r:Int×Bool}(m:N2 d e=some r) :
    Cf 99 [c,.string e] w λv w'=>.tuple #[.int .i64 r.1,.bool r.2]=v/\Sep w' (Fo) (rs):=by
 unfold N2 at m;refine ent func99 z ntmps99 z z λa E=>sq<|bx E H z λj w a H E=>pr 2 E z λa E=>xp 1 E z λa E=>sv2 E z (nR E z z z) λa E=>bd m λk f m=>xk2 E z (cf_ 154) (N1 H b f) λw H a E=>pn 1 E z λa E=>wS<|sq<|pn 2 E z λa E=>wif E m z (λm=>?_) λm=>?_
 ·refine sq<|pn 2 E z λa E=>wR<|aH<|hX E z z z<|have H:=H.drop 0;?_;cases m;exact ⟨z,H.reads Y0⟩
 ·refine wK<|aA<|sp 2 E z λa E=>bd m λi g m=>dC E H (wn z) z z z z z b U58 rG g λq10 a H E=>have H:=H.derive1 m0 (rAt (kI .i64) (q10.add 1) i.Txn) (λok h=>Sy h);pr 1 E z λa E=>sv2 E z (oO E H z z m0 U2 z) λa E=>pn 2 E z λa E=>wR<|hX E z z z<|have H:=H.drop 0;?_;cases m;exact ⟨z,H.reads (Y2 Y0)⟩

def rA(d:BY)(b:List aU):Option Bool:=
  (N2 b d).bind λc=>some (c.2)
theorem Jo{s:BY}{o c:Nat}{b d e f g i j k l:VL}{n:List aU}(H:Sep w (Blk o 28 [pt c 0]::Blk c 87 [d,e,f,b,g,i,j,k,l]::Fo) rs)(p:rSl bA b n ∈ rs){r:Bool}(m:rA s n=some r) :
    Cf 98 [.string s,pt o 0] w λv w'=>.bool r=v/\Sep w' (Blk o 28 [pt c 0]::Blk c 87 [d,e,f,b,g,i,j,k,l]::Fo) (rs):=by
 unfold rA at m;refine ent func98 z ntmps98 z z λa E=>sp 1 E z λa E=>nx<|lb2 E H 0 U28 z λa E=>pr 2 E z λa E=>lb2 E H 1 U58 z λa E=>pr 1 E z λa E=>bd m λt q m=>xk2 E z (cf_ 99) (Xx H p q) λw H a E=>pr 5 E z λa E=>nx<|pn 2 E z λa E=>wR<|o1 E z<|?_;cases m;exact ⟨z,H.reads Y0⟩

def fT(d:List BY)(c:List aU):Nat->Int->Option Int
  | 0,_=>none
  | g+1,b=>
    if (decide (b < (d.length:Int)))=true then ((idx d b).bind λe=>(rA e c).bind λf=>if f=true then (some (b)) else (fT d c g (IntKind.i64.wrap (b+1)))) else (some ((-1)))
def mU(b:List BY)(c:List aU):Option Int:=
  fT b c (((b.length:Int) - 0:Int).toNat+1) 0
theorem V4{l f n o p q s t u x:VL}{c:List BY}{y g:Nat}{A:List aU}(H:Sep w (Row 9 kS l c::Blk y 28 [pt g 0]::Blk g 87 [n,o,p,f,q,s,t,u,x]::Fo) rs)(D:rSl bA f A ∈ rs){r:Int}(m:mU c A=some r) :
    Cf 153 [l,.func (.func 98) #[] #[pt y 0]] w λv w'=>.int .i64 r=v/\Sep w' (Blk y 28 [pt g 0]::Blk g 87 [n,o,p,f,q,s,t,u,x]::Row 9 kS l c::Fo) (rs):=by
 unfold mU at m;refine ent func153 z ntmps153 z z λa E=>sq<|pn 1 E z λa E=>wS<|sp 1 E z λa E=>sv2 E z (lQ (i:=0) E H z z z U33) λa E=>pr 1 E z λa E=>nt<|wB<|bF (λj a w=>∃ B,Jn 19 a w [(0,l),(1,.func (.func 98) #[] #[pt y 0]),(7,.int .i64 (c.length:Int)),(8,.int .i64 B)] (Row 9 kS l c::Blk y 28 [pt g 0]::Blk g 87 [n,o,p,f,q,s,t,u,x]::Fo) rs (fT c A j B=some r)) (((c.length:Int) - 0:Int).toNat+1) ?_ ?_
 ·exact ⟨_,_,E.to z,H,Y0,m⟩
 ·clear E H m;rintro j a w ⟨B,G,E,H,b,m⟩;cases j with
  | zero=>exact (bD m z).elim
  | succ j=>
   unfold fT at m;refine sq<|pn 1 E z λa E=>wS<|wif E m z (λm=>?_) λm=>?_
   ·refine wK<|aA<|wS<|wB<|sp 2 E z λa E=>xp 3 E z λa E=>bd m λI e m=>?_;obtain ⟨J,K,C⟩:=H.rowformNE (i:=0) z e;refine sv2 E z (dP (d:=kS) E C z z z z U33 sz9 e) λa E=>sv2 E z (uX (d:=kS) (i:=0) (k:=0) E H KV C z z z e z U9 z) λa E=>have H:=H.frs [0,2,2] z;bd m λL F m=>bI E (wn z) z z (bO E z z z ((cf_ 98) _)) (Jo H (b _ D) F)<|?_;rintro _ w ⟨rfl,H⟩ a E;refine nt<|wif E m z (λm=>?_) λm=>?_
    ·refine sq<|pn 2 E z λa E=>wR<|bJ<|aH<|aH<|bJ<|aH<|o1 E z<|?_;cases m;exact ⟨z,H.reads b⟩
    exact wK<|bM<|aA<|wG<|pn 2 E z λa E=>have H:=H.frs [1,1,2] z;⟨j,nL j,_,_,E.to z,H,b,m⟩
   ·refine wX<|aT<|aT<|cL<|aA<|sq<|pn 1 E z λa E=>wR<|o1 E z<|have H:=H.frs [0,2,2] z;?_;cases m;exact ⟨z,H.reads b⟩

def hG(d:List BY)(b:List aU):Option Bool:=
  (mU d b).bind λc=>some (decide (c ≥ 0))
theorem P6{o b d e f g i j k l:VL}{p:List BY}{q c:Nat}{n:List aU}(H:Sep w (Row 9 kS o p::Blk q 28 [pt c 0]::Blk c 87 [d,e,f,b,g,i,j,k,l]::Fo) rs)(s:rSl bA b n ∈ rs){r:Bool}(m:hG p n=some r) :
    Cf 97 [o,.func (.func 98) #[] #[pt q 0]] w λv w'=>.bool r=v/\Sep w' (Blk q 28 [pt c 0]::Blk c 87 [d,e,f,b,g,i,j,k,l]::Row 9 kS o p::Fo) (rs):=by
 unfold hG at m;refine ent func97 z ntmps97 z z λa E=>sp 1 E z λa E=>xp 2 E z λa E=>bd m λu t m=>xk2 E z (cf_ 153) (V4 H s t) λw H a E=>pn 2 E z λa E=>wR<|o1 E z<|?_;cases m;exact ⟨z,H.reads Y0⟩

def tQ(f:List aG)(g:List aM)(c:List aP)(d:List aE)(x20:aI)(e:Int):Option CP:=
  if (e != 0)=true then ((dK e).bind λi=>some (i,f,g,c,d)) else ((tX f g c d x20.Pieces).bind λb=>some (b.1,b.2.1,b.2.2.1,b.2.2.2.1,b.2.2.2.2))
def tR(d:List aG)(e:List aM)(b:List aP)(c:List aE)(x20:aI)(f:Int)(g:Bool):Option CP:=
  if g=true then (tQ d e b c x20 131) else (tQ d e b c x20 f)
def xX(f:List aG)(g:List aM)(j:List aF)(k:List aU)(c:List aP)(d:List aE)(x20:aI):Option CP:=
  (D9 x20.Pieces).bind λe=>(hG e k).bind λi=>(qZ j e).bind λb=>if (b == 0)=true then (tR f g c d x20 b i) else (tR f g c d x20 b false)
theorem Nq{c:Nat}{L M t u e f g x y A j k l:VL}{N:List aG}{O:List aM}{b1:List aF}{b2:List aU}{n:List aP}{o:List aE}{x20:aI}(H:Sep w (Blk c 87 [L,M,t,u,e,f,j,k,l]::Fo) rs)(B:rSl aB L N ∈ rs)(C:rSl aC M O ∈ rs)(T:rSl aO t b1 ∈ rs)(U:rSl bA u b2 ∈ rs)(D:rSl aR e n ∈ rs)(F:rSl aJ f o ∈ rs)(G:rSl bN g x20.Pieces ∈ rs)(V:U5 Tryz.prog ∈ rs){r:aW×dL×dO×eZ×dY}(m:xX N O b1 b2 n o x20=some r) :
    Cf 42 [pt c 0,.agg (aN x20 g x y A).toArray] w λv w'=>∃ b3 b4 b5 b6 b7 b8 b9 P Q R,.agg (aS r.1 b3 b4 b5 b6 b7 b8).toArray=v/\Sep w' (Blk c 87 [b9,P,t,u,Q,R,j,k,l]::Fo) (rSl aX b3 r.1.Results::rSl aB b4 r.1.Store.Nodes::rSl aC b5 r.1.Store.Turns::rSl aQ b6 r.1.Events::rSl bB b7 r.1.Mounts::rSl (kI .i64) b8 r.1.Wounded::rSl aB b9 r.2.1::rSl aC P r.2.2.1::rSl aR Q r.2.2.2.1::rSl aJ R r.2.2.2.2::rs):=by
 unfold xX at m;refine ent func42 z ntmps42 z z λa E=>sq<|bx E H z λp w a H E=>bx E H z λq w a H E=>al2 E H z lB λs w a H E=>xp 1 E z λa E=>lb2 E H 1 U26 z λa E=>bd m λd6 W m=>xc2 E z (cf_ 96) (Le H G W)<|?_;rintro _ w ⟨d7,rfl,H⟩ a E;refine pr 1 E z λa E=>xp 1 E z λa E=>sv2 E z (nR E z z z) λa E=>have H:=H.frs [2,2,4,4,4] z;bd m λd8 X m=>xk2 E z (cf_ 97) (P6 H U X) λw H a E=>pr 1 E z λa E=>nx<|lb2 E H 0 U28 z λa E=>pr 1 E z λa E=>have H:=H.thaw (i:=2) z;have H:=H.frs [3,3,2,3] z;bd m λS Y m=>xk2 E z (cf_ 100) (Ak H (t1 T) m0 Y) λw H a E=>pn 1 E z λa E=>aL (λa w=>∃ I,Jn 30 a w [(2,pt p 0),(3,pt q 0),(4,pt s 0),(7,.int .i64 I)] (Blk p 28 [pt c 0]::Blk q 37 (aN x20 g x y A)::Blk s 48 bH::Blk c 87 [L,M,t,u,e,f,j,k,l]::Fo) rs (tQ N O n o x20 I=some r)) ?_ ?_
 ·refine aL (λa w=>∃ J,Jn 30 a w [(2,pt p 0),(3,pt q 0),(4,pt s 0),(7,.int .i64 S),(21,.bool J)] (Blk p 28 [pt c 0]::Blk q 37 (aN x20 g x y A)::Blk s 48 bH::Blk c 87 [L,M,t,u,e,f,j,k,l]::Fo) rs (tR N O n o x20 S J=some r)) ?_ ?_
  ·refine wG<|pr 3 E z λa E=>cs m (λd m=>?_) λd m=>?_
   ·exact pk 2 E (kc 19 z d) z λa E=>nt<|have H:=H.frs [0,2,3,3] z;⟨_,_,E.to z,H,(Y1 Y0),m⟩
   exact pk 2 E (kc 19 z d) z λa E=>nt<|have H:=H.frs [0,2,3,3] z;⟨_,_,E.to z,H,(Y1 Y0),m⟩
  clear E H m;rintro a w ⟨J,d4,E,H,K,m⟩;unfold tR at m;refine wif E m z (λm=>?_) λm=>?_
  ·exact wG<|pn 1 E z λa E=>⟨_,_,E.to z,H,K,m⟩
  exact wK<|aA<|⟨_,_,E.to z,H,K,m⟩
 ·clear E H m;rintro a w ⟨I,d5,E,H,b,m⟩;unfold tQ at m;refine wS<|sq<|pn 2 E z λa E=>wif E m z (λm=>?_) λm=>?_
  ·refine sp 1 E z λa E=>bd m λc0 Z m=>xc2 E z (cf_ 53) (eW H Z)<|?_;rintro _ w ⟨c1,c2,c3,c4,c5,c6,rfl,H⟩ a E;refine ss 2 E H z bR (aZ H m0 mm1 mm2 mm3 mm4 mm5) λw H=>nt<|wR<|aH<|oB 2 (aS c0 c1 c2 c3 c4 c5 c6) E H U48 z bR<|have H:=H.drs [0,0,0];?_;cases m;exact X10 ⟨z,H.rdx [0,1,2,3,4,5] z (aD (t6 (b _ B)) (aD (t6 (b _ C)) (aD (t6 (b _ D)) (aD (t6 (b _ F)) (λr hr=>(t6 (b r hr)))))))⟩
  ·refine wK<|aA<|sq<|lb2 E H 0 U28 z λa E=>pr 1 E z λa E=>lb2 E H 1 U26 z λa E=>have H:=H.frs [2,2,2,3] z;bd m λc7 b0 m=>xc2 E z (cf_ 101) (Co H (b _ B) (b _ C) (b _ D) (b _ F) (b _ G) (b _ V) b0)<|?_;rintro _ w ⟨c8,c9,d0,d1,d2,d3,d9,e0,e1,e2,rfl,H⟩ a E;refine ss 3 E H z bR (aZ H m0 mm1 mm2 mm3 mm4 mm5) λw H=>nt<|wR<|oB 3 (aS c7.1 c8 c9 d0 d1 d2 d3) E H U48 z bR<|have H:=H.drs [1,1,1];?_;cases m;exact X10 ⟨z,H.rdx [0,1,2,3,4,5,6] z (aD (t1 mm6) (aD (t2 mm6) (aD (t3 mm6) (λr hr=>(t2 (t8 (b r hr)))))))⟩

def mO(b:aW×dL×dO×eZ×dY)(c:kO):Option Xq:=
  some (b.1,b.2.1,b.2.2.1,b.2.2.2.1,b.2.2.2.2,c)
def kC(b:aW×dL×dO×eZ×dY)(c:List lN)(x20:aI)(d:Bool):Option Xq:=
  if d=true then ((mpt (kyI .i64) c x20.Id b.1).bind λe=>mO b e) else (mO b c)
def qG(c:List lN)(x20:aI)(f:List aG)(g:List aM)(d:List aP)(e:List aE)(k:List aF)(l:List aU)(i:Bool):Option Xq:=
  if i=true then ((dK 2).bind λj=>some (j,f,g,d,e,c)) else ((xX f g k l d e x20).bind λb=>if (x20.Id != 0)=true then (if (b.1.Err != 131)=true then (kC b c x20 (b.1.Err != 132)) else (kC b c x20 false)) else (kC b c x20 false))
def uI(b:List lN)(x20:aI)(e:List aG)(f:List aM)(c:List aP)(d:List aE)(g:List aF)(i:List aU)(j:Bool)(k:Int)(l:Int)(m:Bool)(n:Int)(o:Z4)(p:dL)(q:dO)(s:B4)(t:Mm)(u:(List Int)):Option Xq:=
  if j=true then (some ((⟨k,l,m,n,o,(⟨p,q⟩:aK),s,t,u⟩:aW),e,f,c,d,b)) else (if (x20.Id != 0)=true then (qG b x20 e f c d g i ((b.length:Int) == 512)) else (qG b x20 e f c d g i false))
def pU(f:List aG)(g:List aM)(i:List aF)(j:List aU)(d:List aP)(e:List aE)(c:List lN)(x20:aI):Option Xq:=
  (Q5 (kyI .i64) c x20.Id vW).bind λb=>uI c x20 f g d e i j b.2 b.1.Err b.1.At b.1.Yes b.1.Epoch b.1.Results b.1.Store.Nodes b.1.Store.Turns b.1.Events b.1.Mounts b.1.Wounded
theorem Ie{p f:Nat}{d4 d5 N O L M q G I J s t:VL}{f8:List aG}{f9:List aM}{g0:List aF}{g1:List aU}{c1:List aP}{c2:List aE}{u:List lN}{x20:aI}(H:Sep w (Blk p 87 [d4,d5,N,O,L,M,.map (some f),s,t]::bX Tryz.prog 2 (kyI .i64) bC true f u::Fo) rs)(b6:rSl aB d4 f8 ∈ rs)(b7:rSl aC d5 f9 ∈ rs)(g9:rSl aO N g0 ∈ rs)(i0:rSl bA O g1 ∈ rs)(b8:rSl aR L c1 ∈ rs)(b9:rSl aJ M c2 ∈ rs)(i1:rSl bN q x20.Pieces ∈ rs)(i2:U5 Tryz.prog ∈ rs){r:aW×dL×dO×eZ×dY×kO}(m:pU f8 f9 g0 g1 c1 c2 u x20=some r) :
    Cf 54 [pt p 0,.agg (aN x20 q G I J).toArray,.func (.func 42) #[] #[]] w λv w'=>∃ i7 i8 i9 j0 j1 j2 j3 g6 g7 g8,.agg (aS r.1 i7 i8 i9 j0 j1 j2).toArray=v/\Sep w' (Blk p 87 [j3,g6,N,O,g7,g8,.map (some f),s,t]::bX Tryz.prog 2 (kyI .i64) bC true f r.2.2.2.2.2::Fo) (rSl aX i7 r.1.Results::rSl aB i8 r.1.Store.Nodes::rSl aC i9 r.1.Store.Turns::rSl aQ j0 r.1.Events::rSl bB j1 r.1.Mounts::rSl (kI .i64) j2 r.1.Wounded::rSl aB j3 r.2.1::rSl aC g6 r.2.2.1::rSl aR g7 r.2.2.2.1::rSl aJ g8 r.2.2.2.2.1::rs):=by
 unfold pU at m;refine ent func54 z ntmps54 z z λa E=>sq<|bx E H z λl w a H E=>al2 E H z lB λx w a H E=>nt<|wS<|aL (λa w=>∃ d6 V X Y Z b0 b1 d7 b2 b3 b4 b5 d8 d9 e0 e1 e2 e3 g,Env 59 a [(0,pt p 0),(2,.func (.func 42) #[] #[]),(4,pt l 0),(6,pt x 0),(7,pt d6 0),(8,.bool d7)]/\Sep w (Blk p 87 [d4,d5,N,O,L,M,.map (some f),s,t]::Blk l 37 (aN x20 q G I J)::Blk x 48 bH::Blk d6 48 [.int .i64 b2,.int .i64 b3,.bool b4,.int .i64 b5,V,X,Y,Z,b0,b1]::bX Tryz.prog 2 (kyI .i64) bC true f u::Fo) g/\(∀ r,r ∈ rs->r ∈ g)/\rSl aX V d8 ∈ g/\rSl aB X d9 ∈ g/\rSl aC Y e0 ∈ g/\rSl aQ Z e1 ∈ g/\rSl bB b0 e2 ∈ g/\rSl (kI .i64) b1 e3 ∈ g/\uI u x20 f8 f9 c1 c2 g0 g1 d7 b2 b3 b4 b5 d8 d9 e0 e1 e2 e3=some r) ?_ ?_
 ·refine bd m λk1 c3 m=>?_;have hI:dN [Blk l 37 (aN x20 q G I J),Blk p 87 [d4,d5,N,O,L,M,.map (some f),s,t]] [] { w with drawn:=w.drawn+1 }:=⟨_,_,H.kept (Kp.drawn _ w _),(aV mm1 (aV mm2 (bQ))),(bT)⟩
  refine qJ _ (.go 0 0 (.go 1 0 (.go 2 0 (.go 3 0 (.go 4 0 (.go 5 0 (.alt 6 (.go 7 0 (.go 8 0 (.go 9 0 (.go 10 1 (.go 11 1 (.go 12 2 .nil)))))) 10 (.go 6 1 (.go 7 0 (.go 8 0 (.go 9 0 (.go 11 1 (.go 12 2 .nil))))))))))))) [12] qS (by kernel_rfl) (λ_ _ _ h=>False.elim h.2) hI<|have H:=H.kept (Kp.drawn _ w (w.drawn+1));?_;generalize ({ w with drawn:=w.drawn+1 }:WD)=w at H hI ⊢
  replace hI:∃ W,dN [Blk l 37 (aN x20 q G I J),Blk p 87 [d4,d5,N,O,L,M,.map (some f),s,t]] [] W:=⟨_,hI⟩
  obtain ⟨W0,hI⟩:=hI;refine om E z λa E=>ov E z (λw hW=>(F2 E z z)) λa E=>ov E z (λw hW=>oR E z z (v:=pt p 6) (Kj _ _)) λa E=>ol E mm1 U84 z λa E=>ov E z (λw hW=>oR E z z (v:=pt l 1) (Ki _ _)) λa E=>ol E m0 U2 z λa E=>rD z z ?_ ?_
  ·refine tD (i:=3) (K:=(kyI .i64)) E H (wn z) z z z z z z (fV U2) U84 Z3 Dl c3 λk2 a H E=>?_;obtain ⟨k3,k4,k5,k6,k7,k8,rfl,h⟩:=oU H;clear H;have H:=h;refine nt<|⟨sx H [1,2] z,om E z λa E=>ox E z λa E=>ox E z λa E=>cO z<|al2 E H z lB λk9 w a H E=>nt<|⟨sx H [2,3] z,cO z<|ss 0 E H z bR (aZ H mm5 mm4 mm3 mm2 mm1 m0) λw H=>nt<|⟨sx H [2,3] z,dF z<|pn 1 E z λa E=>fK<|?_⟩⟩⟩
   clear hI;exact aA<|have H:=H.frs [4,1,2,3,4] z;X19 ⟨E.to z,H,(Y7 Y0),mm5,mm4,mm3,mm2,mm1,m0,m⟩
  refine al2 E H z lB λl0 w a H E=>nt<|⟨sx H [2,3] z,cO z<|tD (i:=4) (K:=(kyI .i64)) E H (wn z) z z z z z z (fV U2) U84 Z3 Dl c3 λl1 a H E=>?_⟩
  obtain ⟨l2,l3,l4,l5,l6,l7,rfl,h⟩:=oU H;clear H;have H:=h;refine nt<|⟨sx H [2,3] z,om E z λa E=>ox E z λa E=>ox E z λa E=>cO z<|ss 0 E H z bR (aZ H mm5 mm4 mm3 mm2 mm1 m0) λw H=>nt<|⟨sx H [2,3] z,dF z<|pn 1 E z λa E=>fK<|?_⟩⟩
  clear hI;exact aA<|have H:=H.frs [4,1,2,3,4] z;X19 ⟨E.to z,H,(Y7 Y0),mm5,mm4,mm3,mm2,mm1,m0,m⟩
 ·clear E H m;rintro a w ⟨d6,V,X,Y,Z,b0,b1,d7,b2,b3,b4,b5,d8,d9,e0,e1,e2,e3,g,E,H,k,e4,e5,e6,e7,e8,e9,m⟩;unfold uI at m;refine sq<|pn 1 E z λa E=>wif E m z (λm=>?_) λm=>?_
  ·refine sq<|ln 3 [.int .i64 b2,.int .i64 b3,.bool b4,.int .i64 b5,V,X,Y,Z,b0,b1] E H U48 z bR λa E=>ss 2 E H z bR (aZ H e4 e5 e6 e7 e8 e9) λw H=>nt<|wR<|aH<|oB 2 [.int .i64 b2,.int .i64 b3,.bool b4,.int .i64 b5,V,X,Y,Z,b0,b1] E H U48 z bR<|have H:=H.drs [1,1,1];?_;cases m;exact X10 ⟨z,H.reads (aD e4 (aD e5 (aD e6 (aD e7 (aD e8 (aD e9 (aD (k _ b6) (aD (k _ b7) (aD (k _ b8) (aD (k _ b9) (k)))))))))))⟩
  ·refine wK<|aA<|wS<|aL (λa w=>∃ f0,Jn 59 a w [(0,pt p 0),(2,.func (.func 42) #[] #[]),(4,pt l 0),(6,pt x 0),(32,.bool f0)] (Blk p 87 [d4,d5,N,O,L,M,.map (some f),s,t]::Blk l 37 (aN x20 q G I J)::Blk x 48 bH::bX Tryz.prog 2 (kyI .i64) bC true f u::Fo) rs (qG u x20 f8 f9 c1 c2 g0 g1 f0=some r)) ?_ ?_
   ·refine wG<|pr 1 E z λa E=>lb2 E H 1 U2 z λa E=>pr 2 E z λa E=>cs m (λj m=>?_) λj m=>?_
    ·exact pk 3 E (kc 25 z j) z λa E=>gl 25 E H 0 j U84 z λa E=>gv 25 E j z (Bs (i:=4) E H z z z U84) λa E=>pk 2 E (kc 25 z j) z λa E=>nt<|have H:=H.drop 3;⟨_,_,E.to z,H,k,m⟩
    exact pk 7 E (kc 25 z j) z λa E=>nt<|have H:=H.drop 3;⟨_,_,E.to z,H,k,m⟩
   ·clear E H m;rintro a w ⟨f0,l8,E,H,d,m⟩;unfold qG at m;refine wif E m z (λm=>?_) λm=>?_
    ·refine sq<|bd m λj4 i3 m=>xc2 E z (cf_ 53) (eW H i3)<|?_;rintro _ w ⟨j5,j6,j7,j8,j9,k0,rfl,H⟩ a E;refine ss 2 E H z bR (aZ H m0 mm1 mm2 mm3 mm4 mm5) λw H=>nt<|wR<|aH<|oB 2 (aS j4 j5 j6 j7 j8 j9 k0) E H U48 z bR<|have H:=H.drs [1,1];?_;cases m;exact X10 ⟨z,H.rdx [0,1,2,3,4,5] z (aD (t6 (d _ b6)) (aD (t6 (d _ b7)) (aD (t6 (d _ b8)) (aD (t6 (d _ b9)) (λr hr=>(t6 (d r hr)))))))⟩
    ·refine wK<|aA<|sp 2 E z λa E=>ln 1 (aN x20 q G I J) E H U37 z xZ λa E=>bd m λb i4 m=>bI E (wn z) z z (bO E z z z ((cf_ 42) _)) (Nq H (d _ b6) (d _ b7) (d _ g9) (d _ i0) (d _ b8) (d _ b9) (d _ i1) (d _ i2) i4)<|?_;rintro _ w ⟨y,A,B,C,D,F,c4,c5,c6,c7,rfl,H⟩ a E;refine al2 E H z lB λc8 w a H E=>ss 0 E H z bR (aZ H m0 mm1 mm2 mm3 mm4 mm5) λw H=>nt<|aL (λa w=>∃ f1 e,Env 59 a [(6,pt x 0),(9,pt c8 0)]/\Sep w (Blk x 48 bH::Blk c8 48 (aS b.1 y A B C D F)::Blk p 87 [c4,c5,N,O,c6,c7,.map (some f),s,t]::bX Tryz.prog 2 (kyI .i64) bC true f f1::Fo) e/\(∀ r,r ∈ rs->r ∈ e)/\rSl aX y b.1.Results ∈ e/\rSl aB A b.1.Store.Nodes ∈ e/\rSl aC B b.1.Store.Turns ∈ e/\rSl aQ C b.1.Events ∈ e/\rSl bB D b.1.Mounts ∈ e/\rSl (kI .i64) F b.1.Wounded ∈ e/\rSl aB c4 b.2.1 ∈ e/\rSl aC c5 b.2.2.1 ∈ e/\rSl aR c6 b.2.2.2.1 ∈ e/\rSl aJ c7 b.2.2.2.2 ∈ e/\mO b f1=some r) ?_ ?_
     ·refine aL (λa w=>∃ c0 c,Env 59 a [(0,pt p 0),(4,pt l 0),(6,pt x 0),(9,pt c8 0),(50,.bool c0)]/\Sep w (Blk p 87 [c4,c5,N,O,c6,c7,.map (some f),s,t]::Blk l 37 (aN x20 q G I J)::Blk x 48 bH::Blk c8 48 (aS b.1 y A B C D F)::bX Tryz.prog 2 (kyI .i64) bC true f u::Fo) c/\(∀ r,r ∈ rs->r ∈ c)/\rSl aB c4 b.2.1 ∈ c/\rSl aC c5 b.2.2.1 ∈ c/\rSl aR c6 b.2.2.2.1 ∈ c/\rSl aJ c7 b.2.2.2.2 ∈ c/\rSl aX y b.1.Results ∈ c/\rSl aB A b.1.Store.Nodes ∈ c/\rSl aC B b.1.Store.Turns ∈ c/\rSl aQ C b.1.Events ∈ c/\rSl bB D b.1.Mounts ∈ c/\rSl (kI .i64) F b.1.Wounded ∈ c/\kC b u x20 c0=some r) ?_ ?_
      ·refine wG<|pr 1 E z λa E=>lb2 E H 2 U2 z λa E=>pr 2 E z λa E=>cs m (λn m=>?_) λn m=>?_
       ·refine pk 1 E (kc 41 z n) z λa E=>gl 41 E H 0 n U41 z λa E=>pk 3 E (kc 41 z n) z λa E=>cs m (λo m=>?_) λo m=>?_
        ·exact pk 1 E (kc 46 z o) z λa E=>gl 46 E H 0 o U41 z λa E=>pk 2 E (kc 46 z o) z λa E=>nt<|have H:=H.frs [4,1,4,4,4] z;⟨_,_,E.to z,H,(Y2 (Y8 d)),mm6,(t1 mm6),(t2 mm6),(t3 mm6),m0,mm1,mm2,mm3,mm4,mm5,m⟩
        exact pk 4 E (kc 46 z o) z λa E=>nt<|have H:=H.frs [4,1,4,4,4] z;⟨_,_,E.to z,H,(Y2 (Y8 d)),mm6,(t1 mm6),(t2 mm6),(t3 mm6),m0,mm1,mm2,mm3,mm4,mm5,m⟩
       exact pk 9 E (kc 41 z n) z λa E=>nt<|have H:=H.frs [4,1,4,4,4] z;⟨_,_,E.to z,H,(Y2 (Y8 d)),mm6,(t1 mm6),(t2 mm6),(t3 mm6),m0,mm1,mm2,mm3,mm4,mm5,m⟩
      clear E H m;rintro a w ⟨c0,c,E,H,c9,d0,d1,d2,d3,P,Q,R,S,T,U,m⟩;unfold kC at m;refine wif E m z (λm=>?_) λm=>?_
      ·refine dz [0,0,0,0,0,0,0,2] [0,1,3] H λw W0 hI H=>fn 3 E z λa E=>fb2 E m0 U84 z λa E=>fn 1 E z λa E=>fb2 E mm1 U2 z λa E=>fbn E (aS b.1 y A B C D F) z (wn z) z z z z mm2 z U48 z bR λa E=>bK z<|bd m λl9 g2 m=>Ar (i:=4) (K:=(kyI .i64)) (v:=b.1) (cs:=[.int .i64 b.1.Err,.int .i64 b.1.At,.bool b.1.Yes,.int .i64 b.1.Epoch,y,A,B,C,D,F]) E H (wn z) z z z z z z (fV U2) U84 g2 (λok hr=>(tE (hr _ P) (hr _ Q) (hr _ R) (hr _ S) (hr _ T) (hr _ U))) λw H=>nt<|bG<|?_;clear hI;exact aA<|have H:=H.drop 1;have H:=H.frs [3,1,3,3] z;⟨_,_,E.to z,H,c9,P,Q,R,S,T,U,d0,d1,d2,d3,m⟩
      exact wK<|aA<|have H:=H.drop 1;have H:=H.frs [3,1,3,3] z;⟨_,_,E.to z,H,c9,P,Q,R,S,T,U,d0,d1,d2,d3,m⟩
     ·clear E H m;rintro a w ⟨f1,e,E,H,i5,f2,f3,f4,f5,f6,f7,i6,g3,g4,g5,m⟩;unfold mO at m;refine sq<|ln 1 (aS b.1 y A B C D F) E H U48 z bR λa E=>ss 0 E H z bR (aZ H f2 f3 f4 f5 f6 f7) λw H=>nt<|wR<|oB 0 (aS b.1 y A B C D F) E H U48 z bR<|have H:=H.drs [0,0];?_;cases m;exact X10 ⟨z,H.reads (aD f2 (aD f3 (aD f4 (aD f5 (aD f6 (aD f7 (aD i6 (aD g3 (aD g4 (aD g5 (i5)))))))))))⟩

def sS(x1:Int):Option Bool:=
  if (decide (x1 ≥ 0))=true then (some (decide (x1 <= 281474976710656))) else (some (false))
theorem P7{x1:Int}(H:Sep w (Fo) rs){r:Bool}(m:sS x1=some r) :
    Cf 163 [.int .i64 x1] w λv w'=>.bool r=v/\Sep w' (Fo) (rs):=by
 unfold sS at m;refine ent func163 z ntmps163 z z λa E=>sp 1 E z λa E=>xp 3 E z λa E=>cs m (λb m=>?_) λb m=>?_
 ·refine pk 4 E (kc 5 z b) z λa E=>nt<|wR<|o1 E z<|?_;cases m;exact ⟨z,H.reads Y0⟩
 ·refine pk 4 E (kc 5 z b) z λa E=>nt<|wR<|o1 E z<|?_;cases m;exact ⟨z,H.reads Y0⟩

end Go.Cb
