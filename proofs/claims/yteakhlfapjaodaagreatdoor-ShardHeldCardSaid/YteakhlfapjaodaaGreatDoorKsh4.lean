/- Functions of the program, walked: each comes to its plain function. -/
import Derived.Test.YteakhlfapjaodaaGreatDoorKsh3
import Derived.Test.YteakhlfapjaodaaGreatDoorExsh
import Derived.Test.YteakhlfapjaodaaGreatDoorNwsh
import Derived.Test.YteakhlfapjaodaaGreatDoorSksh
set_option linter.unusedVariables false
set_option linter.unusedSimpArgs false
set_option maxRecDepth 20000
set_option maxHeartbeats 1000000
namespace Go.Cb
open Go.Proofs Go.RowKit Tryz
variable {w:WD} {Fo:List Ob} {rs:List Rp}

def jB(rec_1:Int->En->Option Bool)(e:En)(b:aU)(f:Int)(c:Bool):Option Bool:=
  if c=true then (some (false)) else ((mpt (kyI .i64) e b.Txn b.Age).bind λd=>rec_1 (IntKind.i64.wrap (f+1)) d)
def eB(d:List aU):Nat->Int->En->Option Bool
  | 0,_,_=>none
  | f+1,c,e=>
    if (decide (c < (d.length:Int)))=true then ((idx d c).bind λb=>(mlk (kyI .i64) e b.Txn).bind λg=>(fW b.Dir).bind λi=>if (!i)=true then (jB (eB d f) e b c true) else ((sS b.Txn).bind λj=>if (!j)=true then (jB (eB d f) e b c true) else ((sS b.Age).bind λk=>if (!k)=true then (jB (eB d f) e b c true) else (if g.isSome=true then (if ((g.getD 0) != b.Age)=true then (jB (eB d f) e b c true) else (if (decide (c > 0))=true then ((idx d (IntKind.i64.wrap (c - 1))).bind λl=>jB (eB d f) e b c (!(sLt l.Dir b.Dir))) else (jB (eB d f) e b c false))) else (if (decide (c > 0))=true then ((idx d (IntKind.i64.wrap (c - 1))).bind λm=>jB (eB d f) e b c (!(sLt m.Dir b.Dir))) else (jB (eB d f) e b c false)))))) else (some (true))
def J3(b:List aU):Option Bool:=
  eB b (((b.length:Int) - 0:Int).toNat+1) 0 []
theorem Vm{s:VL}{p:List aU}(H:Sep w (Fo) rs)(t:rSl bA s p ∈ rs){r:Bool}(m:J3 p=some r) :
    Cf 162 [s] w λv w'=>.bool r=v/\Sep w' (Fo) (rs):=by
 unfold J3 at m;refine ent func162 z ntmps162 z z λa E=>sp 1 E z λa E=>nx<|J4 (k:=2) (K:=(kyI .i64)) (d:=(kI .i64)) (g:=false) E H (wn z) z z z λC w a H E=>pn 1 E z λa E=>wS<|sq<|pr 1 E z λa E=>lS E H t U58 z λa E=>pn 1 E z λa E=>wB<|bF (λq a w=>∃ x y,Jn 69 a w [(0,s),(3,.map (some C)),(9,s),(10,.int .i64 (p.length:Int)),(11,.int .i64 x)] (bX Tryz.prog 2 (kyI .i64) (kI .i64) false C y::Fo) rs (eB p q x y=some r)) (((p.length:Int) - 0:Int).toNat+1) ?_ ?_
 ·exact X3 ⟨E.to z,H,Y0,m⟩
 ·clear E H m;rintro q a w ⟨x,y,Z,E,H,e,m⟩;cases q with
  | zero=>exact (bD m z).elim
  | succ q=>
   unfold eB at m;refine sq<|pn 1 E z λa E=>wS<|wif E m z (λm=>?_) λm=>?_
   ·refine wK<|aA<|wS<|wB<|sp 1 E z λa E=>bd m λF G m=>dC E H (wn z) z z z z z (e _ t) U58 rG G λq11 a H E=>ldf gN E H z z z z z m0 U78 z rG λa E=>al2 E H z HQ λD w a H E=>pr 1 E z λa E=>ss 0 E H z rG z λw H=>xp 2 E z λa E=>lb2 E H 0 U2 z λa E=>bd m λX I m=>sv2 E z (KS (i:=1) (K:=(kyI .i64)) (z0:=0) (u:=X) E H z z z z (fV U2) QH UK I) λa E=>pr 5 E z λa E=>nt<|wS<|aL (λa w=>∃ A,Jn 69 a w [(0,s),(3,.map (some C)),(5,pt D 0),(9,s),(10,.int .i64 (p.length:Int)),(11,.int .i64 x),(62,.bool A)] (bX Tryz.prog 2 (kyI .i64) (kI .i64) false C y::Blk D 78 (vK F)::Fo) rs (jB (eB p q) y F x A=some r)) ?_ ?_
    ·obtain ⟨b0,H⟩:=H.raw (t1 (e _ t));refine dw [(0,0),(1,0),(2,1),(3,0),(4,0),(5,0),(6,0),(7,1),(8,0),(9,0),(10,0),(11,0),(12,0),(13,1),(14,0),(15,0),(16,0),(17,0),(18,0),(19,0),(20,0),(21,0),(22,0),(23,0),(24,0),(25,0),(26,0),(27,0),(28,0),(29,0),(30,0),(31,0),(32,0),(33,0),(34,0),(35,0),(36,0),(37,0),(38,0),(39,0)] [0] [0] H (by kernel_rfl) (λ_ _ _ h=>False.elim h.2) λw W0 hI H=>fn 1 E z λa E=>fb2 E m0 U9 z λa E=>bW z<|bd m λb1 J m=>xk2 E z (cf_ 83) (kQ H J) λw H a E=>nt<|⟨⟨_,_,H,(aV m0 (bQ)),(aD m0 (bT))⟩,fn 2 E z λa E=>cs m (λf m=>?_) λf m=>?_⟩
     ·refine fk 2 E (kc 27 z f) z λa E=>bW z<|pk 1 E (kc 27 z f) z λa E=>nt<|⟨⟨_,_,H,(aV m0 (bQ)),(aD m0 (bT))⟩,fk 5 E (kc 27 z f) z λa E=>bW z<|pn 1 E z λa E=>⟨⟨_,_,H,(aV m0 (bQ)),(aD m0 (bT))⟩,fn 26 E z λa E=>bG<|?_⟩⟩
      clear hI;exact aA<|have H:=H.frs [0,1] z;⟨_,_,E.to z,H,(Y2 e),m⟩
     refine fk 1 E (kc 27 z f) z λa E=>fb E z (ws' (d:=27) E z z z z f) z z z z m0 z U2 z λa E=>bW z<|bd m λb2 L m=>gc 27 E f z (cf_ 163) (P7 H L)<|?_;rintro _ w ⟨rfl,H⟩ a E;refine nt<|⟨⟨_,_,H,(aV m0 (bQ)),(aD m0 (bT))⟩,fk 3 E (kc 27 z f) z λa E=>cs m (λj m=>?_) λj m=>?_⟩
     ·refine fk 2 E (kc 33 z j) z λa E=>bW z<|pk 1 E (kc 33 z j) z λa E=>nt<|⟨⟨_,_,H,(aV m0 (bQ)),(aD m0 (bT))⟩,fk 26 E (kc 33 z j) z λa E=>bG<|?_⟩
      clear hI;exact aA<|have H:=H.frs [0,1] z;⟨_,_,E.to z,H,(Y2 e),m⟩
     refine fk 1 E (kc 33 z j) z λa E=>fb E z (ws' (d:=33) E z z z z j) z z z z m0 z U2 z λa E=>bW z<|bd m λb3 M m=>gc 33 E j z (cf_ 163) (P7 H M)<|?_;rintro _ w ⟨rfl,H⟩ a E;refine nt<|⟨⟨_,_,H,(aV m0 (bQ)),(aD m0 (bT))⟩,fk 3 E (kc 33 z j) z λa E=>cs m (λl m=>?_) λl m=>?_⟩
     ·refine fk 23 E (kc 39 z l) z λa E=>bG<|?_;clear hI;exact aA<|have H:=H.frs [0,1] z;⟨_,_,E.to z,H,(Y2 e),m⟩
     refine fk 2 E (kc 39 z l) z λa E=>cs m (λn m=>?_) λn m=>?_
     ·refine fk 2 E (kc 41 z n) z λa E=>fb E z (ws' (d:=41) E z z z z n) z z z z m0 z U2 z λa E=>fk 4 E (kc' (kc 41 z n) 39 z l) z λa E=>cs m (λo m=>?_) λo m=>?_
      ·refine fk 14 E (kc 48 z o) z λa E=>bG<|?_;clear hI;exact aA<|have H:=H.frs [0,1] z;⟨_,_,E.to z,H,(Y2 e),m⟩
      refine fk 3 E (kc 48 z o) z λa E=>cs m (λb m=>?_) λb m=>?_
      ·refine fk 3 E (kc 51 z b) z λa E=>bd m λb4 N m=>?_;obtain ⟨q35,b5,O,Q⟩:=gD (P:=Tryz.prog) (k:=.i64) hI (gC (.head _)) U58 rG N;refine dV E z (ws' (d:=51) E z z z z b) z z (λw hW=>iO E z z z (O w)) λa E=>?_;have R:=tC Q (λ_ _ _ h=>Gd h);refine fk 1 E (kc 51 z b) z λa E=>fa E z (ws' (d:=51) E z z z z b) z z z z R U9 z λa E=>fk 1 E (kc 51 z b) z λa E=>fb E z (ws' (d:=51) E z z z z b) z z z z m0 z U9 z λa E=>fk 3 E (kc' (kc 51 z b) 48 z o) z λa E=>bG<|?_;clear hI;exact aA<|have H:=H.frs [0,1] z;⟨_,_,E.to z,H,(Y2 e),m⟩
      refine fk 11 E (kc' (kc 51 z b) 48 z o) z λa E=>bG<|?_;clear hI;exact aA<|have H:=H.frs [0,1] z;⟨_,_,E.to z,H,(Y2 e),m⟩
     refine fk 10 E (kc' (kc 41 z n) 39 z l) z λa E=>cs m (λc m=>?_) λc m=>?_
     ·refine fk 3 E (kc 51 z c) z λa E=>bd m λb6 S m=>?_;obtain ⟨q43,b7,T,U⟩:=gD (P:=Tryz.prog) (k:=.i64) hI (gC (.head _)) U58 rG S;refine dV E z (ws' (d:=51) E z z z z c) z z (λw hW=>iO E z z z (T w)) λa E=>?_;have V:=tC U (λ_ _ _ h=>Gd h);refine fk 1 E (kc 51 z c) z λa E=>fa E z (ws' (d:=51) E z z z z c) z z z z V U9 z λa E=>fk 1 E (kc 51 z c) z λa E=>fb E z (ws' (d:=51) E z z z z c) z z z z m0 z U9 z λa E=>fk 3 E (kc 51 z c) z λa E=>bG<|?_;clear hI;exact aA<|have H:=H.frs [0,1] z;⟨_,_,E.to z,H,(Y2 e),m⟩
     refine fk 11 E (kc 51 z c) z λa E=>bG<|?_;clear hI;exact aA<|have H:=H.frs [0,1] z;⟨_,_,E.to z,H,(Y2 e),m⟩
    clear E H m;rintro a w ⟨A,Y,E,H,B,m⟩;unfold jB at m;refine wif E m z (λm=>?_) λm=>?_
    ·refine sq<|pn 1 E z λa E=>wR<|aH<|bJ<|aH<|aH<|bJ<|aH<|o1 E z<|have H:=H.drs [0,0];?_;cases m;exact ⟨z,H.reads B⟩
    exact wK<|aA<|wG<|pr 2 E z λa E=>lb2 E H 1 U2 z λa E=>pr 1 E z λa E=>lb2 E H 1 U2 z λa E=>bd m λb8 W m=>AM (i:=0) (K:=(kyI .i64)) (v:=F.Age) E H (wn z) z z z z z z (fV U2) QH W λw H=>wN<|bM<|aA<|wG<|pn 2 E z λa E=>have H:=H.drop 1;⟨q,nL q,X3 ⟨E.to z,H,B,m⟩⟩
   ·refine wX<|aT<|aT<|cL<|aA<|sq<|pn 1 E z λa E=>wR<|o1 E z<|have H:=H.drop 0;?_;cases m;exact ⟨z,H.reads e⟩

def lG(b:List ((Int)×Int)):Option Unit:=
  some ()
theorem P8{c:Nat}{d:List ((Int)×Int)}(H:Sep w (bX Tryz.prog 2 (kyI .i64) (kI .i64) false c d::Fo) rs){r:Unit}(m:lG d=some r) :
    Cf 167 [.map (some c)] w λv w'=>∃ b,.func (.func 238) #[] #[pt b 0]=v/\Sep w' (Blk b 209 [.map (some c)]::bX Tryz.prog 2 (kyI .i64) (kI .i64) false c d::Fo) (rs):=by
 unfold lG at m;refine ent func167 z ntmps167 z z λa E=>sq<|bx E H z λe w a H E=>pr 1 E z λa E=>nx<|sv2 E z (nR E z z z) λa E=>pn 1 E z λa E=>wR<|o1 E z<|?_;cases m;exact ⟨_,z,H.reads Y0⟩

def vG(x1:aU)(b:BY):Option Int:=
  (qK x1.Dir b).bind λc=>some (c)
theorem Gu{x1:aU}{b:BY}(H:Sep w (Fo) rs){r:Int}(m:vG x1 b=some r) :
    Cf 169 [.agg (vK x1).toArray,.string b] w λv w'=>.int .i64 r=v/\Sep w' (Fo) (rs):=by
 unfold vG at m;refine ent func169 z ntmps169 z z λa E=>sq<|bx E H z λd w a H E=>pr 1 E z λa E=>xp 1 E z λa E=>lb2 E H 0 U9 z λa E=>pr 1 E z λa E=>bd m λe c m=>xk2 E z (cf_ 113) (xP H c) λw H a E=>pn 1 E z λa E=>wR<|o1 E z<|have H:=H.drop 0;?_;cases m;exact ⟨z,H.reads Y0⟩

def cQ(c:List aU)(e:BY):Nat->Int->Int->Option zT
  | 0,_,_=>none
  | f+1,b,d=>
    if (decide (b < d))=true then ((idx c (IntKind.i64.wrap (uB .u64 (IntKind.u64.wrap (IntKind.i64.wrap (b+d))) 1))).bind λk=>(vG k e).bind λg=>if (decide (g < 0))=true then (cQ c e f (IntKind.i64.wrap ((IntKind.i64.wrap (uB .u64 (IntKind.u64.wrap (IntKind.i64.wrap (b+d))) 1))+1)) d) else (cQ c e f b (IntKind.i64.wrap (uB .u64 (IntKind.u64.wrap (IntKind.i64.wrap (b+d))) 1)))) else (if (decide (b < (c.length:Int)))=true then ((idx c b).bind λi=>(vG i e).bind λj=>some (b,j == 0)) else (some (b,false)))
def fR(b:List aU)(c:BY):Option zT:=
  cQ b c (((b.length:Int) - 0:Int).toNat+1) 0 (b.length:Int)
theorem yD{j:VL}{e:List aU}{p:BY}(H:Sep w (Row 78 bA j e::Fo) rs){r:Int×Bool}(m:fR e p=some r) :
    Cf 168 [j,.string p,.func (.func 169) #[] #[]] w λv w'=>.tuple #[.int .i64 r.1,.bool r.2]=v/\Sep w' (Row 78 bA j e::Fo) (rs):=by
 unfold fR at m;refine ent func168 z ntmps168 z z λa E=>sp 2 E z λa E=>xp 1 E z λa E=>sv2 E z (lQ (i:=0) E H z z z U58) λa E=>pr 1 E z λa E=>xp 3 E z λa E=>nt<|wS<|wB<|bF (λc a w=>∃ q s,Jn 49 a w [(0,j),(1,.string p),(2,.func (.func 169) #[] #[]),(8,.int .i64 (e.length:Int)),(9,.int .i64 q),(10,.int .i64 s)] (Row 78 bA j e::Fo) rs (cQ e p c q s=some r)) (((e.length:Int) - 0:Int).toNat+1) ?_ ?_
 ·exact X3 ⟨E.to z,H,Y0,m⟩
 ·clear E H m;rintro c a w ⟨q,s,y,E,H,g,m⟩;cases c with
  | zero=>exact (bD m z).elim
  | succ c=>
   unfold cQ at m;refine wS<|sq<|pn 3 E z λa E=>wif E m z (λm=>?_) λm=>?_
   ·refine wK<|aA<|wB<|sp 4 E z λa E=>sv2 E z (He E z z z (by decide)) λa E=>pr 2 E z λa E=>xp 3 E z λa E=>bd m λt k m=>?_;obtain ⟨A,B,l⟩:=H.rowformNE (i:=0) z k;refine sv2 E z (dP (d:=bA) E l z z z z U58 rG k) λa E=>sv2 E z (kJ (i:=0) E H gN l z z z k (us:=[.string t.Dir,.int .i64 t.Txn,.int .i64 t.Age]) z U78 z rG) λa E=>pr 1 E z λa E=>bd m λC u m=>bI E (wn z) z z (bO E z z z ((cf_ 169) _)) (Gu H u)<|?_;rintro _ w ⟨rfl,H⟩ a E;refine pn 1 E z λa E=>wif E m z (λm=>?_) λm=>?_
    ·exact wG<|pr 3 E z λa E=>wN<|bM<|aA<|⟨c,nL c,X3 ⟨E.to z,H,g,m⟩⟩
    exact wG<|pr 2 E z λa E=>wN<|bM<|aA<|⟨c,nL c,X3 ⟨E.to z,H,g,m⟩⟩
   ·refine wX<|aT<|aT<|cL<|aA<|sp 5 E z λa E=>cs m (λb m=>?_) λb m=>?_
    ·refine pk 3 E (kc 39 z b) z λa E=>bd m λn f m=>?_;obtain ⟨D,F,o⟩:=H.rowformNE (i:=0) z f;refine gv 39 E b z (dP (d:=bA) E o z z z z U58 rG f) λa E=>gv 39 E b z (kJ (i:=0) E H gN o z z z f (us:=[.string n.Dir,.int .i64 n.Txn,.int .i64 n.Age]) z U78 z rG) λa E=>pk 1 E (kc 39 z b) z λa E=>bd m λG x m=>bI E (ws' (d:=39) E z z z z b) z z (bO E z z z ((cf_ 169) _)) (Gu H x)<|?_;rintro _ w ⟨rfl,H⟩ a E;refine pk 4 E (kc 39 z b) z λa E=>nt<|wR<|hX E z z z<|?_;cases m;exact ⟨z,H.reads g⟩
    ·refine pk 11 E (kc 39 z b) z λa E=>nt<|wR<|hX E z z z<|?_;cases m;exact ⟨z,H.reads g⟩

def yK(x1:aU)(x3:Int)(b:Int):Option Bool:=
  if (x1.Txn == x3)=true then (some (x1.Age != b)) else (some (false))
theorem Tr{x1:aU}{c d:Nat}{x3 e:Int}(H:Sep w (Blk c 2 [.int .i64 x3]::Blk d 2 [.int .i64 e]::Fo) rs){r:Bool}(m:yK x1 x3 e=some r) :
    Cf 161 [.agg (vK x1).toArray,pt c 0,pt d 0] w λv w'=>.bool r=v/\Sep w' (Blk c 2 [.int .i64 x3]::Blk d 2 [.int .i64 e]::Fo) (rs):=by
 unfold yK at m;refine ent func161 z ntmps161 z z λa E=>sq<|bx E H z λf w a H E=>pr 1 E z λa E=>xp 1 E z λa E=>lb2 E H 0 U2 z λa E=>lb2 E H 1 U2 z λa E=>pr 2 E z λa E=>cs m (λb m=>?_) λb m=>?_
 ·refine pk 1 E (kc 9 z b) z λa E=>gl 9 E H 0 b U2 z λa E=>gl 9 E H 2 b U2 z λa E=>pk 3 E (kc 9 z b) z λa E=>nt<|wR<|o1 E z<|have H:=H.drop 0;?_;cases m;exact ⟨z,H.reads Y0⟩
 ·refine pk 6 E (kc 9 z b) z λa E=>nt<|wR<|o1 E z<|have H:=H.drop 0;?_;cases m;exact ⟨z,H.reads Y0⟩

def eP(c:List aU)(d:Int)(e:Int):Nat->Int->Option Int
  | 0,_=>none
  | i+1,b=>
    if (decide (b < (c.length:Int)))=true then ((idx c b).bind λf=>(yK f d e).bind λg=>if g=true then (some (b)) else (eP c d e i (IntKind.i64.wrap (b+1)))) else (some ((-1)))
def jM(b:List aU)(c:Int)(d:Int):Option Int:=
  eP b c d (((b.length:Int) - 0:Int).toNat+1) 0
theorem K9{k:VL}{d:List aU}{e f:Nat}{g i:Int}(H:Sep w (Blk e 2 [.int .i64 g]::Blk f 2 [.int .i64 i]::Fo) rs)(j:rSl bA k d ∈ rs){r:Int}(m:jM d g i=some r) :
    Cf 154 [k,.func (.func 161) #[] #[pt e 0,pt f 0]] w λv w'=>.int .i64 r=v/\Sep w' (Blk e 2 [.int .i64 g]::Blk f 2 [.int .i64 i]::Fo) (rs):=by
 unfold jM at m;refine ent func154 z ntmps154 z z λa E=>sq<|pn 1 E z λa E=>wS<|sp 1 E z λa E=>lS E H j U58 z λa E=>pr 1 E z λa E=>nt<|wB<|bF (λc a w=>∃ l,Jn 19 a w [(0,k),(1,.func (.func 161) #[] #[pt e 0,pt f 0]),(7,.int .i64 (d.length:Int)),(8,.int .i64 l)] (Blk e 2 [.int .i64 g]::Blk f 2 [.int .i64 i]::Fo) rs (eP d g i c l=some r)) (((d.length:Int) - 0:Int).toNat+1) ?_ ?_
 ·exact ⟨_,_,E.to z,H,Y0,m⟩
 ·clear E H m;rintro c a w ⟨l,p,E,H,b,m⟩;cases c with
  | zero=>exact (bD m z).elim
  | succ c=>
   unfold eP at m;refine sq<|pn 1 E z λa E=>wS<|wif E m z (λm=>?_) λm=>?_
   ·refine wK<|aA<|wS<|wB<|sp 2 E z λa E=>xp 3 E z λa E=>bd m λq n m=>dC E H (wn z) z z z z z (b _ j) U58 rG n λq13 a H E=>ldf gN E H z z z z z m0 U78 z rG λa E=>bd m λs o m=>bI E (wn z) z z (bO E z z z ((cf_ 161) _)) (Tr H o)<|?_;rintro _ w ⟨rfl,H⟩ a E;refine nt<|wif E m z (λm=>?_) λm=>?_
    ·refine sq<|pn 2 E z λa E=>wR<|bJ<|aH<|aH<|bJ<|aH<|o1 E z<|?_;cases m;exact ⟨z,H.reads (Y1 b)⟩
    exact wK<|bM<|aA<|wG<|pn 2 E z λa E=>⟨c,nL c,_,_,E.to z,H,(Y1 b),m⟩
   ·refine wX<|aT<|aT<|cL<|aA<|sq<|pn 1 E z λa E=>wR<|o1 E z<|?_;cases m;exact ⟨z,H.reads b⟩

def iE(b:List aU)(c:Int)(d:Int):Option Bool:=
  (jM b c d).bind λe=>some (decide (e ≥ 0))
theorem E8{f:VL}{g:List aU}{b c:Nat}{d e:Int}(H:Sep w (Blk b 2 [.int .i64 d]::Blk c 2 [.int .i64 e]::Fo) rs)(i:rSl bA f g ∈ rs){r:Bool}(m:iE g d e=some r) :
    Cf 160 [f,.func (.func 161) #[] #[pt b 0,pt c 0]] w λv w'=>.bool r=v/\Sep w' (Blk b 2 [.int .i64 d]::Blk c 2 [.int .i64 e]::Fo) (rs):=by
 unfold iE at m;refine ent func160 z ntmps160 z z λa E=>sp 1 E z λa E=>xp 2 E z λa E=>bd m λk j m=>xk2 E z (cf_ 154) (K9 H i j) λw H a E=>pn 2 E z λa E=>wR<|o1 E z<|?_;cases m;exact ⟨z,H.reads Y0⟩

def yL(b:BY):Option Bool:=
  (fW b).bind λc=>some (!c)
theorem Ts{b:BY}(H:Sep w (Fo) rs){r:Bool}(m:yL b=some r) :
    Cf 159 [.string b] w λv w'=>.bool r=v/\Sep w' (Fo) (rs):=by
 unfold yL at m;refine ent func159 z ntmps159 z z λa E=>sp 1 E z λa E=>xp 1 E z λa E=>bd m λd c m=>xk2 E z (cf_ 83) (kQ H c) λw H a E=>pn 2 E z λa E=>wR<|o1 E z<|?_;cases m;exact ⟨z,H.reads Y0⟩

def fG(c:List BY):Nat->Int->Option Int
  | 0,_=>none
  | e+1,b=>
    if (decide (b < (c.length:Int)))=true then ((idx c b).bind λf=>(yL f).bind λd=>if d=true then (some (b)) else (fG c e (IntKind.i64.wrap (b+1)))) else (some ((-1)))
def lP(b:List BY):Option Int:=
  fG b (((b.length:Int) - 0:Int).toNat+1) 0
theorem Q9{f:VL}{d:List BY}(H:Sep w (Fo) rs)(e:rSl kS f d ∈ rs){r:Int}(m:lP d=some r) :
    Cf 153 [f,.func (.func 159) #[] #[]] w λv w'=>.int .i64 r=v/\Sep w' (Fo) (rs):=by
 unfold lP at m;refine ent func153 z ntmps153 z z λa E=>sq<|pn 1 E z λa E=>wS<|sp 1 E z λa E=>lS E H e U33 z λa E=>pr 1 E z λa E=>nt<|wB<|bF (λc a w=>∃ g,Jn 19 a w [(0,f),(1,.func (.func 159) #[] #[]),(7,.int .i64 (d.length:Int)),(8,.int .i64 g)] (Fo) rs (fG d c g=some r)) (((d.length:Int) - 0:Int).toNat+1) ?_ ?_
 ·exact ⟨_,_,E.to z,H,Y0,m⟩
 ·clear E H m;rintro c a w ⟨g,k,E,H,b,m⟩;cases c with
  | zero=>exact (bD m z).elim
  | succ c=>
   unfold fG at m;refine sq<|pn 1 E z λa E=>wS<|wif E m z (λm=>?_) λm=>?_
   ·refine wK<|aA<|wS<|wB<|sp 2 E z λa E=>xp 3 E z λa E=>bd m λn j m=>dC E H (wn z) z z z z z (b _ e) U33 sz9 j λq9 a H E=>sv2 E z (oO E H z z m0 U9 z) λa E=>bd m λl i m=>bI E (wn z) z z (bO E z z z ((cf_ 159) _)) (Ts H i)<|?_;rintro _ w ⟨rfl,H⟩ a E;refine nt<|wif E m z (λm=>?_) λm=>?_
    ·refine sq<|pn 2 E z λa E=>wR<|bJ<|aH<|aH<|bJ<|aH<|o1 E z<|?_;cases m;exact ⟨z,H.reads (Y1 b)⟩
    exact wK<|bM<|aA<|wG<|pn 2 E z λa E=>⟨c,nL c,_,_,E.to z,H,(Y1 b),m⟩
   ·refine wX<|aT<|aT<|cL<|aA<|sq<|pn 1 E z λa E=>wR<|o1 E z<|?_;cases m;exact ⟨z,H.reads b⟩

def jY(b:List BY):Option Bool:=
  (lP b).bind λc=>some (decide (c ≥ 0))
theorem L6{b:VL}{c:List BY}(H:Sep w (Fo) rs)(d:rSl kS b c ∈ rs){r:Bool}(m:jY c=some r) :
    Cf 97 [b,.func (.func 159) #[] #[]] w λv w'=>.bool r=v/\Sep w' (Fo) (rs):=by
 unfold jY at m;refine ent func97 z ntmps97 z z λa E=>sp 1 E z λa E=>xp 2 E z λa E=>bd m λf e m=>xk2 E z (cf_ 153) (Q9 H d e) λw H a E=>pn 2 E z λa E=>wR<|o1 E z<|?_;cases m;exact ⟨z,H.reads Y0⟩

def gS(c:List BY)(d:BY):Nat->Int->Option Int
  | 0,_=>none
  | e+1,b=>
    if (decide (b < (c.length:Int)))=true then ((idx c b).bind λf=>if (sEq d f)=true then (some (b)) else (gS c d e (IntKind.i64.wrap (b+1)))) else (some ((-1)))
def pV(b:List BY)(c:BY):Option Int:=
  gS b c (((b.length:Int) - 0:Int).toNat+1) 0
theorem Aw{g:VL}{d:List BY}{e:BY}(H:Sep w (Fo) rs)(f:rSl kS g d ∈ rs){r:Int}(m:pV d e=some r) :
    Cf 234 [g,.string e] w λv w'=>.int .i64 r=v/\Sep w' (Fo) (rs):=by
 unfold pV at m;refine ent func234 z ntmps234 z z λa E=>sq<|pn 1 E z λa E=>wS<|sp 1 E z λa E=>lS E H f U33 z λa E=>pr 1 E z λa E=>nt<|wB<|bF (λc a w=>∃ i,Jn 19 a w [(0,g),(1,.string e),(7,.int .i64 (d.length:Int)),(8,.int .i64 i)] (Fo) rs (gS d e c i=some r)) (((d.length:Int) - 0:Int).toNat+1) ?_ ?_
 ·exact ⟨_,_,E.to z,H,Y0,m⟩
 ·clear E H m;rintro c a w ⟨i,k,E,H,b,m⟩;cases c with
  | zero=>exact (bD m z).elim
  | succ c=>
   unfold gS at m;refine sq<|pn 1 E z λa E=>wS<|wif E m z (λm=>?_) λm=>?_
   ·refine wK<|aA<|wS<|wB<|sp 2 E z λa E=>xp 3 E z λa E=>bd m λl j m=>dC E H (wn z) z z z z z (b _ f) U33 sz9 j λq10 a H E=>sv2 E z (oO E H z z m0 U9 z) λa E=>pn 1 E z λa E=>wif E m z (λm=>?_) λm=>?_
    ·refine sq<|pn 2 E z λa E=>wR<|bJ<|aH<|aH<|bJ<|aH<|o1 E z<|?_;cases m;exact ⟨z,H.reads (Y1 b)⟩
    exact wK<|bM<|aA<|wG<|pn 2 E z λa E=>⟨c,nL c,_,_,E.to z,H,(Y1 b),m⟩
   ·refine wX<|aT<|aT<|cL<|aA<|sq<|pn 1 E z λa E=>wR<|o1 E z<|?_;cases m;exact ⟨z,H.reads b⟩

def jU(b:List BY)(c:BY):Option Bool:=
  (pV b c).bind λd=>some (decide (d ≥ 0))
theorem W3{b:VL}{c:List BY}{d:BY}(H:Sep w (Fo) rs)(e:rSl kS b c ∈ rs){r:Bool}(m:jU c d=some r) :
    Cf 164 [b,.string d] w λv w'=>.bool r=v/\Sep w' (Fo) (rs):=by
 unfold jU at m;refine ent func164 z ntmps164 z z λa E=>sp 1 E z λa E=>xp 2 E z λa E=>bd m λg f m=>xk2 E z (cf_ 234) (Aw H e f) λw H a E=>pn 2 E z λa E=>wR<|o1 E z<|?_;cases m;exact ⟨z,H.reads Y0⟩

def xH(rec_1:Bool->Int->En->Option Bh)(x20:Int)(b:Bool)(c:En):Option Bh:=
  rec_1 b (IntKind.i64.wrap (x20+1)) c
def r7(rec_1:Bool->Int->En->Option Bh)(x20:Int)(b:aU)(d:Int)(x3:Int)(c:En)(e:Bool)(f:Bool):Option Bh:=
  if f=true then ((ck (Xe b.Age b.Txn d x3)).bind λj=>if (Qp b.Age b.Txn d x3)=true then ((mlk (kyI .i64) c b.Txn).bind λg=>(mpt (kyI .i64) c b.Txn (IntKind.i64.wrap ((g.getD 0)+1))).bind λi=>xH rec_1 x20 false i) else (xH rec_1 x20 false c)) else (xH rec_1 x20 e c)
def r8(rec_2:kN->Int->Option Bh)(b:Int)(c:kN):Option Bh:=
  rec_2 c (IntKind.i64.wrap (b+1))
def mC(e:List BY)(x3:Int)(g:Int):Nat->kN->Int->Option Bh
  | 0,_,_=>none
  | i+1,b,d=>
    if (decide (d < (e.length:Int)))=true then ((idx e d).bind λf=>(fR b f).bind λc=>if (!c.2)=true then ((ck (0 <= c.1/\c.1 <= b.length/\b.length <= 1000000)).bind λj=>r8 (mC e x3 g i) d (b.take c.1.toNat ++ (⟨f,x3,g⟩:aU)::b.drop c.1.toNat)) else (r8 (mC e x3 g i) d b)) else (some (b,[],true))
def kZ(e:Int)(x3:Int)(f:List BY)(c:List aU):Nat->Bool->Int->En->Option Bh
  | 0,_,_,_=>none
  | i+1,g,x20,b=>
    if (decide (x20 < (c.length:Int)))=true then ((idx c x20).bind λd=>if (d.Txn != x3)=true then ((jU f d.Dir).bind λj=>r7 (kZ e x3 f c i) x20 d e x3 b g j) else (r7 (kZ e x3 f c i) x20 d e x3 b g false)) else (if (!g)=true then ((lG b).bind λk=>(ck (b.length <= 1000000)).bind λl=>some (c,Qq (b.map (·.1)),false)) else ((ck (c.length <= LIM)).bind λm=>mC f x3 e (((f.length:Int) - 0:Int).toNat+1) c 0))
def qO(d:Int)(x3:Int)(e:List BY)(b:List aU)(c:Bool):Option Bh:=
  if c=true then (some (([]:List aU),[],false)) else (kZ d x3 e b (((b.length:Int) - 0:Int).toNat+1) true 0 [])
def E1(b:List aU)(x3:Int)(c:Int)(d:List BY):Option Bh:=
  (jY d).bind λe=>(iE b x3 c).bind λf=>(J3 b).bind λg=>if (!g)=true then (qO c x3 d b true) else ((sS x3).bind λi=>if (!i)=true then (qO c x3 d b true) else ((sS c).bind λj=>if (!j)=true then (qO c x3 d b true) else (if e=true then (qO c x3 d b true) else (qO c x3 d b f))))
theorem Xy{y B:VL}{q:List aU}{x3 b:Int}{n:List BY}(H:Sep w (Fo) rs)(s:rSl bA y q ∈ rs)(P:rSl kS B n ∈ rs){r:kN×(List Int)×Bool}(m:E1 q x3 b n=some r) :
    Cf 102 [y,.int .i64 x3,.int .i64 b,B] w λv w'=>∃ c9 d0,.tuple #[c9,d0,.bool r.2.2]=v/\Sep w' (Row 2 (kI .i64) d0 r.2.1::Fo) (rSl bA c9 r.1::rs):=by
 unfold E1 at m;refine ent func102 z ntmps102 z z λa E=>sq<|bx E H z λl w a H E=>bx E H z λf w a H E=>pr 3 E z λa E=>xp 1 E z λa E=>bd m λd7 b1 m=>xk2 E z (cf_ 97) (L6 H P b1) λw H a E=>pr 1 E z λa E=>xp 1 E z λa E=>sv2 E z (nR E z z z) λa E=>have H:=H.frs [0,1] z;bd m λd8 b2 m=>xk2 E z (cf_ 160) (E8 H s b2) λw H a E=>pn 1 E z λa E=>wS<|aL (λa w=>∃ Q,Jn 108 a w [(0,y),(3,B),(5,pt l 0),(6,pt f 0),(45,.bool Q)] (Blk l 2 [.int .i64 x3]::Blk f 2 [.int .i64 b]::Fo) rs (qO b x3 n q Q=some r)) ?_ ?_
 ·refine wG<|pr 1 E z λa E=>bd m λd9 b3 m=>xk2 E z (cf_ 162) (Vm H s b3) λw H a E=>pr 2 E z λa E=>cs m (λo m=>?_) λo m=>?_
  ·exact pk 15 E (kc 30 z o) z λa E=>nt<|⟨_,_,E.to z,H,Y0,m⟩
  refine gl 30 E H 0 o U2 z λa E=>bd m λe0 b4 m=>gc 30 E o z (cf_ 163) (P7 H b4)<|?_;rintro _ w ⟨rfl,H⟩ a E;refine pk 3 E (kc 30 z o) z λa E=>cs m (λp m=>?_) λp m=>?_
  ·exact pk 10 E (kc 35 z p) z λa E=>nt<|⟨_,_,E.to z,H,Y0,m⟩
  refine gl 35 E H 1 p U2 z λa E=>bd m λe1 b5 m=>gc 35 E p z (cf_ 163) (P7 H b5)<|?_;rintro _ w ⟨rfl,H⟩ a E;refine pk 3 E (kc 35 z p) z λa E=>cs m (λJ m=>?_) λJ m=>?_
  ·exact pk 5 E (kc 40 z J) z λa E=>nt<|⟨_,_,E.to z,H,Y0,m⟩
  refine pk 3 E (kc 40 z J) z λa E=>cs m (λL m=>?_) λL m=>?_
  ·exact pk 2 E (kc 43 z L) z λa E=>nt<|⟨_,_,E.to z,H,Y0,m⟩
  exact pk 2 E (kc 43 z L) z λa E=>nt<|⟨_,_,E.to z,H,Y0,m⟩
 ·clear E H m;rintro a w ⟨Q,d1,E,H,M,m⟩;unfold qO at m;refine wif E m z (λm=>?_) λm=>?_
  ·refine sq<|pn 3 E z λa E=>wR<|aH<|Wm E z z z z<|have H:=H.nilSl bA;have H:=H.nilRow 2 (kI .i64);have H:=H.drs [1,1];?_;cases m;exact ⟨_,_,z,H.reads (aD m0 (λr hr=>(t1 (M r hr))))⟩
  ·refine wK<|aA<|sq<|J4 (k:=2) (K:=(kyI .i64)) (d:=(kI .i64)) (g:=false) E H (wn z) z z z λt w a H E=>pr 1 E z λa E=>nx<|pn 1 E z λa E=>wS<|sp 1 E z λa E=>lS E H (M _ s) U58 z λa E=>pn 1 E z λa E=>wB<|bF (λC a w=>∃ D x20 F,Jn 108 a w [(0,y),(3,B),(5,pt l 0),(6,pt f 0),(13,.map (some t)),(14,.bool D),(47,y),(48,.int .i64 (q.length:Int)),(49,.int .i64 x20)] (Blk l 2 [.int .i64 x3]::Blk f 2 [.int .i64 b]::bX Tryz.prog 2 (kyI .i64) (kI .i64) false t F::Fo) rs (kZ b x3 n q C D x20 F=some r)) (((q.length:Int) - 0:Int).toNat+1) ?_ ?_
   ·exact have H:=H.frs [0,2,2] z;X4 ⟨E.to z,H,M,m⟩
   ·clear E H m;rintro C a w ⟨D,x20,F,d2,E,H,c,m⟩;cases C with
    | zero=>exact (bD m z).elim
    | succ C=>
     unfold kZ at m;refine sq<|pn 1 E z λa E=>wS<|wif E m z (λm=>?_) λm=>?_
     ·refine wK<|aA<|aL (λa w=>∃ R S,Jn 108 a w [(0,y),(3,B),(5,pt l 0),(6,pt f 0),(13,.map (some t)),(14,.bool R),(47,y),(48,.int .i64 (q.length:Int)),(49,.int .i64 x20)] (Blk l 2 [.int .i64 x3]::Blk f 2 [.int .i64 b]::bX Tryz.prog 2 (kyI .i64) (kI .i64) false t S::Fo) rs (xH (kZ b x3 n q C) x20 R S=some r)) ?_ ?_
      ·refine wB<|sq<|bd m λY b6 m=>dC E H (wn z) z z z z z (c _ s) U58 rG b6 λq30 a H E=>ldf gN E H z z z z z m0 U78 z rG λa E=>al2 E H z HQ λZ w a H E=>ss 0 E H z rG z λw H=>nt<|aL (λa w=>∃ T,Jn 108 a w [(0,y),(3,B),(5,pt l 0),(6,pt f 0),(13,.map (some t)),(14,.bool D),(16,pt Z 0),(47,y),(48,.int .i64 (q.length:Int)),(49,.int .i64 x20),(62,.bool T)] (Blk l 2 [.int .i64 x3]::Blk f 2 [.int .i64 b]::bX Tryz.prog 2 (kyI .i64) (kI .i64) false t F::Blk Z 78 (vK Y)::Fo) rs (r7 (kZ b x3 n q C) x20 Y b x3 F D T=some r)) ?_ ?_
       ·refine wG<|pr 1 E z λa E=>lb2 E H 0 U2 z λa E=>lb2 E H 1 U2 z λa E=>pr 2 E z λa E=>cs m (λj m=>?_) λj m=>?_
        ·refine pk 2 E (kc 57 z j) z λa E=>gl 57 E H 0 j U9 z λa E=>bd m λe2 b7 m=>gc 57 E j z (cf_ 164) (W3 H (t1 (c _ P)) b7)<|?_;rintro _ w ⟨rfl,H⟩ a E;exact pk 1 E (kc 57 z j) z λa E=>nt<|have H:=H.frs [0,3,3,3] z;⟨_,_,E.to z,H,(Y1 c),m⟩
        exact pk 5 E (kc 57 z j) z λa E=>nt<|have H:=H.frs [0,3,3,3] z;⟨_,_,E.to z,H,(Y1 c),m⟩
       clear E H m;rintro a w ⟨T,d3,E,H,N,m⟩;unfold r7 at m;refine wif E m z (λm=>?_) λm=>?_
       ·refine sp 1 E z λa E=>xp 1 E z λa E=>lb2 E H 3 U2 z λa E=>pr 1 E z λa E=>lb2 E H 3 U2 z λa E=>lb2 E H 1 U2 z λa E=>lb2 E H 0 U2 z λa E=>bk m λb8 m=>xc2 E z (cf_ 165) (MJ H b8)<|?_;rintro _ w ⟨rfl,H⟩ a E;refine nt<|wif E m z (λm=>?_) λm=>?_
        ·exact wG<|pr 2 E z λa E=>lb2 E H 3 U2 z λa E=>bd m λb0 b9 m=>sv2 E z (Xa (i:=2) (K:=(kyI .i64)) (z0:=0) (u:=b0) E H z z z z (fV U2) QI Xm b9) λa E=>pr 1 E z λa E=>bd m λe3 c0 m=>AM (i:=2) (K:=(kyI .i64)) (v:=IntKind.i64.wrap ((b0.getD 0)+1)) E H (wn z) z z z z z z (fV U2) QI c0 λw H=>wN<|bM<|aA<|have H:=H.drop 3;X3 ⟨E.to z,H,N,m⟩
        exact wK<|bM<|aA<|have H:=H.drop 3;X3 ⟨E.to z,H,N,m⟩
       exact wK<|bM<|aA<|have H:=H.drop 3;X3 ⟨E.to z,H,N,m⟩
      clear E H m;rintro a w ⟨R,S,d4,E,H,c1,m⟩;unfold xH at m;exact wG<|pn 2 E z λa E=>⟨C,nL C,X4 ⟨E.to z,H,c1,m⟩⟩
     ·refine wX<|aT<|aT<|cL<|aA<|wS<|sq<|pn 2 E z λa E=>wif E m z (λm=>?_) λm=>?_
      ·refine sp 2 E z λa E=>have H:=H.frs [1,1,2] z;bd m λe4 c2 m=>xc2 E z (cf_ 167) (P8 H c2)<|?_;rintro _ w ⟨e5,rfl,H⟩ a E;refine bk m λc3 m=>xc2 E z (cf_ 166) (HY (ip:=0) (im:=1) H z z c3) λe6 w H a E=>pn 3 E z λa E=>wR<|aH<|Wm E z z z z<|have H:=H.drs [1,1,1,1];?_;cases m;exact ⟨_,_,z,H.reads (aD (c _ s) (c))⟩
      ·refine wK<|aA<|sp 1 E z λa E=>bk m λc4 m=>xc2 E z (cf_ 60) (oA H (c _ s) c4) λe7 w H a E=>pn 1 E z λa E=>wS<|sp 1 E z λa E=>lS E H (c _ P) U33 z λa E=>pn 1 E z λa E=>wB<|bF (λO a w=>∃ U V G,Jn 108 a w [(5,pt l 0),(6,pt f 0),(17,U),(84,B),(85,.int .i64 (n.length:Int)),(86,.int .i64 G)] (Blk l 2 [.int .i64 x3]::Blk f 2 [.int .i64 b]::Row 78 bA U V::Fo) rs (mC n x3 b O V G=some r)) (((n.length:Int) - 0:Int).toNat+1) ?_ ?_
       ·exact have H:=H.drop 3;have H:=H.frs [0,2,2] z;X4 ⟨E.to z,H,c,m⟩
       ·clear E H m;rintro O a w ⟨U,V,G,d5,E,H,A,m⟩;cases O with
        | zero=>exact (bD m z).elim
        | succ O=>
         unfold mC at m;refine sq<|pn 1 E z λa E=>wS<|wif E m z (λm=>?_) λm=>?_
         ·refine wK<|aA<|aL (λa w=>∃ W X,Jn 108 a w [(5,pt l 0),(6,pt f 0),(17,W),(84,B),(85,.int .i64 (n.length:Int)),(86,.int .i64 G)] (Blk l 2 [.int .i64 x3]::Blk f 2 [.int .i64 b]::Row 78 bA W X::Fo) rs (r8 (mC n x3 b O) G X=some r)) ?_ ?_
          ·refine wB<|sq<|bd m λI c5 m=>dC E H (wn z) z z z z z (A _ P) U33 sz9 c5 λq64 a H E=>sv2 E z (oO E H z z m0 U9 z) λa E=>pr 1 E z λa E=>xp 2 E z λa E=>have H:=H.frs [1,1,2] z;bd m λe8 c6 m=>xk2 E z (cf_ 168) (yD H c6) λw H a E=>pr 5 E z λa E=>nx<|pn 2 E z λa E=>wif E m z (λm=>?_) λm=>?_
           ·exact wG<|pr 3 E z λa E=>lb2 E H 1 U2 z λa E=>lb2 E H 2 U2 z λa E=>sv2 E z (cN E z (E.evs z) (v:=.agg #[.string I,.int .i64 x3,.int .i64 b]) (by kernel_rfl)) λa E=>kH (e:=78) (d:=bA) (cs:=[.string I,.int .i64 x3,.int .i64 b]) (xs:=[(⟨I,x3,b⟩:aU)]) E H (wn z) z z z (E.evs z) (by kernel_rfl) z z (λok hr=>(Rows.single (d:=bA) (cs:=[.string I,.int .i64 x3,.int .i64 b]) (x:=(⟨I,x3,b⟩:aU)) Iu)) λe9 w a H E=>bk m λc7 m=>xc2 E z (cf_ 170) (Ho.insert_a (ix:=1) (iu:=0) H z z (by decide) c7) λf0 w H a E=>pr 1 E z λa E=>wN<|bM<|aA<|have H:=H.drop 0;have H:=H.frs [0,2,2] z;X3 ⟨E.to z,H,(Y1 A),m⟩
           exact wK<|bM<|aA<|have H:=H.frs [0,2,2] z;X3 ⟨E.to z,H,(Y1 A),m⟩
          clear E H m;rintro a w ⟨W,X,d6,E,H,c8,m⟩;unfold r8 at m;exact wG<|pn 2 E z λa E=>⟨O,nL O,X4 ⟨E.to z,H,c8,m⟩⟩
         ·refine wX<|aT<|aT<|cL<|aA<|sq<|pn 4 E z λa E=>wR<|Wm E z z z z<|have H:=H.thaw (i:=2) z;have H:=H.nilRow 2 (kI .i64);have H:=H.drs [1,1];?_;cases m;exact ⟨_,_,z,H.reads (aD m0 (λr hr=>(t1 (A r hr))))⟩

def tS(f:List yA)(x20:aI)(g:kN×(List Int)×Bool)(b:Int)(c:Z4)(d:Int):Option Xp:=
  (mpt (kyI .i64) f x20.Txn (⟨false,x20.Pieces,(⟨b,d,b == 0,0,c,(⟨[],[]⟩:aK),[],[],[]⟩:aW)⟩:fJ)).bind λe=>some ((⟨b,d,b == 0,0,c,(⟨[],[]⟩:aK),[],[],[]⟩:aW),g.1,e)
def pE(c:List yA)(x20:aI)(f:List aU)(g:cR)(j:List aG)(k:List aM)(e:Int):Option Xp:=
  if (e != 0)=true then ((dK e).bind λi=>some (i,f,c)) else ((E1 f x20.Txn x20.Age g).bind λd=>if (!d.2.2)=true then (some ((⟨131,0,false,0,[],(⟨[],[]⟩:aK),[],[],d.2.1⟩:aW),f,c)) else ((A5 (⟨j,k⟩:aK) x20.Pieces).bind λb=>tS c x20 d b.2.2.1 b.2.1 b.2.2.2))
def pF(b:List yA)(x20:aI)(e:List aU)(c:cR)(f:List aG)(g:List aM)(i:Int)(d:Bool):Option Xp:=
  if d=true then (pE b x20 e c f g 2) else (pE b x20 e c f g i)
def tT(b:List yA)(x20:aI)(e:List aU)(f:List aG)(g:List aM)(x:List aF)(i:Bool)(j:Bool)(y:F7)(k:Int)(l:Int)(m:Bool)(n:Int)(o:Z4)(p:dL)(q:dO)(s:B4)(t:Mm)(u:(List Int)):Option Xp:=
  if i=true then (if j=true then ((dK 133).bind λv=>some (v,e,b)) else (some ((⟨k,l,m,n,o,(⟨p,q⟩:aK),s,t,u⟩:aW),e,b))) else ((D9 x20.Pieces).bind λc=>(qZ x c).bind λd=>if (d == 0)=true then (pF b x20 e c f g d ((b.length:Int) == 128)) else (pF b x20 e c f g d false))
def jQ(d:List aG)(e:List aM)(f:List aF)(g:List aU)(c:List yA)(x20:aI):Option Xp:=
  (Q5 (kyI .i64) c x20.Txn Bd).bind λb=>tT c x20 g d e f b.2 b.1.over_ b.1.pieces_ b.1.a_.Err b.1.a_.At b.1.a_.Yes b.1.a_.Epoch b.1.a_.Results b.1.a_.Store.Nodes b.1.a_.Store.Turns b.1.a_.Events b.1.a_.Mounts b.1.a_.Wounded
theorem Gv{k d:Nat}{D F J N o x y A p q s t:VL}{b1:List aG}{b2:List aM}{f0:List aF}{c3:List aU}{u:List yA}{x20:aI}(H:Sep w (Blk k 87 [D,F,J,N,p,q,s,.map (some d),t]::bX Tryz.prog 2 (kyI .i64) dG true d u::Fo) rs)(c4:rSl aB D b1 ∈ rs)(c5:rSl aC F b2 ∈ rs)(f1:rSl aO J f0 ∈ rs)(L:rSl bA N c3 ∈ rs)(M:rSl bN o x20.Pieces ∈ rs)(c6:U5 Tryz.prog ∈ rs){r:aW×kN×F8}(m:jQ b1 b2 f0 c3 u x20=some r) :
    Cf 43 [pt k 0,.agg (aN x20 o x y A).toArray] w λv w'=>∃ f8 f9 g0 g1 g2 g3 g4,.agg (aS r.1 f8 f9 g0 g1 g2 g3).toArray=v/\Sep w' (Blk k 87 [D,F,J,g4,p,q,s,.map (some d),t]::bX Tryz.prog 2 (kyI .i64) dG true d r.2.2::Fo) (rSl aX f8 r.1.Results::rSl aB f9 r.1.Store.Nodes::rSl aC g0 r.1.Store.Turns::rSl aQ g1 r.1.Events::rSl bB g2 r.1.Mounts::rSl (kI .i64) g3 r.1.Wounded::rSl bA g4 r.2.1::rs):=by
 unfold jQ at m;refine ent func43 z ntmps43 z z λa E=>sq<|bx E H z λe w a H E=>al2 E H z lB λC w a H E=>nt<|wS<|aL (λa w=>∃ c7 e6 Q R S T U V c8 c9 e7 X Y Z b0 d0 d1 d2 d3 d4 d5 j,Env 103 a [(0,pt k 0),(3,pt e 0),(4,pt C 0),(5,pt c7 0),(6,.bool c8)]/\Sep w (Blk k 87 [D,F,J,N,p,q,s,.map (some d),t]::Blk e 37 (aN x20 o x y A)::Blk C 48 bH::Blk c7 154 [.bool c9,e6,.int .i64 X,.int .i64 Y,.bool Z,.int .i64 b0,Q,R,S,T,U,V]::bX Tryz.prog 2 (kyI .i64) dG true d u::Fo) j/\(∀ r,r ∈ rs->r ∈ j)/\rSl aX Q d0 ∈ j/\rSl aB R d1 ∈ j/\rSl aC S d2 ∈ j/\rSl aQ T d3 ∈ j/\rSl bB U d4 ∈ j/\rSl (kI .i64) V d5 ∈ j/\tT u x20 c3 b1 b2 f0 c8 c9 e7 X Y Z b0 d0 d1 d2 d3 d4 d5=some r) ?_ ?_
 ·refine bd m λi9 b5 m=>?_;have hI:dN [Blk e 37 (aN x20 o x y A),Blk k 87 [D,F,J,N,p,q,s,.map (some d),t]] [] { w with drawn:=w.drawn+1 }:=⟨_,_,H.kept (Kp.drawn _ w _),(aV mm1 (aV mm2 (bQ))),(bT)⟩
  refine qJ _ (.go 0 0 (.go 1 0 (.go 2 0 (.go 3 0 (.go 4 0 (.go 5 0 (.alt 6 (.go 7 0 (.go 8 0 (.go 9 0 (.go 10 1 (.go 11 1 (.go 12 2 .nil)))))) 10 (.go 6 1 (.go 7 0 (.go 8 0 (.go 9 0 (.go 11 1 (.go 12 2 .nil))))))))))))) [12] qS (by kernel_rfl) (λ_ _ _ h=>False.elim h.2) hI<|have H:=H.kept (Kp.drawn _ w (w.drawn+1));?_;generalize ({ w with drawn:=w.drawn+1 }:WD)=w at H hI ⊢
  replace hI:∃ W,dN [Blk e 37 (aN x20 o x y A),Blk k 87 [D,F,J,N,p,q,s,.map (some d),t]] [] W:=⟨_,hI⟩
  obtain ⟨W0,hI⟩:=hI;refine om E z λa E=>ov E z (λw hW=>(F2 E z z)) λa E=>ov E z (λw hW=>oR E z z (v:=pt k 7) (Xo _ _)) λa E=>ol E mm1 U85 z λa E=>ov E z (λw hW=>oR E z z (v:=pt e 2) (Qy _ _)) λa E=>ol E m0 U2 z λa E=>rD z z ?_ ?_
  ·refine tD (i:=3) (K:=(kyI .i64)) E H (wn z) z z z z z z (fV U2) U85 Rf Vu b5 λj0 a H E=>?_;obtain ⟨j1,j2,j3,j4,j5,j6,j7,rfl,h⟩:=Bc H;clear H;have H:=h;refine nt<|⟨sx H [1,2] z,om E z λa E=>ox E z λa E=>ox E z λa E=>cO z<|al2 E H z Vv λj8 w a H E=>nt<|⟨sx H [2,3] z,cO z<|ss 0 E H z Vw (R8 H mm6 mm5 mm4 mm3 mm2 mm1 m0) λw H=>nt<|⟨sx H [2,3] z,dF z<|pn 1 E z λa E=>fK<|?_⟩⟩⟩
   clear hI;exact aA<|have H:=H.frs [4,1,2,3,4] z;X22 ⟨E.to z,H,(Y8 Y0),mm5,mm4,mm3,mm2,mm1,m0,m⟩
  refine al2 E H z Vv λj9 w a H E=>nt<|⟨sx H [2,3] z,cO z<|tD (i:=4) (K:=(kyI .i64)) E H (wn z) z z z z z z (fV U2) U85 Rf Vu b5 λk0 a H E=>?_⟩
  obtain ⟨k1,k2,k3,k4,k5,k6,k7,rfl,h⟩:=Bc H;clear H;have H:=h;refine nt<|⟨sx H [2,3] z,om E z λa E=>ox E z λa E=>ox E z λa E=>cO z<|ss 0 E H z Vw (R8 H mm6 mm5 mm4 mm3 mm2 mm1 m0) λw H=>nt<|⟨sx H [2,3] z,dF z<|pn 1 E z λa E=>fK<|?_⟩⟩
  clear hI;exact aA<|have H:=H.frs [4,1,2,3,4] z;X22 ⟨E.to z,H,(Y8 Y0),mm5,mm4,mm3,mm2,mm1,m0,m⟩
 ·clear E H m;rintro a w ⟨c7,e6,Q,R,S,T,U,V,c8,c9,e7,X,Y,Z,b0,d0,d1,d2,d3,d4,d5,j,E,H,l,d6,d7,d8,d9,e0,e1,m⟩;unfold tT at m;refine sq<|pn 1 E z λa E=>wif E m z (λm=>?_) λm=>?_
  ·refine wS<|sp 1 E z λa E=>lb2 E H 3 U4 z λa E=>nt<|wif E m z (λm=>?_) λm=>?_
   ·refine sq<|bd m λg5 f2 m=>xc2 E z (cf_ 53) (eW H f2)<|?_;rintro _ w ⟨g6,g7,g8,g9,i0,i1,rfl,H⟩ a E;refine ss 2 E H z bR (aZ H m0 mm1 mm2 mm3 mm4 mm5) λw H=>nt<|wR<|aH<|aH<|oB 2 (aS g5 g6 g7 g8 g9 i0 i1) E H U48 z bR<|have H:=H.drs [1,1,1];?_;cases m;exact X7 ⟨z,H.rdx [0,1,2,3,4,5] z (aD (t6 (l _ L)) (λr hr=>(t6 (l r hr))))⟩
   refine wK<|aA<|sp 1 E z λa E=>ln 3 [.int .i64 X,.int .i64 Y,.bool Z,.int .i64 b0,Q,R,S,T,U,V] E H U48 z bR λa E=>ss 2 E H z bR (aZ H d6 d7 d8 d9 e0 e1) λw H=>nt<|wR<|aH<|oB 2 [.int .i64 X,.int .i64 Y,.bool Z,.int .i64 b0,Q,R,S,T,U,V] E H U48 z bR<|have H:=H.drs [1,1,1];?_;cases m;exact X7 ⟨z,H.reads (aD d6 (aD d7 (aD d8 (aD d9 (aD e0 (aD e1 (aD (l _ L) (l))))))))⟩
  ·refine wK<|aA<|sp 1 E z λa E=>lb2 E H 1 U26 z λa E=>bd m λb6 f3 m=>xc2 E z (cf_ 96) (Le H (l _ M) f3)<|?_;rintro _ w ⟨b7,rfl,H⟩ a E;refine pr 1 E z λa E=>xp 2 E z λa E=>have H:=H.thaw (i:=0) z;bd m λe8 f4 m=>xk2 E z (cf_ 100) (Ak H (t1 (l _ f1)) m0 f4) λw H a E=>pn 1 E z λa E=>aL (λa w=>∃ e2 O,Env 103 a [(0,pt k 0),(3,pt e 0),(4,pt C 0),(7,b7),(8,.int .i64 e2)]/\Sep w (Blk k 87 [D,F,J,N,p,q,s,.map (some d),t]::Blk e 37 (aN x20 o x y A)::Blk C 48 bH::bX Tryz.prog 2 (kyI .i64) dG true d u::Fo) O/\(∀ r,r ∈ rs->r ∈ O)/\rSl kS b7 b6 ∈ O/\pE u x20 c3 b6 b1 b2 e2=some r) ?_ ?_
   ·refine aL (λa w=>∃ b3 G,Env 103 a [(0,pt k 0),(3,pt e 0),(4,pt C 0),(7,b7),(8,.int .i64 e8),(47,.bool b3)]/\Sep w (Blk k 87 [D,F,J,N,p,q,s,.map (some d),t]::Blk e 37 (aN x20 o x y A)::Blk C 48 bH::bX Tryz.prog 2 (kyI .i64) dG true d u::Fo) G/\(∀ r,r ∈ rs->r ∈ G)/\rSl kS b7 b6 ∈ G/\pF u x20 c3 b6 b1 b2 e8 b3=some r) ?_ ?_
    ·refine wG<|pr 3 E z λa E=>cs m (λn m=>?_) λn m=>?_
     ·exact pk 3 E (kc 40 z n) z λa E=>gl 40 E H 0 n U85 z λa E=>gv 40 E n z (Bs (i:=4) E H z z z U85) λa E=>pk 2 E (kc 40 z n) z λa E=>nt<|have H:=H.drop 3;⟨_,_,E.to z,H,(Y1 l),m0,m⟩
     exact pk 7 E (kc 40 z n) z λa E=>nt<|have H:=H.drop 3;⟨_,_,E.to z,H,(Y1 l),m0,m⟩
    clear E H m;rintro a w ⟨b3,G,E,H,b8,b9,m⟩;unfold pF at m;refine wif E m z (λm=>?_) λm=>?_
    ·exact wG<|pn 1 E z λa E=>⟨_,_,E.to z,H,b8,b9,m⟩
    exact wK<|aA<|⟨_,_,E.to z,H,b8,b9,m⟩
   ·clear E H m;rintro a w ⟨e2,O,E,H,c,f5,m⟩;unfold pE at m;refine wS<|sq<|pn 2 E z λa E=>wif E m z (λm=>?_) λm=>?_
    ·refine sp 1 E z λa E=>bd m λi2 f6 m=>xc2 E z (cf_ 53) (eW H f6)<|?_;rintro _ w ⟨i3,i4,i5,i6,i7,i8,rfl,H⟩ a E;refine ss 2 E H z bR (aZ H m0 mm1 mm2 mm3 mm4 mm5) λw H=>nt<|wR<|aH<|oB 2 (aS i2 i3 i4 i5 i6 i7 i8) E H U48 z bR<|have H:=H.drs [1,1];?_;cases m;exact X7 ⟨z,H.rdx [0,1,2,3,4,5] z (aD (t6 (c _ L)) (λr hr=>(t6 (c r hr))))⟩
    ·refine wK<|aA<|wS<|dz [0,0,0,0,0,0,0,0,0,1,0,0,0,0,1,1,2] [0,1] H λw W0 hI H=>fn 3 E z λa E=>fb2 E m0 U58 z λa E=>fn 1 E z λa E=>fb2 E mm1 U2 z λa E=>fn 1 E z λa E=>fb2 E mm1 U2 z λa E=>fn 1 E z λa E=>bW z<|bd m λc0 f7 m=>xc2 E z (cf_ 102) (Xy H (c _ L) f5 f7)<|?_;rintro _ w ⟨e9,m1,rfl,H⟩ a E;refine nt<|⟨sx H [1,2] z,fn 4 E z λa E=>bW z<|pn 1 E z λa E=>⟨sx H [1,2] z,bW z<|pn 1 E z λa E=>⟨sx H [1,2] z,bK z<|pn 1 E z λa E=>bG<|?_⟩⟩⟩
     clear hI;refine aA<|wS<|sq<|pn 2 E z λa E=>wif E m z (λm=>?_) λm=>?_
     ·refine sp 1 E z λa E=>?_;obtain ⟨q99,e3,rfl⟩:=H.rowform (i:=0) z;refine sv2 E z (cN E z (E.evs z) (v:=.agg #[.int .i64 131,.int .i64 0,.bool false,.int .i64 0,nS,nS,nS,nS,nS,(.slice q99 c0.2.1.length e3)]) (by kernel_rfl)) λa E=>ss 3 E H z bR z λw H=>nt<|wR<|aH<|oB 3 [.int .i64 131,.int .i64 0,.bool false,.int .i64 0,nS,nS,nS,nS,nS,(.slice q99 c0.2.1.length e3)] E H U48 z bR<|have H:=H.thaw (i:=0) z;have H:=H.nilSl aX;have H:=H.nilSl aB;have H:=H.nilSl aC;have H:=H.nilSl aQ;have H:=H.nilSl bB;have H:=H.drs [1,1];?_;cases m;exact X7 ⟨z,H.rdx [4,3,2,1,0,5] z (aD (t7 (c _ L)) (λr hr=>(t7 (c r hr))))⟩
     ·refine wK<|aA<|aL (λa w=>∃ b4 b f g I,Env 103 a [(0,pt k 0),(3,pt e 0),(4,pt C 0),(8,.int .i64 b),(9,e9),(13,b4),(14,.int .i64 g)]/\Sep w (Blk k 87 [D,F,J,N,p,q,s,.map (some d),t]::Blk e 37 (aN x20 o x y A)::Blk C 48 bH::Row 93 aX b4 f::bX Tryz.prog 2 (kyI .i64) dG true d u::Fo) I/\(∀ r,r ∈ rs->r ∈ I)/\rSl bA e9 c0.1 ∈ I/\tS u x20 c0 b f g=some r) ?_ ?_
      ·refine bd m λk8 c1 m=>?_;have hI:dN [Blk k 87 [D,F,J,N,p,q,s,.map (some d),t],Blk e 37 (aN x20 o x y A)] [] { w with drawn:=w.drawn+1 }:=⟨_,_,H.kept (Kp.drawn _ w _),(aV mm1 (aV mm2 (bQ))),(bT)⟩
       refine qJ _ (.go 0 0 (.go 1 0 (.go 2 0 (.go 3 0 (.go 4 0 (.go 5 0 (.alt 6 (.go 7 0 (.go 8 0 (.go 9 0 (.go 10 0 (.go 11 0 (.go 12 1 (.go 13 1 (.go 14 1 (.go 15 1 (.go 16 2 .nil)))))))))) 12 (.go 6 1 (.go 7 0 (.go 8 0 (.go 9 0 (.go 10 0 (.go 11 0 (.go 13 1 (.go 14 1 (.go 15 1 (.go 16 2 .nil))))))))))))))))) [16] qS (by kernel_rfl) (λ_ _ _ h=>False.elim h.2) hI<|have H:=H.kept (Kp.drawn _ w (w.drawn+1));?_;generalize ({ w with drawn:=w.drawn+1 }:WD)=w at H hI ⊢
       replace hI:∃ W,dN [Blk k 87 [D,F,J,N,p,q,s,.map (some d),t],Blk e 37 (aN x20 o x y A)] [] W:=⟨_,hI⟩
       obtain ⟨W0,hI⟩:=hI;refine om E z λa E=>ov E z (λw hW=>(F2 E z z)) λa E=>ov E z (λw hW=>oR E z z (v:=pt k 0) (Rc _ _)) λa E=>ov E z (λw hW=>mW E z z (W7 (us:=[D,F]) m0 z U25 z cY w hW)) λa E=>ov E z (λw hW=>oR E z z (v:=pt e 5) (ET _ _)) λa E=>ol E mm1 U26 z λa E=>rD z z ?_ ?_
       ·refine xc2 E z (cf_ 23) (Bj (x1:=(⟨b1,b2⟩:aK)) H (t1 (c _ c4)) (t1 (c _ c5)) (t1 (c _ M)) (t1 (c _ c6)) c1)<|?_;rintro _ w ⟨k9,l0,l1,rfl,H⟩ a E;refine nt<|⟨sx H [2,3] z,om E z λa E=>ox E z λa E=>ox E z λa E=>ox E z λa E=>ox E z λa E=>cO z<|al2 E H z mX λl2 w a H E=>nt<|⟨sx H [3,4] z,cO z<|ss 0 E H z cY (iQ H m0 mm1) λw H=>nt<|⟨sx H [3,4] z,cO z<|pn 1 E z λa E=>⟨sx H [3,4] z,cO z<|pn 1 E z λa E=>⟨sx H [3,4] z,dF z<|pn 1 E z λa E=>fK<|?_⟩⟩⟩⟩⟩
        clear hI;exact aA<|have H:=H.drs [0,1];have H:=H.frs [4,1,4,4,4] z;X5 ⟨E.to z,H,(Y3 c),mm2,m⟩
       refine al2 E H z mX λl3 w a H E=>nt<|⟨sx H [2,3] z,cO z<|xc2 E z (cf_ 23) (Bj (x1:=(⟨b1,b2⟩:aK)) H (t1 (c _ c4)) (t1 (c _ c5)) (t1 (c _ M)) (t1 (c _ c6)) c1)<|?_⟩
       rintro _ w ⟨l4,l5,l6,rfl,H⟩ a E;refine nt<|⟨sx H [3,4] z,om E z λa E=>ox E z λa E=>ox E z λa E=>ox E z λa E=>ox E z λa E=>cO z<|ss 1 E H z cY (iQ H m0 mm1) λw H=>nt<|⟨sx H [3,4] z,cO z<|pn 1 E z λa E=>⟨sx H [3,4] z,cO z<|pn 1 E z λa E=>⟨sx H [3,4] z,dF z<|pn 1 E z λa E=>fK<|?_⟩⟩⟩⟩
       clear hI;exact aA<|have H:=H.drs [1,1];have H:=H.frs [4,1,4,4,4] z;X5 ⟨E.to z,H,(Y3 c),mm2,m⟩
      ·clear E H m;rintro a w ⟨b4,b,f,g,I,E,H,P,c2,m⟩;unfold tS at m;refine sp 5 E z λa E=>?_;obtain ⟨q108,B,rfl⟩:=H.rowform (i:=3) z;refine sv2 E z (cN E z (E.evs z) (v:=.agg #[.int .i64 b,.int .i64 g,.bool (b == 0),.int .i64 0,(.slice q108 f.length B),nS,nS,nS,nS,nS]) (by kernel_rfl)) λa E=>al2 E H z lB λl7 w a H E=>ss 0 E H z bR z λw H=>xp 4 E z λa E=>?_;obtain ⟨q111,l8,rfl⟩:=H.slform c2;refine ss 1 E H z QE z λw H=>nt<|wS<|dz [0,0,0,0,0,0,0,0,0,0,2] [0,1,2] H λw W0 hI H=>fn 3 E z λa E=>fb2 E mm1 U85 z λa E=>fn 1 E z λa E=>fb2 E mm2 U2 z λa E=>fn 1 E z λa E=>fb2 E mm2 U26 z λa E=>fbn E [.int .i64 b,.int .i64 g,.bool (b == 0),.int .i64 0,(.slice q108 f.length B),nS,nS,nS,nS,nS] z (wn z) z z z z m0 z U48 z bR λa E=>?_;obtain ⟨q113,e4,rfl⟩:=H.slform (P _ M);refine fv E z (λw hW=>(cN E z (E.evs z) (v:=.agg #[.bool false,(.slice q113 x20.Pieces.length e4),.int .i64 b,.int .i64 g,.bool (b == 0),.int .i64 0,(.slice q108 f.length B),nS,nS,nS,nS,nS]) (by kernel_rfl))) λa E=>bK z<|have H:=H.thaw (i:=4) z;bd m λl9 e5 m=>Ar (i:=4) (K:=(kyI .i64)) (v:=(⟨false,x20.Pieces,(⟨b,g,b == 0,0,f,(⟨[],[]⟩:aK),[],[],[]⟩:aW)⟩:fJ)) (cs:=[.bool false,(.slice q113 x20.Pieces.length e4),.int .i64 b,.int .i64 g,.bool (b == 0),.int .i64 0,(.slice q108 f.length B),nS,nS,nS,nS,nS]) E H (wn z) z z z z z z (fV U2) U85 e5 (λok hr=>(Au (hr _ (t1 (P _ M))) (hr _ m0) (Sl.nil _ _ _) (Sl.nil _ _ _) (Sl.nil _ _ _) (Sl.nil _ _ _) (Sl.nil _ _ _))) λw H=>nt<|bG<|?_;clear hI;refine aA<|sq<|ln 0 [.int .i64 b,.int .i64 g,.bool (b == 0),.int .i64 0,(.slice q108 f.length B),nS,nS,nS,nS,nS] E H U48 z bR λa E=>ss 3 E H z bR z λw H=>nt<|wR<|oB 3 [.int .i64 b,.int .i64 g,.bool (b == 0),.int .i64 0,(.slice q108 f.length B),nS,nS,nS,nS,nS] E H U48 z bR<|have H:=H.nilSl aB;have H:=H.nilSl aC;have H:=H.nilSl aQ;have H:=H.nilSl bB;have H:=H.nilSl (kI .i64);have H:=H.drs [0,1,1];?_;cases m;exact X7 ⟨z,H.rdx [5,4,3,2,1,0] z (aD (t6 c2) (λr hr=>(t6 (P r hr))))⟩

def jN(i:List aG)(j:List aM)(m:List aF)(k:List aU)(c:List aP)(d:List aE)(e:List lN)(f:List yA)(g:List lN)(x20:aI)(t:Bool):Option CQ:=
  if t=true then ((dK 1).bind λs=>some (s,i,j,m,k,c,d,e,f,g)) else (if (x20.Kind == 2)=true then ((jQ i j m k f x20).bind λn=>some (n.1,i,j,m,n.2.1,c,d,e,n.2.2,g)) else (if (x20.Kind == 3)=true then ((pQ i j k c d f x20).bind λb=>some (b.1,b.2.1,b.2.2.1,m,b.2.2.2.1,b.2.2.2.2.1,b.2.2.2.2.2.1,e,b.2.2.2.2.2.2,g)) else (if (x20.Kind == 4)=true then ((tK g x20).bind λp=>some (p.1,i,j,m,k,c,d,e,f,p.2)) else (if (x20.Kind == 5)=true then ((tN i j m k x20).bind λq=>some (q.1,i,j,q.2,k,c,d,e,f,g)) else (if (x20.Kind == 6)=true then ((sO i j m k x20).bind λl=>some (l.1,l.2.1,l.2.2.1,l.2.2.2,k,c,d,e,f,g)) else (if (x20.Kind == 7)=true then ((wL i j m x20).bind λo=>some ((⟨0,0,false,0,[],(⟨[],[]⟩:aK),[],[],[]⟩:aW),o.1,o.2.1,o.2.2,k,c,d,e,f,g)) else none))))))
def jO(n:List aG)(o:List aM)(i:List aF)(j:List aU)(b:List aP)(c:List aE)(d:List lN)(e:List yA)(f:List lN)(x20:aI)(p:Bool):Option CQ:=
  if p=true then (if (x20.Kind == 1)=true then ((pU n o i j b c d x20).bind λg=>some (g.1,g.2.1,g.2.2.1,i,j,g.2.2.2.1,g.2.2.2.2.1,g.2.2.2.2.2,e,f)) else (if (x20.Kind == 8)=true then ((pT b c d x20).bind λk=>some (k.1,n,o,i,j,k.2.1,k.2.2.1,k.2.2.2,e,f)) else (if (x20.Kind == 9)=true then ((pS b c d x20).bind λl=>some (l.1,n,o,i,j,l.2.1,l.2.2.1,l.2.2.2,e,f)) else (if (x20.Kind == 10)=true then ((sQ b c d x20).bind λm=>some (m.1,n,o,i,j,m.2.1,m.2.2.1,m.2.2.2,e,f)) else none)))) else (if (decide (x20.Kind ≥ 5))=true then (jN n o i j b c d e f x20 (sEq x20.Prefix (ByteArray.mk #[]))) else (jN n o i j b c d e f x20 false))
def hU(g:List aG)(i:List aM)(j:List aF)(k:List aU)(b:List aP)(c:List aE)(d:List lN)(e:List yA)(f:List lN)(x20:aI)(l:Bool):Option CQ:=
  if l=true then ((dK 1).bind λm=>some (m,g,i,j,k,b,c,d,e,f)) else (if (x20.Kind == 1)=true then (jO g i j k b c d e f x20 (x20.Kind == 1)) else (jO g i j k b c d e f x20 (decide (x20.Kind ≥ 8))))
def bY(i:List aG)(j:List aM)(k:List aF)(l:List aU)(c:List aP)(d:List aE)(e:List lN)(f:List yA)(g:List lN)(x20:aI):Option CQ:=
  (eE x20).bind λb=>if (!b)=true then (hU i j k l c d e f g x20 (!b)) else (hU i j k l c d e f g x20 (decide (x20.Kind > 10)))
theorem jC{I t u x:Nat}{V W X Y J K n o p q:VL}{Z:List aG}{b0:List aM}{b1:List aF}{b2:List aU}{L:List aP}{M:List aE}{A B:List lN}{C:List yA}{x20:aI}(H:Sep w (Blk I 87 [V,W,X,Y,J,K,.map (some t),.map (some u),.map (some x)]::bX Tryz.prog 2 (kyI .i64) bC true t A::bX Tryz.prog 2 (kyI .i64) dG true u C::bX Tryz.prog 2 (kyI .i64) bC true x B::Fo) rs)(e:rSl aB V Z ∈ rs)(f:rSl aC W b0 ∈ rs)(g:rSl aO X b1 ∈ rs)(d:rSl bA Y b2 ∈ rs)(k:rSl aR J L ∈ rs)(l:rSl aJ K M ∈ rs)(N:rSl bN n x20.Pieces ∈ rs)(b3:rSl aB o x20.Store.Nodes ∈ rs)(b4:rSl aC p x20.Store.Turns ∈ rs)(b5:rSl kS q x20.Gone ∈ rs)(O:U5 Tryz.prog ∈ rs){r:aW×dL×dO×gY×kN×eZ×dY×kO×F8×kO}(m:bY Z b0 b1 b2 L M A C B x20=some r) :
    Cf 13 [pt I 0,.agg (aN x20 n o p q).toArray] w λv w'=>∃ j3 j4 j5 j6 j7 j8 j9 d1 d2 d3 d4 d5,.agg (aS r.1 j3 j4 j5 j6 j7 j8).toArray=v/\Sep w' (Blk I 87 [j9,d1,d2,d3,d4,d5,.map (some t),.map (some u),.map (some x)]::bX Tryz.prog 2 (kyI .i64) bC true t r.2.2.2.2.2.2.2.1::bX Tryz.prog 2 (kyI .i64) dG true u r.2.2.2.2.2.2.2.2.1::bX Tryz.prog 2 (kyI .i64) bC true x r.2.2.2.2.2.2.2.2.2::Fo) (rSl aX j3 r.1.Results::rSl aB j4 r.1.Store.Nodes::rSl aC j5 r.1.Store.Turns::rSl aQ j6 r.1.Events::rSl bB j7 r.1.Mounts::rSl (kI .i64) j8 r.1.Wounded::rSl aB j9 r.2.1::rSl aC d1 r.2.2.1::rSl aO d2 r.2.2.2.1::rSl bA d3 r.2.2.2.2.1::rSl aR d4 r.2.2.2.2.2.1::rSl aJ d5 r.2.2.2.2.2.2.1::rs):=by
 unfold bY at m;refine ent func13 z ntmps13 z z λa E=>sq<|bx E H z λD w a H E=>al2 E H z lB λF w a H E=>nx<|sv2 E z (cN E z (E.evs z) (v:=.agg #[.nilFunc,.func (.func 42) #[] #[],.func (.func 43) #[] #[],.func (.func 44) #[] #[],.func (.func 45) #[] #[],.func (.func 46) #[] #[],.func (.func 47) #[] #[],.func (.func 48) #[] #[],.func (.func 49) #[] #[],.func (.func 50) #[] #[],.func (.func 51) #[] #[]]) (by kernel_rfl)) λa E=>al2 E H z TG λG w a H E=>ss 0 E H z TH z λw H=>nt<|wS<|wB<|aL (λa w=>∃ b6,Jn 46 a w [(0,pt I 0),(3,pt D 0),(4,pt F 0),(5,pt G 0),(7,.bool b6)] (Blk I 87 [V,W,X,Y,J,K,.map (some t),.map (some u),.map (some x)]::Blk D 37 (aN x20 n o p q)::Blk F 48 bH::Blk G 101 [.nilFunc,.func (.func 42) #[] #[],.func (.func 43) #[] #[],.func (.func 44) #[] #[],.func (.func 45) #[] #[],.func (.func 46) #[] #[],.func (.func 47) #[] #[],.func (.func 48) #[] #[],.func (.func 49) #[] #[],.func (.func 50) #[] #[],.func (.func 51) #[] #[]]::bX Tryz.prog 2 (kyI .i64) bC true t A::bX Tryz.prog 2 (kyI .i64) dG true u C::bX Tryz.prog 2 (kyI .i64) bC true x B::Fo) rs (hU Z b0 b1 b2 L M A C B x20 b6=some r)) ?_ ?_
 ·refine sq<|ln 2 (aN x20 n o p q) E H U37 z xZ λa E=>bd m λn7 c3 m=>xk2 E z (cf_ 52) (Rt H N b3 b4 b5 c3) λw H a E=>pn 2 E z λa E=>wif E m z (λm=>?_) λm=>?_
  ·exact wK<|aA<|have H:=H.frs [6,6,6,3,4,5,6] z;⟨_,_,E.to z,H,Y0,m⟩
  exact wG<|pr 1 E z λa E=>lb2 E H 2 U3 z λa E=>pn 2 E z λa E=>have H:=H.frs [6,6,6,3,4,5,6] z;⟨_,_,E.to z,H,Y0,m⟩
 ·clear E H m;rintro a w ⟨b6,n8,E,H,s,m⟩;unfold hU at m;refine wif E m z (λm=>?_) λm=>?_
  ·refine sq<|bd m λk0 d6 m=>xc2 E z (cf_ 53) (eW H d6)<|?_;rintro _ w ⟨k1,k2,k3,k4,k5,k6,rfl,H⟩ a E;refine ss 2 E H z bR (aZ H m0 mm1 mm2 mm3 mm4 mm5) λw H=>nt<|wR<|bJ<|aH<|oB 2 (aS k0 k1 k2 k3 k4 k5 k6) E H U48 z bR<|have H:=H.drs [1,1,1];?_;cases m;exact X12 ⟨z,H.rdx [0,1,2,3,4,5] z (aD (t6 (s _ e)) (aD (t6 (s _ f)) (aD (t6 (s _ g)) (aD (t6 (s _ d)) (aD (t6 (s _ k)) (aD (t6 (s _ l)) (λr hr=>(t6 (s r hr)))))))))⟩
  ·refine aL (λa w=>∃ b7,Jn 46 a w [(0,pt I 0),(3,pt D 0),(4,pt F 0),(5,pt G 0),(15,.bool b7)] (Blk I 87 [V,W,X,Y,J,K,.map (some t),.map (some u),.map (some x)]::Blk D 37 (aN x20 n o p q)::Blk F 48 bH::Blk G 101 [.nilFunc,.func (.func 42) #[] #[],.func (.func 43) #[] #[],.func (.func 44) #[] #[],.func (.func 45) #[] #[],.func (.func 46) #[] #[],.func (.func 47) #[] #[],.func (.func 48) #[] #[],.func (.func 49) #[] #[],.func (.func 50) #[] #[],.func (.func 51) #[] #[]]::bX Tryz.prog 2 (kyI .i64) bC true t A::bX Tryz.prog 2 (kyI .i64) dG true u C::bX Tryz.prog 2 (kyI .i64) bC true x B::Fo) rs (jO Z b0 b1 b2 L M A C B x20 b7=some r)) ?_ ?_
   ·refine sp 1 E z λa E=>lb2 E H 1 U3 z λa E=>pn 2 E z λa E=>wif E m z (λm=>?_) λm=>?_
    ·exact wK<|aA<|⟨_,_,E.to z,H,s,m⟩
    exact wG<|pr 1 E z λa E=>lb2 E H 1 U3 z λa E=>pn 2 E z λa E=>⟨_,_,E.to z,H,s,m⟩
   ·clear E H m;rintro a w ⟨b7,n9,E,H,c,m⟩;unfold jO at m;refine wif E m z (λm=>?_) λm=>?_
    ·refine wS<|dz [0,0,0,0,0,0,1,2] [1,3] H λw W0 hI H=>fn 1 E z λa E=>fbn E (aN x20 n o p q) z (wn z) z z z z m0 z U37 z xZ λa E=>fn 1 E z λa E=>fb2 E m0 U3 z λa E=>cs m (λb8 m=>?_) λb8 m=>?_
     ·refine fv E z (λw hW=>wW (j:=1) E z z z b8 z Fb Be) λa E=>fb2 E mm1 Fc z λa E=>bW z<|have H:=H.frs [6,6,5,5,5,6,6] z;bd m λk7 d7 m=>xc2 E z (cf_ 54) (Ie H (c _ e) (c _ f) (c _ g) (c _ d) (c _ k) (c _ l) (c _ N) (c _ O) d7)<|?_;rintro _ w ⟨k8,k9,l0,l1,l2,l3,p4,p5,p6,p7,rfl,H⟩ a E;refine nt<|⟨sx H [2,4] z,bK z<|ss 3 E H z bR (aZ H m0 mm1 mm2 mm3 mm4 mm5) λw H=>nt<|bG<|?_⟩
      clear hI;refine aA<|wR<|bJ<|aH<|oB 3 (aS k7.1 k8 k9 l0 l1 l2 l3) E H U48 z bR<|have H:=H.drs [2,2,2];?_;cases m;exact X12 ⟨z,H.rdx [0,1,2,3,4,5,6] z (aD (t1 mm6) (aD (t2 (t8 (c _ g))) (aD (t2 (t8 (c _ d))) (aD (t2 mm6) (aD (t3 mm6) (λr hr=>(t2 (t8 (c r hr)))))))))⟩
     refine cs m (λb9 m=>?_) λb9 m=>?_
     ·refine fv E z (λw hW=>wW (j:=8) E z z z b9 z Fb Be) λa E=>fb2 E mm1 Fc z λa E=>bW z<|have H:=H.frs [6,6,5,5,5,6,6] z;bd m λl4 d8 m=>xc2 E z (cf_ 54) (Ic H (c _ k) (c _ l) d8)<|?_;rintro _ w ⟨l5,l6,l7,l8,l9,m1,p8,p9,rfl,H⟩ a E;refine nt<|⟨sx H [2,4] z,bK z<|ss 3 E H z bR (aZ H m0 mm1 mm2 mm3 mm4 mm5) λw H=>nt<|bG<|?_⟩
      clear hI;refine aA<|wR<|bJ<|aH<|oB 3 (aS l4.1 l5 l6 l7 l8 l9 m1) E H U48 z bR<|have H:=H.drs [2,2,2];?_;cases m;exact X12 ⟨z,H.rdx [0,1,2,3,4,5] z (aD (t8 (c _ e)) (aD (t8 (c _ f)) (aD (t8 (c _ g)) (aD (t8 (c _ d)) (aD mm6 (aD (t1 mm6) (λr hr=>(t8 (c r hr)))))))))⟩
     refine cs m (λc0 m=>?_) λc0 m=>?_
     ·refine fv E z (λw hW=>wW (j:=9) E z z z c0 z Fb Be) λa E=>fb2 E mm1 Fc z λa E=>bW z<|have H:=H.frs [6,6,5,5,5,6,6] z;bd m λm2 d9 m=>xc2 E z (cf_ 54) (Ib H (c _ k) (c _ l) d9)<|?_;rintro _ w ⟨m3,m4,m5,m6,m7,m8,q0,q1,rfl,H⟩ a E;refine nt<|⟨sx H [2,4] z,bK z<|ss 3 E H z bR (aZ H m0 mm1 mm2 mm3 mm4 mm5) λw H=>nt<|bG<|?_⟩
      clear hI;refine aA<|wR<|bJ<|aH<|oB 3 (aS m2.1 m3 m4 m5 m6 m7 m8) E H U48 z bR<|have H:=H.drs [2,2,2];?_;cases m;exact X12 ⟨z,H.rdx [0,1,2,3,4,5] z (aD (t8 (c _ e)) (aD (t8 (c _ f)) (aD (t8 (c _ g)) (aD (t8 (c _ d)) (aD mm6 (aD (t1 mm6) (λr hr=>(t8 (c r hr)))))))))⟩
     refine cs m (λc1 m=>?_) λc1 m=>?_
     ·refine fv E z (λw hW=>wW (j:=10) E z z z c1 z Fb Be) λa E=>fb2 E mm1 Fc z λa E=>bW z<|have H:=H.frs [6,6,5,5,5,6,6] z;bd m λm9 e0 m=>xc2 E z (cf_ 54) (Lc H (c _ k) (c _ l) e0)<|?_;rintro _ w ⟨n0,n1,n2,n3,n4,n5,q2,q3,rfl,H⟩ a E;refine nt<|⟨sx H [2,4] z,bK z<|ss 3 E H z bR (aZ H m0 mm1 mm2 mm3 mm4 mm5) λw H=>nt<|bG<|?_⟩
      clear hI;refine aA<|wR<|bJ<|aH<|oB 3 (aS m9.1 n0 n1 n2 n3 n4 n5) E H U48 z bR<|have H:=H.drs [2,2,2];?_;cases m;exact X12 ⟨z,H.rdx [0,1,2,3,4,5] z (aD (t8 (c _ e)) (aD (t8 (c _ f)) (aD (t8 (c _ g)) (aD (t8 (c _ d)) (aD mm6 (aD (t1 mm6) (λr hr=>(t8 (c r hr)))))))))⟩
     exact (bD m z).elim
    ·refine aL (λa w=>∃ c2,Jn 46 a w [(0,pt I 0),(3,pt D 0),(4,pt F 0),(5,pt G 0),(29,.bool c2)] (Blk I 87 [V,W,X,Y,J,K,.map (some t),.map (some u),.map (some x)]::Blk D 37 (aN x20 n o p q)::Blk F 48 bH::Blk G 101 [.nilFunc,.func (.func 42) #[] #[],.func (.func 43) #[] #[],.func (.func 44) #[] #[],.func (.func 45) #[] #[],.func (.func 46) #[] #[],.func (.func 47) #[] #[],.func (.func 48) #[] #[],.func (.func 49) #[] #[],.func (.func 50) #[] #[],.func (.func 51) #[] #[]]::bX Tryz.prog 2 (kyI .i64) bC true t A::bX Tryz.prog 2 (kyI .i64) dG true u C::bX Tryz.prog 2 (kyI .i64) bC true x B::Fo) rs (jN Z b0 b1 b2 L M A C B x20 c2=some r)) ?_ ?_
     ·refine wG<|pr 1 E z λa E=>lb2 E H 1 U3 z λa E=>pr 2 E z λa E=>cs m (λy m=>?_) λy m=>?_
      ·exact pk 1 E (kc 33 z y) z λa E=>gl 33 E H 1 y U9 z λa E=>pk 3 E (kc 33 z y) z λa E=>nt<|⟨_,_,E.to z,H,c,m⟩
      exact pk 5 E (kc 33 z y) z λa E=>nt<|⟨_,_,E.to z,H,c,m⟩
     ·clear E H m;rintro a w ⟨c2,n6,E,H,b,m⟩;unfold jN at m;refine wif E m z (λm=>?_) λm=>?_
      ·refine sq<|bd m λe1 c4 m=>xc2 E z (cf_ 53) (eW H c4)<|?_;rintro _ w ⟨e2,e3,e4,e5,e6,e7,rfl,H⟩ a E;refine ss 2 E H z bR (aZ H m0 mm1 mm2 mm3 mm4 mm5) λw H=>nt<|wR<|bJ<|aH<|oB 2 (aS e1 e2 e3 e4 e5 e6 e7) E H U48 z bR<|have H:=H.drs [1,1,1];?_;cases m;exact X12 ⟨z,H.rdx [0,1,2,3,4,5] z (aD (t6 (b _ e)) (aD (t6 (b _ f)) (aD (t6 (b _ g)) (aD (t6 (b _ d)) (aD (t6 (b _ k)) (aD (t6 (b _ l)) (λr hr=>(t6 (b r hr)))))))))⟩
      ·refine wK<|bM<|aA<|wS<|dz [0,0,0,0,0,0,1,2] [1,3] H λw W0 hI H=>fn 1 E z λa E=>fb2 E m0 U3 z λa E=>cs m (λP m=>?_) λP m=>?_
       ·refine fv E z (λw hW=>wW (j:=2) E z z z P z Fb Be) λa E=>fb2 E mm1 Fc z λa E=>fn 1 E z λa E=>fbn E (aN x20 n o p q) z (wn z) z z z z m0 z U37 z xZ λa E=>bW z<|have H:=H.frs [6,5,5,5,5,6,6] z;bd m λe8 c5 m=>bI E (wn z) z z (bO E z z z ((cf_ 43) _)) (Gv H (b _ e) (b _ f) (b _ g) (b _ d) (b _ N) (b _ O) c5)<|?_;rintro _ w ⟨e9,f0,f1,f2,f3,f4,o0,rfl,H⟩ a E;refine nt<|⟨sx H [2,4] z,bK z<|ss 3 E H z bR (aZ H m0 mm1 mm2 mm3 mm4 mm5) λw H=>nt<|bG<|?_⟩
        clear hI;refine aA<|wR<|oB 3 (aS e8.1 e9 f0 f1 f2 f3 f4) E H U48 z bR<|have H:=H.drs [2,2,2];have H:=H.frs [3,2,3,3] z;?_;cases m;exact X12 ⟨z,H.rdx [0,1,2,3,4,5] z (aD (t7 (b _ e)) (aD (t7 (b _ f)) (aD (t7 (b _ g)) (aD mm6 (aD (t7 (b _ k)) (aD (t7 (b _ l)) (λr hr=>(t7 (b r hr)))))))))⟩
       ·refine cs m (λQ m=>?_) λQ m=>?_
        ·refine fv E z (λw hW=>wW (j:=3) E z z z Q z Fb Be) λa E=>fb2 E mm1 Fc z λa E=>fn 1 E z λa E=>fbn E (aN x20 n o p q) z (wn z) z z z z m0 z U37 z xZ λa E=>bW z<|have H:=H.frs [6,5,5,5,5,6,6] z;bd m λf5 c6 m=>bI E (wn z) z z (bO E z z z ((cf_ 44) _)) (Hx H (b _ e) (b _ f) (b _ d) (b _ k) (b _ l) (b _ O) c6)<|?_;rintro _ w ⟨f6,f7,f8,f9,g0,g1,o1,o2,o3,o4,o5,rfl,H⟩ a E;refine nt<|⟨sx H [2,4] z,bK z<|ss 3 E H z bR (aZ H m0 mm1 mm2 mm3 mm4 mm5) λw H=>nt<|bG<|?_⟩
         clear hI;refine aA<|wR<|oB 3 (aS f5.1 f6 f7 f8 f9 g0 g1) E H U48 z bR<|have H:=H.drs [2,2,2];have H:=H.frs [3,2,3,3] z;?_;cases m;exact X12 ⟨z,H.rdx [0,1,2,3,4,5,6] z (aD (t1 mm6) (aD (t3 (t8 (b _ g))) (aD (t2 mm6) (aD (t3 mm6) (aD (t4 mm6) (λr hr=>(t3 (t8 (b r hr)))))))))⟩
        ·refine cs m (λR m=>?_) λR m=>?_
         ·refine fv E z (λw hW=>wW (j:=4) E z z z R z Fb Be) λa E=>fb2 E mm1 Fc z λa E=>fn 1 E z λa E=>fbn E (aN x20 n o p q) z (wn z) z z z z m0 z U37 z xZ λa E=>bW z<|have H:=H.frs [5,5,5,5,5,6,6] z;bd m λg2 c7 m=>bI E (wn z) z z (bO E z z z ((cf_ 45) _)) (Hw H c7)<|?_;rintro _ w ⟨g3,g4,g5,g6,g7,g8,rfl,H⟩ a E;refine nt<|⟨sx H [2,4] z,bK z<|ss 3 E H z bR (aZ H m0 mm1 mm2 mm3 mm4 mm5) λw H=>nt<|bG<|?_⟩
          clear hI;refine aA<|wR<|oB 3 (aS g2.1 g3 g4 g5 g6 g7 g8) E H U48 z bR<|have H:=H.drs [2,2,2];have H:=H.frs [1,3,3,3] z;?_;cases m;exact X12 ⟨z,H.rdx [0,1,2,3,4,5] z (aD (t6 (b _ e)) (aD (t6 (b _ f)) (aD (t6 (b _ g)) (aD (t6 (b _ d)) (aD (t6 (b _ k)) (aD (t6 (b _ l)) (λr hr=>(t6 (b r hr)))))))))⟩
         ·refine cs m (λS m=>?_) λS m=>?_
          ·refine fv E z (λw hW=>wW (j:=5) E z z z S z Fb Be) λa E=>fb2 E mm1 Fc z λa E=>fn 1 E z λa E=>fbn E (aN x20 n o p q) z (wn z) z z z z m0 z U37 z xZ λa E=>bW z<|bd m λg9 c8 m=>bI E (wn z) z z (bO E z z z ((cf_ 46) _)) (Ia H (b _ e) (b _ f) (b _ g) (b _ d) c8)<|?_;rintro _ w ⟨i0,i1,i2,i3,i4,i5,o6,rfl,H⟩ a E;refine nt<|⟨sx H [1,3] z,bK z<|ss 2 E H z bR (aZ H m0 mm1 mm2 mm3 mm4 mm5) λw H=>nt<|bG<|?_⟩
           clear hI;refine aA<|wR<|oB 2 (aS g9.1 i0 i1 i2 i3 i4 i5) E H U48 z bR<|have H:=H.drs [1,1,1];?_;cases m;exact X12 ⟨z,H.rdx [0,1,2,3,4,5] z (aD (t7 (b _ e)) (aD (t7 (b _ f)) (aD mm6 (aD (t7 (b _ d)) (aD (t7 (b _ k)) (aD (t7 (b _ l)) (λr hr=>(t7 (b r hr)))))))))⟩
          ·refine cs m (λT m=>?_) λT m=>?_
           ·refine fv E z (λw hW=>wW (j:=6) E z z z T z Fb Be) λa E=>fb2 E mm1 Fc z λa E=>fn 1 E z λa E=>fbn E (aN x20 n o p q) z (wn z) z z z z m0 z U37 z xZ λa E=>bW z<|bd m λi6 c9 m=>bI E (wn z) z z (bO E z z z ((cf_ 47) _)) (Gr H (b _ e) (b _ f) (b _ g) (b _ d) (b _ b3) (b _ b4) (b _ b5) c9)<|?_;rintro _ w ⟨i7,i8,i9,j0,j1,j2,o7,o8,o9,rfl,H⟩ a E;refine nt<|⟨sx H [1,3] z,bK z<|ss 2 E H z bR (aZ H m0 mm1 mm2 mm3 mm4 mm5) λw H=>nt<|bG<|?_⟩
            clear hI;refine aA<|wR<|oB 2 (aS i6.1 i7 i8 i9 j0 j1 j2) E H U48 z bR<|have H:=H.drs [1,1,1];?_;cases m;exact X12 ⟨z,H.rdx [0,1,2,3,4,5,6] z (aD (t1 mm6) (aD (t2 mm6) (aD (t1 (t8 (b _ d))) (aD (t1 (t8 (b _ k))) (aD (t1 (t8 (b _ l))) (λr hr=>(t1 (t8 (b r hr)))))))))⟩
           ·refine cs m (λU m=>?_) λU m=>?_
            ·refine fv E z (λw hW=>wW (j:=7) E z z z U z Fb Be) λa E=>fb2 E mm1 Fc z λa E=>fn 1 E z λa E=>fbn E (aN x20 n o p q) z (wn z) z z z z m0 z U37 z xZ λa E=>bW z<|bd m λp0 d0 m=>bI E (wn z) z z (bO E z z z ((cf_ 48) _)) (Kz H (b _ e) (b _ f) (b _ g) d0)<|?_;rintro _ w ⟨p1,p2,p3,rfl,H⟩ a E;refine nt<|⟨sx H [1,3] z,bK z<|ss 2 E H z bR z λw H=>nt<|bG<|?_⟩
             clear hI;refine aA<|wR<|Hg E z (qI (i:=2) (us:=bH) H z z z U48 z bR)<|have H:=H.nilSl aX;have H:=H.nilSl aB;have H:=H.nilSl aC;have H:=H.nilSl aQ;have H:=H.nilSl bB;have H:=H.nilSl (kI .i64);have H:=H.drs [1,1,1];?_;cases m;exact X12 ⟨z,H.rdx [5,4,3,2,1,0,6] z (aD (t1 mm6) (aD (t2 mm6) (aD (t1 (t8 (b _ d))) (aD (t1 (t8 (b _ k))) (aD (t1 (t8 (b _ l))) (λr hr=>(t1 (t8 (b r hr)))))))))⟩
            ·exact (bD m z).elim

def mV(b:BY):Option F7:=
  (Hv ([(⟨1,b,(ByteArray.mk #[]),0,0,false⟩:eY)]:List eY)).bind λc=>some (c)
theorem tU{b:BY}(H:Sep w (Fo) rs){r:F7}(m:mV b=some r) :
    Cf 36 [.string b] w λv w'=>∃ c,c=v/\Sep w' (Row 99 bN c r::Fo) (rs):=by
 unfold mV at m;refine ent func36 z ntmps36 z z λa E=>sp 1 E z λa E=>xp 1 E z λa E=>sv2 E z (cN E z (E.evs z) (v:=.agg #[.int .i64 1,.string b,.string (ByteArray.mk #[]),.int .i64 0,.int .i64 0,.bool false]) (by kernel_rfl)) λa E=>kH (e:=134) (d:=T9) (cs:=[.int .i64 1,.string b,.string (ByteArray.mk #[]),.int .i64 0,.int .i64 0,.bool false]) (xs:=[(⟨1,b,(ByteArray.mk #[]),0,0,false⟩:eY)]) E H (wn z) z z z (E.evs z) (by kernel_rfl) z z (λok hr=>(Rows.single (d:=T9) (cs:=[.int .i64 1,.string b,.string (ByteArray.mk #[]),.int .i64 0,.int .i64 0,.bool false]) (x:=(⟨1,b,(ByteArray.mk #[]),0,0,false⟩:eY)) Ny)) λg w a H E=>have H:=H.thaw (i:=0) z;bd m λj f m=>xc2 E z (cf_ 77) (CS H m0 f)<|?_;rintro _ w ⟨k,rfl,H⟩ a E;refine pn 1 E z λa E=>wR<|o1 E z<|?_;cases m;exact ⟨_,z,H.reads (Y1 Y0)⟩

def E2(x1:aK)(c:List aF)(b:Bool):Option (Option Ht):=
  if b=true then (some none) else (some (some (x1.Nodes,x1.Turns,c)))
def yF(x1:aK)(b:List aF):Option (Option Ht):=
  (rM x1).bind λc=>if (!c)=true then (E2 x1 b true) else ((pK b).bind λd=>E2 x1 b (!d))
theorem Fs{x1:aK}{l n u:VL}{t:List aF}(H:Sep w (Fo) rs)(o:rSl aB l x1.Nodes ∈ rs)(p:rSl aC n x1.Turns ∈ rs)(q:rSl aO u t ∈ rs){r:Option Ht}(m:yF x1 t=some r) :
    Cf 9 [.agg #[l,n],u] w λv w'=>(r=none/\.pointer none=v/\Sep w' (Fo) rs)∨∃ y,r=some y/\∃ e B C D f i j,pt e 0=v/\Sep w' (Blk e 87 [B,C,D,nS,nS,nS,.map (some f),.map (some i),.map (some j)]::bX Tryz.prog 2 (kyI .i64) bC true f []::bX Tryz.prog 2 (kyI .i64) dG true i []::bX Tryz.prog 2 (kyI .i64) bC true j []::Fo) (rSl aB B y.1::rSl aC C y.2.1::rSl aO D y.2.2::rs):=by
 unfold yF at m;refine ent func9 z ntmps9 z z λa E=>sq<|bx E H z λF w a H E=>pn 1 E z λa E=>wS<|aL (λa w=>∃ s,Jn 20 a w [(1,u),(2,pt F 0),(12,.bool s)] (Blk F 25 [l,n]::Fo) rs (E2 x1 t s=some r)) ?_ ?_
 ·refine wG<|ln 0 [l,n] E H U25 z cY λa E=>bd m λP x m=>xk2 E z (cf_ 37) (Z7 H o p x) λw H a E=>pr 2 E z λa E=>cs m (λc m=>?_) λc m=>?_
  ·exact pk 4 E (kc 8 z c) z λa E=>nt<|⟨_,_,E.to z,H,Y0,m⟩
  refine pk 1 E (kc 8 z c) z λa E=>bd m λQ A m=>gc 8 E c z (cf_ 38) (I4 H q A)<|?_;rintro _ w ⟨rfl,H⟩ a E;exact pk 2 E (kc 8 z c) z λa E=>nt<|⟨_,_,E.to z,H,Y0,m⟩
 ·clear E H m;rintro a w ⟨s,O,E,H,b,m⟩;unfold E2 at m;refine wif E m z (λm=>?_) λm=>?_
  ·refine sq<|pn 1 E z λa E=>wR<|aH<|o1 E z<|have H:=H.drop 0;?_;cases m;exact .inl ⟨z,z,H.reads (b)⟩
  ·refine wK<|aA<|sq<|ln 0 [l,n] E H U25 z cY λa E=>pr 1 E z λa E=>J4 (k:=2) (K:=(kyI .i64)) (d:=bC) (g:=true) E H (wn z) z z z λG w a H E=>J4 (k:=2) (K:=(kyI .i64)) (d:=dG) (g:=true) E H (wn z) z z z λI w a H E=>J4 (k:=2) (K:=(kyI .i64)) (d:=bC) (g:=true) E H (wn z) z z z λJ w a H E=>?_;obtain ⟨q16,L,rfl⟩:=H.slform (b _ o);obtain ⟨q18,M,rfl⟩:=H.slform (b _ p);obtain ⟨q20,N,rfl⟩:=H.slform (b _ q);refine sv2 E z (cN E z (E.evs z) (v:=.agg #[(.slice q16 x1.Nodes.length L),(.slice q18 x1.Turns.length M),(.slice q20 t.length N),nS,nS,nS,.map (some G),.map (some I),.map (some J)]) (by kernel_rfl)) λa E=>bx E H z λR w a H E=>pn 1 E z λa E=>wR<|o1 E z<|have H:=H.drop 4;have H:=H.frs [1,2,3,3] z;?_;cases m;exact .inr ⟨_,z,X7 ⟨z,H.reads (aD (b _ o) (aD (b _ p) (aD (b _ q) (b))))⟩⟩

def Bx:Option (Option Ht):=
  (yF (⟨([(⟨(ByteArray.mk #[47]),(ByteArray.mk #[]),0,0,0⟩:aG)]:List aG),[]⟩:aK) ([(⟨(ByteArray.mk #[47]),1,1⟩:aF)]:List aF)).bind λc=>Ol c (some none) λb=>some (some (b.1,b.2.1,b.2.2))
theorem Lg(H:Sep w (Fo) rs){r:Option Ht}(m:Bx=some r) :
    Cf 35 [] w λv w'=>(r=none/\.pointer none=v/\Sep w' (Fo) rs)∨∃ y,r=some y/\∃ b j k l c f g,pt b 0=v/\Sep w' (Blk b 87 [j,k,l,nS,nS,nS,.map (some c),.map (some f),.map (some g)]::bX Tryz.prog 2 (kyI .i64) bC true c []::bX Tryz.prog 2 (kyI .i64) dG true f []::bX Tryz.prog 2 (kyI .i64) bC true g []::Fo) (rSl aB j y.1::rSl aC k y.2.1::rSl aO l y.2.2::rs):=by
 unfold Bx at m;refine ent func35 z ntmps35 z z λa E=>sp 1 E z λa E=>nx<|sv2 E z (cN E z (E.evs z) (v:=.agg #[.string (ByteArray.mk #[47]),.string (ByteArray.mk #[]),.int .i64 0,.int .i64 0,.int .i64 0]) (by kernel_rfl)) λa E=>kH (e:=107) (d:=aB) (cs:=[.string (ByteArray.mk #[47]),.string (ByteArray.mk #[]),.int .i64 0,.int .i64 0,.int .i64 0]) (xs:=[(⟨(ByteArray.mk #[47]),(ByteArray.mk #[]),0,0,0⟩:aG)]) E H (wn z) z z z (E.evs z) (by kernel_rfl) z z (λok hr=>(Rows.single (d:=aB) (cs:=[.string (ByteArray.mk #[47]),.string (ByteArray.mk #[]),.int .i64 0,.int .i64 0,.int .i64 0]) (x:=(⟨(ByteArray.mk #[47]),(ByteArray.mk #[]),0,0,0⟩:aG)) zG)) λu w a H E=>?_;obtain ⟨q2,x3,rfl⟩:=H.rowform (i:=0) z;refine sv2 E z (cN E z (E.evs z) (v:=.agg #[(.slice q2 ([(⟨(ByteArray.mk #[47]),(ByteArray.mk #[]),0,0,0⟩:aG)]:List aG).length x3),nS]) (by kernel_rfl)) λa E=>sv2 E z (cN E z (E.evs z) (v:=.agg #[.string (ByteArray.mk #[47]),.int .i64 1,.int .i64 1]) (by kernel_rfl)) λa E=>kH (e:=31) (d:=aO) (cs:=[.string (ByteArray.mk #[47]),.int .i64 1,.int .i64 1]) (xs:=[(⟨(ByteArray.mk #[47]),1,1⟩:aF)]) E H (wn z) z z z (E.evs z) (by kernel_rfl) z z (λok hr=>(Rows.single (d:=aO) (cs:=[.string (ByteArray.mk #[47]),.int .i64 1,.int .i64 1]) (x:=(⟨(ByteArray.mk #[47]),1,1⟩:aF)) B9)) λA w a H E=>have H:=H.thaw (i:=1) z;have H:=H.nilSl aC;have H:=H.thaw (i:=0) z;bd m λB n m=>xc2 E z (cf_ 9) (Fs (x1:=(⟨([(⟨(ByteArray.mk #[47]),(ByteArray.mk #[]),0,0,0⟩:aG)]:List aG),[]⟩:aK)) H mm2 mm1 m0 n)<|?_;rintro _ w (⟨rfl,rfl,H⟩ | ⟨o,rfl,C,D,F,p,q,s,t,rfl,H⟩) a E
 ·replace m:=Qk m
  refine pn 1 E z λa E=>wR<|o1 E z<|?_;cases m;exact .inl ⟨z,z,H.reads (λr hr=>(t3 hr))⟩
 ·replace m:=Ql m
  refine pn 1 E z λa E=>wR<|o1 E z<|?_;cases m;exact .inr ⟨_,z,X7 ⟨z,H.rdx [0,1,2] z (λr hr=>(t6 hr))⟩⟩

def uU(b:List aU):Option kN:=
  (ck (b.length <= LIM)).bind λc=>some (b)
theorem Al{k:Nat}{l b c d e f g i j:VL}{p:List aU}(H:Sep w (Blk k 87 [b,c,d,l,e,f,g,i,j]::Fo) rs)(n:rSl bA l p ∈ rs){r:kN}(m:uU p=some r) :
    Cf 20 [pt k 0] w λv w'=>∃ q,q=v/\Sep w' (Row 78 bA q r::Blk k 87 [b,c,d,l,e,f,g,i,j]::Fo) (rs):=by
 unfold uU at m;refine ent func20 z ntmps20 z z λa E=>sp 1 E z λa E=>xp 3 E z λa E=>lb2 E H 0 U58 z λa E=>bk m λo m=>xc2 E z (cf_ 60) (oA H n o) λs w H a E=>pr 1 E z λa E=>nt<|wR<|o1 E z<|?_;cases m;exact ⟨_,z,H.reads Y0⟩

def G4(b:List aF):Option gY:=
  (ck (b.length <= LIM)).bind λc=>some (b)
theorem Ig{k:Nat}{l b c d e f g i j:VL}{p:List aF}(H:Sep w (Blk k 87 [b,c,l,d,e,f,g,i,j]::Fo) rs)(n:rSl aO l p ∈ rs){r:gY}(m:G4 p=some r) :
    Cf 25 [pt k 0] w λv w'=>∃ q,q=v/\Sep w' (Row 31 aO q r::Blk k 87 [b,c,l,d,e,f,g,i,j]::Fo) (rs):=by
 unfold G4 at m;refine ent func25 z ntmps25 z z λa E=>sp 1 E z λa E=>xp 3 E z λa E=>lb2 E H 0 U32 z λa E=>bk m λo m=>xc2 E z (cf_ 66) (tY H n o) λs w H a E=>pr 1 E z λa E=>nt<|wR<|o1 E z<|?_;cases m;exact ⟨_,z,H.reads Y0⟩

def lM(b:List aG)(c:List aM):Option aK:=
  (ck (b.length <= LIM)).bind λd=>(ck (c.length <= LIM)).bind λe=>some ((⟨b,c⟩:aK))
theorem zE{p:Nat}{q s d e f g j k l:VL}{b:List aG}{c:List aM}(H:Sep w (Blk p 87 [q,s,d,e,f,g,j,k,l]::Fo) rs)(t:rSl aB q b ∈ rs)(u:rSl aC s c ∈ rs){r:aK}(m:lM b c=some r) :
    Cf 15 [pt p 0] w λv w'=>∃ A B,.agg #[A,B]=v/\Sep w' (Blk p 87 [q,s,d,e,f,g,j,k,l]::Fo) (rSl aB A r.Nodes::rSl aC B r.Turns::rs):=by
 unfold lM at m;refine ent func15 z ntmps15 z z λa E=>sq<|al2 E H z mX λC w a H E=>nt<|wS<|dw [(0,0),(1,0),(2,0),(3,0),(4,0),(6,0),(7,0),(8,0),(9,0),(10,0),(5,1),(11,1),(12,0),(13,2)] [1] [] H (by kernel_rfl) (λ_ _ _ h=>False.elim h.2) λw W0 hI H=>fn 4 E z λa E=>fb2 E m0 U22 z λa E=>fn 4 E z λa E=>fb2 E m0 U23 z λa E=>bW z<|bk m λx m=>xc2 E z (cf_ 56) (vI H t x) λD w H a E=>nt<|⟨sx H [2] z,bW z<|bk m λy m=>xc2 E z (cf_ 57) (vJ H u y) λF w H a E=>nt<|⟨sx H [3] z,?_⟩⟩
 obtain ⟨q36,n,rfl⟩:=H.rowform (i:=1) z;obtain ⟨q38,o,rfl⟩:=H.rowform (i:=0) z;refine fv E z (λw hW=>(cN E z (E.evs z) (v:=.agg #[(.slice q36 b.length n),(.slice q38 c.length o)]) (by kernel_rfl))) λa E=>bK z<|ss 2 E H z cY z λw H=>nt<|bG<|?_;clear hI;refine aA<|wR<|oB 2 [(.slice q36 b.length n),(.slice q38 c.length o)] E H U25 z cY<|have H:=H.thaw (i:=1) z;have H:=H.thaw (i:=0) z;have H:=H.drop 0;?_;cases m;exact ⟨_,_,z,H.rdx [1,0] z (λr hr=>(t2 hr))⟩

def N3:Option Bool:=
  Bx.bind λu=>Ol u (some (false)) λj=>(mV (ByteArray.mk #[47,97])).bind λp=>(bY j.1 j.2.1 j.2.2 ([]:List aU) ([]:List aP) ([]:List aE) [] [] [] (⟨1,1,0,0,false,p,(ByteArray.mk #[]),0,0,(⟨[],[]⟩:aK),[],(⟨0,0,(ByteArray.mk #[]),false⟩:aP)⟩:aI)).bind λd=>(mV (ByteArray.mk #[47,97])).bind λq=>(bY d.2.1 d.2.2.1 d.2.2.2.1 d.2.2.2.2.1 d.2.2.2.2.2.1 d.2.2.2.2.2.2.1 d.2.2.2.2.2.2.2.1 d.2.2.2.2.2.2.2.2.1 d.2.2.2.2.2.2.2.2.2 (⟨1,1,0,0,false,q,(ByteArray.mk #[]),0,0,(⟨[],[]⟩:aK),[],(⟨0,0,(ByteArray.mk #[]),false⟩:aP)⟩:aI)).bind λc=>(mV (ByteArray.mk #[47,97,47,98])).bind λs=>(bY c.2.1 c.2.2.1 c.2.2.2.1 c.2.2.2.2.1 c.2.2.2.2.2.1 c.2.2.2.2.2.2.1 c.2.2.2.2.2.2.2.1 c.2.2.2.2.2.2.2.2.1 c.2.2.2.2.2.2.2.2.2 (⟨2,0,5,1,false,s,(ByteArray.mk #[]),0,0,(⟨[],[]⟩:aK),[],(⟨0,0,(ByteArray.mk #[]),false⟩:aP)⟩:aI)).bind λe=>(mV (ByteArray.mk #[47,97,47,99])).bind λt=>(bY e.2.1 e.2.2.1 e.2.2.2.1 e.2.2.2.2.1 e.2.2.2.2.2.1 e.2.2.2.2.2.2.1 e.2.2.2.2.2.2.2.1 e.2.2.2.2.2.2.2.2.1 e.2.2.2.2.2.2.2.2.2 (⟨1,2,0,0,false,t,(ByteArray.mk #[]),0,0,(⟨[],[]⟩:aK),[],(⟨0,0,(ByteArray.mk #[]),false⟩:aP)⟩:aI)).bind λf=>(bY f.2.1 f.2.2.1 f.2.2.2.1 f.2.2.2.2.1 f.2.2.2.2.2.1 f.2.2.2.2.2.2.1 f.2.2.2.2.2.2.2.1 f.2.2.2.2.2.2.2.2.1 f.2.2.2.2.2.2.2.2.2 (⟨3,0,5,0,true,[],(ByteArray.mk #[]),0,0,(⟨[],[]⟩:aK),[],(⟨0,0,(ByteArray.mk #[]),false⟩:aP)⟩:aI)).bind λg=>(bY g.2.1 g.2.2.1 g.2.2.2.1 g.2.2.2.2.1 g.2.2.2.2.2.1 g.2.2.2.2.2.2.1 g.2.2.2.2.2.2.2.1 g.2.2.2.2.2.2.2.2.1 g.2.2.2.2.2.2.2.2.2 (⟨5,0,0,0,false,[],(ByteArray.mk #[47,97]),1,0,(⟨[],[]⟩:aK),[],(⟨0,0,(ByteArray.mk #[]),false⟩:aP)⟩:aI)).bind λb=>(mV (ByteArray.mk #[47,97,47,100])).bind λk=>(bY b.2.1 b.2.2.1 b.2.2.2.1 b.2.2.2.2.1 b.2.2.2.2.2.1 b.2.2.2.2.2.2.1 b.2.2.2.2.2.2.2.1 b.2.2.2.2.2.2.2.2.1 b.2.2.2.2.2.2.2.2.2 (⟨1,3,0,0,false,k,(ByteArray.mk #[]),0,0,(⟨[],[]⟩:aK),[],(⟨0,0,(ByteArray.mk #[]),false⟩:aP)⟩:aI)).bind λi=>if (d.1.Err == 0)=true then (if (c.1.Err == 0)=true then (if ((c.1.Results.length:Int) == 2)=true then (if e.1.Yes=true then (if (f.1.Err == 131)=true then (if (g.1.Err == 0)=true then ((lM i.2.1 i.2.2.1).bind λl=>if ((l.Nodes.length:Int) == 3)=true then (if (b.1.Epoch == 1)=true then (if ((b.1.Store.Nodes.length:Int) == 1)=true then (if (i.1.Err == 131)=true then ((G4 i.2.2.2.1).bind λm=>if ((m.length:Int) == 2)=true then ((uU i.2.2.2.2.1).bind λn=>if ((n.length:Int) == 0)=true then ((yF (⟨[],[]⟩:aK) ([(⟨(ByteArray.mk #[]),0,0⟩:aF)]:List aF)).bind λo=>Ol o (some (true)) λv=>some (false)) else (some (false))) else (some (false))) else (some (false))) else (some (false))) else (some (false))) else (some (false))) else (some (false))) else (some (false))) else (some (false))) else (some (false))) else (some (false))) else (some (false))
theorem Lh(H:Sep w (Fo) rs)(G:U5 Tryz.prog ∈ rs){r:Bool}(m:N3=some r) :
    Cf 8 [] w λv w'=>.bool r=v/\Sep w' (Fo) (rs):=by
 unfold N3 at m;refine ent func8 z ntmps8 z z λa E=>sp 1 E z λa E=>nx<|bd m λp1 m6 m=>xc2 E z (cf_ 35) (Lg H m6)<|?_;rintro _ w (⟨rfl,rfl,H⟩ | ⟨I,rfl,i8,m7,m8,m9,U,V,F,rfl,H⟩) a E
 ·replace m:=Qk m
  refine pn 1 E z λa E=>wS<|sp 1 E z λa E=>sv2 E z (zP E z z z (v:=.bool true) (by kernel_rfl)) λa E=>nt<|wp_cond_true (E.eval z)<|sq<|pn 1 E z λa E=>wR<|aH<|o1 E z<|?_;cases m;exact ⟨z,H.reads Y0⟩
 ·replace m:=Ql m
  refine pn 1 E z λa E=>wS<|sp 1 E z λa E=>sv2 E z (zP E z z z (v:=.bool false) (by kernel_rfl)) λa E=>nt<|wp_cond_false (E.eval z)<|wK<|aA<|sp 1 E z λa E=>bd m λJ k3 m=>xc2 E z (cf_ 36) (tU H k3)<|?_;rintro _ w ⟨o7,rfl,H⟩ a E;obtain ⟨q15,c5,rfl⟩:=H.rowform (i:=0) z;refine sv2 E z (cN E z (E.evs z) (v:=.agg #[.int .i64 1,.int .i64 1,.int .i64 0,.int .i64 0,.bool false,(.slice q15 J.length c5),.string (ByteArray.mk #[]),.int .i64 0,.int .i64 0,nS,nS,nS,.int .i64 0,.int .i64 0,.string (ByteArray.mk #[]),.bool false]) (by kernel_rfl)) λa E=>have H:=H.thaw (i:=0) z;have H:=H.nilSl aB;have H:=H.nilSl aC;have H:=H.nilSl kS;have H:=H.nilSl bA;have H:=H.nilSl aR;have H:=H.nilSl aJ;bd m λb k4 m=>xc2 E z (cf_ 13) (jC (x20:=(⟨1,1,0,0,false,J,(ByteArray.mk #[]),0,0,(⟨[],[]⟩:aK),[],(⟨0,0,(ByteArray.mk #[]),false⟩:aP)⟩:aI)) H (t1 mm6) (t2 mm6) (t3 mm6) mm2 mm1 m0 mm6 mm5 mm4 mm3 (t2 (t8 G)) k4)<|?_;rintro _ w ⟨K,L,M,N,O,P,c6,c7,c8,c9,d0,d1,rfl,H⟩ a E;refine al2 E H z lB λc4 w a H E=>ss 0 E H z bR (aZ H m0 mm1 mm2 mm3 mm4 mm5) λw H=>?_
  replace H:Sep w (Blk c4 48 (aS b.1 K L M N O P)::Blk i8 87 [c6,c7,c8,c9,d0,d1,.map (some U),.map (some V),.map (some F)]::bX Tryz.prog 2 (kyI .i64) bC true U b.2.2.2.2.2.2.2.1::bX Tryz.prog 2 (kyI .i64) dG true V b.2.2.2.2.2.2.2.2.1::bX Tryz.prog 2 (kyI .i64) bC true F b.2.2.2.2.2.2.2.2.2::Fo) _:=H
  refine xp 1 E z λa E=>bd m λQ k5 m=>xc2 E z (cf_ 36) (tU H k5)<|?_;rintro _ w ⟨o8,rfl,H⟩ a E;obtain ⟨q35,d2,rfl⟩:=H.rowform (i:=0) z;refine sv2 E z (cN E z (E.evs z) (v:=.agg #[.int .i64 1,.int .i64 1,.int .i64 0,.int .i64 0,.bool false,(.slice q35 Q.length d2),.string (ByteArray.mk #[]),.int .i64 0,.int .i64 0,nS,nS,nS,.int .i64 0,.int .i64 0,.string (ByteArray.mk #[]),.bool false]) (by kernel_rfl)) λa E=>have H:=H.thaw (i:=0) z;have H:=H.nilSl aB;have H:=H.nilSl aC;have H:=H.nilSl kS;have H:=H.frs [0,4,4,4,4] z;bd m λf k6 m=>xc2 E z (cf_ 13) (jC (x20:=(⟨1,1,0,0,false,Q,(ByteArray.mk #[]),0,0,(⟨[],[]⟩:aK),[],(⟨0,0,(ByteArray.mk #[]),false⟩:aP)⟩:aI)) H (t4 mm6) (t5 mm6) (t6 mm6) (t7 mm6) (t8 mm6) (t1 (t8 mm6)) mm3 mm2 mm1 m0 (t2 (t8 (t8 (t8 G)))) k6)<|?_;rintro _ w ⟨W,X,Y,Z,b0,b1,j6,j7,j8,j9,k0,k1,rfl,H⟩ a E;refine al2 E H z lB λd3 w a H E=>ss 0 E H z bR (aZ H m0 mm1 mm2 mm3 mm4 mm5) λw H=>xp 1 E z λa E=>bd m λR k7 m=>xc2 E z (cf_ 36) (tU H k7)<|?_;rintro _ w ⟨o9,rfl,H⟩ a E;obtain ⟨q55,d4,rfl⟩:=H.rowform (i:=0) z;refine sv2 E z (cN E z (E.evs z) (v:=.agg #[.int .i64 2,.int .i64 0,.int .i64 5,.int .i64 1,.bool false,(.slice q55 R.length d4),.string (ByteArray.mk #[]),.int .i64 0,.int .i64 0,nS,nS,nS,.int .i64 0,.int .i64 0,.string (ByteArray.mk #[]),.bool false]) (by kernel_rfl)) λa E=>have H:=H.thaw (i:=0) z;have H:=H.nilSl aB;have H:=H.nilSl aC;have H:=H.nilSl kS;have H:=H.frs [5,1,5,5,5,5] z;bd m λc k8 m=>xc2 E z (cf_ 13) (jC (x20:=(⟨2,0,5,1,false,R,(ByteArray.mk #[]),0,0,(⟨[],[]⟩:aK),[],(⟨0,0,(ByteArray.mk #[]),false⟩:aP)⟩:aI)) H (t4 mm6) (t5 mm6) (t6 mm6) (t7 mm6) (t8 mm6) (t1 (t8 mm6)) mm3 mm2 mm1 m0 (t2 (t8 (t8 (t8 (t8 (t8 G)))))) k8)<|?_;rintro _ w ⟨b2,b3,b4,b5,b6,b7,d5,d6,d7,d8,d9,e0,rfl,H⟩ a E;refine al2 E H z lB λe1 w a H E=>ss 0 E H z bR (aZ H m0 mm1 mm2 mm3 mm4 mm5) λw H=>xp 1 E z λa E=>bd m λS k9 m=>xc2 E z (cf_ 36) (tU H k9)<|?_;rintro _ w ⟨p0,rfl,H⟩ a E;obtain ⟨q75,e2,rfl⟩:=H.rowform (i:=0) z;refine sv2 E z (cN E z (E.evs z) (v:=.agg #[.int .i64 1,.int .i64 2,.int .i64 0,.int .i64 0,.bool false,(.slice q75 S.length e2),.string (ByteArray.mk #[]),.int .i64 0,.int .i64 0,nS,nS,nS,.int .i64 0,.int .i64 0,.string (ByteArray.mk #[]),.bool false]) (by kernel_rfl)) λa E=>have H:=H.thaw (i:=0) z;have H:=H.nilSl aB;have H:=H.nilSl aC;have H:=H.nilSl kS;have H:=H.frs [6,6,2,6,6,6,6] z;?_
  replace H:Sep w (Blk i8 87 [d5,d6,d7,d8,d9,e0,.map (some U),.map (some V),.map (some F)]::bX Tryz.prog 2 (kyI .i64) bC true U c.2.2.2.2.2.2.2.1::bX Tryz.prog 2 (kyI .i64) dG true V c.2.2.2.2.2.2.2.2.1::bX Tryz.prog 2 (kyI .i64) bC true F c.2.2.2.2.2.2.2.2.2::Blk e1 48 (aS c.1 b2 b3 b4 b5 b6 b7)::Blk d3 48 (aS f.1 W X Y Z b0 b1)::Blk c4 48 (aS b.1 K L M N O P)::Fo) (rSl kS (nS) ([]:List BY)::rSl aC (nS) ([]:List aM)::rSl aB (nS) ([]:List aG)::rSl bN (.slice q75 S.length e2) S::rSl aX b2 c.1.Results::rSl aB b3 c.1.Store.Nodes::rSl aC b4 c.1.Store.Turns::rSl aQ b5 c.1.Events::rSl bB b6 c.1.Mounts::rSl (kI .i64) b7 c.1.Wounded::rSl aB d5 c.2.1::rSl aC d6 c.2.2.1::rSl aO d7 c.2.2.2.1::rSl bA d8 c.2.2.2.2.1::rSl aR d9 c.2.2.2.2.2.1::rSl aJ e0 c.2.2.2.2.2.2.1::rSl kS (nS) ([]:List BY)::rSl aC (nS) ([]:List aM)::rSl aB (nS) ([]:List aG)::rSl bN (.slice q55 R.length d4) R::rSl aX W f.1.Results::rSl aB X f.1.Store.Nodes::rSl aC Y f.1.Store.Turns::rSl aQ Z f.1.Events::rSl bB b0 f.1.Mounts::rSl (kI .i64) b1 f.1.Wounded::rSl aB j6 f.2.1::rSl aC j7 f.2.2.1::rSl aO j8 f.2.2.2.1::rSl bA j9 f.2.2.2.2.1::rSl aR k0 f.2.2.2.2.2.1::rSl aJ k1 f.2.2.2.2.2.2.1::rSl kS (nS) ([]:List BY)::rSl aC (nS) ([]:List aM)::rSl aB (nS) ([]:List aG)::rSl bN (.slice q35 Q.length d2) Q::rSl aX K b.1.Results::rSl aB L b.1.Store.Nodes::rSl aC M b.1.Store.Turns::rSl aQ N b.1.Events::rSl bB O b.1.Mounts::rSl (kI .i64) P b.1.Wounded::rSl aB c6 b.2.1::rSl aC c7 b.2.2.1::rSl aO c8 b.2.2.2.1::rSl bA c9 b.2.2.2.2.1::rSl aR d0 b.2.2.2.2.2.1::rSl aJ d1 b.2.2.2.2.2.2.1::rSl aJ (nS) ([]:List aE)::rSl aR (nS) ([]:List aP)::rSl bA (nS) ([]:List aU)::rSl kS (nS) ([]:List BY)::rSl aC (nS) ([]:List aM)::rSl aB (nS) ([]:List aG)::rSl bN (.slice q15 J.length c5) J::rSl aB m7 I.1::rSl aC m8 I.2.1::rSl aO m9 I.2.2::rs):=H
  refine bd m λl l0 m=>xc2 E z (cf_ 13) (jC (x20:=(⟨1,2,0,0,false,S,(ByteArray.mk #[]),0,0,(⟨[],[]⟩:aK),[],(⟨0,0,(ByteArray.mk #[]),false⟩:aP)⟩:aI)) H (t4 mm6) (t5 mm6) (t6 mm6) (t7 mm6) (t8 mm6) (t1 (t8 mm6)) mm3 mm2 mm1 m0 (t2 (t8 (t8 (t8 (t8 (t8 (t8 (t8 G)))))))) l0)<|?_;rintro _ w ⟨e3,e4,e5,e6,e7,e8,n0,n1,n2,n3,n4,n5,rfl,H⟩ a E;refine al2 E H z lB λk2 w a H E=>ss 0 E H z bR (aZ H m0 mm1 mm2 mm3 mm4 mm5) λw H=>xp 1 E z λa E=>sv2 E z (cN E z (E.evs z) (v:=.agg #[.int .i64 3,.int .i64 0,.int .i64 5,.int .i64 0,.bool true,nS,.string (ByteArray.mk #[]),.int .i64 0,.int .i64 0,nS,nS,nS,.int .i64 0,.int .i64 0,.string (ByteArray.mk #[]),.bool false]) (by kernel_rfl)) λa E=>have H:=H.nilSl bN;have H:=H.nilSl aB;have H:=H.nilSl aC;have H:=H.nilSl kS;have H:=H.frs [7,7,7,3,7,7,7,7] z;bd m λn l1 m=>xc2 E z (cf_ 13) (jC (x20:=(⟨3,0,5,0,true,[],(ByteArray.mk #[]),0,0,(⟨[],[]⟩:aK),[],(⟨0,0,(ByteArray.mk #[]),false⟩:aP)⟩:aI)) H (t4 mm6) (t5 mm6) (t6 mm6) (t7 mm6) (t8 mm6) (t1 (t8 mm6)) mm3 mm2 mm1 m0 (t2 (t8 (t8 (t8 (t8 (t8 (t8 (t8 (t8 (t8 G)))))))))) l1)<|?_;rintro _ w ⟨e9,f0,f1,f2,f3,f4,l2,l3,l4,l5,l6,l7,rfl,H⟩ a E;refine al2 E H z lB λf5 w a H E=>ss 0 E H z bR (aZ H m0 mm1 mm2 mm3 mm4 mm5) λw H=>xp 1 E z λa E=>sv2 E z (cN E z (E.evs z) (v:=.agg #[.int .i64 5,.int .i64 0,.int .i64 0,.int .i64 0,.bool false,nS,.string (ByteArray.mk #[47,97]),.int .i64 1,.int .i64 0,nS,nS,nS,.int .i64 0,.int .i64 0,.string (ByteArray.mk #[]),.bool false]) (by kernel_rfl)) λa E=>have H:=H.nilSl bN;have H:=H.nilSl aB;have H:=H.nilSl aC;have H:=H.nilSl kS;have H:=H.frs [8,8,8,8,4,8,8,8,8] z;bd m λg i9 m=>xc2 E z (cf_ 13) (jC (x20:=(⟨5,0,0,0,false,[],(ByteArray.mk #[47,97]),1,0,(⟨[],[]⟩:aK),[],(⟨0,0,(ByteArray.mk #[]),false⟩:aP)⟩:aI)) H (t4 mm6) (t5 mm6) (t6 mm6) (t7 mm6) (t8 mm6) (t1 (t8 mm6)) mm3 mm2 mm1 m0 (t2 (t8 (t8 (t8 (t8 (t8 (t8 (t8 (t8 (t8 (t8 (t8 G)))))))))))) i9)<|?_;rintro _ w ⟨b8,b9,c0,c1,c2,c3,f6,f7,f8,f9,g0,g1,rfl,H⟩ a E;refine al2 E H z lB λg2 w a H E=>ss 0 E H z bR (aZ H m0 mm1 mm2 mm3 mm4 mm5) λw H=>?_
  replace H:Sep w (Blk g2 48 (aS g.1 b8 b9 c0 c1 c2 c3)::Blk i8 87 [f6,f7,f8,f9,g0,g1,.map (some U),.map (some V),.map (some F)]::bX Tryz.prog 2 (kyI .i64) bC true U g.2.2.2.2.2.2.2.1::bX Tryz.prog 2 (kyI .i64) dG true V g.2.2.2.2.2.2.2.2.1::bX Tryz.prog 2 (kyI .i64) bC true F g.2.2.2.2.2.2.2.2.2::Blk f5 48 (aS n.1 e9 f0 f1 f2 f3 f4)::Blk k2 48 (aS l.1 e3 e4 e5 e6 e7 e8)::Blk e1 48 (aS c.1 b2 b3 b4 b5 b6 b7)::Blk d3 48 (aS f.1 W X Y Z b0 b1)::Blk c4 48 (aS b.1 K L M N O P)::Fo) _:=H
  refine xp 1 E z λa E=>bd m λT j0 m=>xc2 E z (cf_ 36) (tU H j0)<|?_;rintro _ w ⟨n6,rfl,H⟩ a E;obtain ⟨q125,g3,rfl⟩:=H.rowform (i:=0) z;refine sv2 E z (cN E z (E.evs z) (v:=.agg #[.int .i64 1,.int .i64 3,.int .i64 0,.int .i64 0,.bool false,(.slice q125 T.length g3),.string (ByteArray.mk #[]),.int .i64 0,.int .i64 0,nS,nS,nS,.int .i64 0,.int .i64 0,.string (ByteArray.mk #[]),.bool false]) (by kernel_rfl)) λa E=>have H:=H.thaw (i:=0) z;have H:=H.nilSl aB;have H:=H.nilSl aC;have H:=H.nilSl kS;have H:=H.frs [9,9,9,9,9,5,9,9,9,9] z;bd m λj j1 m=>xc2 E z (cf_ 13) (jC (x20:=(⟨1,3,0,0,false,T,(ByteArray.mk #[]),0,0,(⟨[],[]⟩:aK),[],(⟨0,0,(ByteArray.mk #[]),false⟩:aP)⟩:aI)) H (t4 mm6) (t5 mm6) (t6 mm6) (t7 mm6) (t8 mm6) (t1 (t8 mm6)) mm3 mm2 mm1 m0 (t2 (t8 (t8 (t8 (t8 (t8 (t8 (t8 (t8 (t8 (t8 (t8 (t8 (t8 G)))))))))))))) j1)<|?_;rintro _ w ⟨g4,g5,g6,g7,g8,g9,i0,i1,i2,i3,i4,i5,rfl,H⟩ a E;refine al2 E H z lB λl8 w a H E=>ss 0 E H z bR (aZ H m0 mm1 mm2 mm3 mm4 mm5) λw H=>xp 1 E z λa E=>lb2 E H 10 U41 z λa E=>pr 2 E z λa E=>cs m (λu m=>?_) λu m=>?_
  ·refine pk 1 E (kc 41 z u) z λa E=>gl 41 E H 9 u U41 z λa E=>pk 3 E (kc 41 z u) z λa E=>cs m (λp m=>?_) λp m=>?_
   ·refine pk 1 E (kc 46 z p) z λa E=>gl 46 E H 9 p U40 z λa E=>gv 46 E p z (xO E H z z (t2 (t8 (t8 (t8 (t8 (t8 (t8 (t8 (t8 (t8 mm6)))))))))) U40) λa E=>pk 3 E (kc 46 z p) z λa E=>cs m (λy m=>?_) λy m=>?_
    ·refine pk 1 E (kc 52 z y) z λa E=>gl 52 E H 8 y U4 z λa E=>pk 2 E (kc 52 z y) z λa E=>cs m (λA m=>?_) λA m=>?_
     ·refine pk 1 E (kc 56 z A) z λa E=>gl 56 E H 7 A U41 z λa E=>pk 3 E (kc 56 z A) z λa E=>cs m (λB m=>?_) λB m=>?_
      ·refine pk 1 E (kc 61 z B) z λa E=>gl 61 E H 6 B U41 z λa E=>pk 3 E (kc 61 z B) z λa E=>cs m (λo m=>?_) λo m=>?_
       ·refine pk 1 E (kc 66 z o) z λa E=>have H:=H.frs [10,10,10,10,10,10,10,10,10,9,10] z;bd m λi6 j2 m=>gc 66 E o z (cf_ 15) (zE H mm6 (t1 mm6) j2)<|?_;rintro _ w ⟨i7,l9,rfl,H⟩ a E;refine gv 66 E o z (KI E z z (v:=i7) (by kernel_rfl)) λa E=>gv 66 E o z (xO E H z z m0 U22) λa E=>pk 3 E (kc 66 z o) z λa E=>cs m (λC m=>?_) λC m=>?_
        ·refine pk 1 E (kc 73 z C) z λa E=>gl 73 E H 5 C U2 z λa E=>pk 3 E (kc 73 z C) z λa E=>cs m (λq m=>?_) λq m=>?_
         ·refine pk 2 E (kc 78 z q) z λa E=>gl 78 E H 5 q U22 z λa E=>gv 78 E q z (xO E H z z (t5 (t8 mm6)) U22) λa E=>pk 3 E (kc 78 z q) z λa E=>cs m (λD m=>?_) λD m=>?_
          ·refine pk 1 E (kc 85 z D) z λa E=>gl 85 E H 1 D U41 z λa E=>pk 3 E (kc 85 z D) z λa E=>cs m (λs m=>?_) λs m=>?_
           ·refine pk 1 E (kc 90 z s) z λa E=>bd m λm1 j3 m=>gc 90 E s z (cf_ 25) (Ig H (t4 mm6) j3)<|?_;rintro _ w ⟨m2,rfl,H⟩ a E;refine gv 90 E s z (lQ (i:=0) E H z z z U32) λa E=>pk 3 E (kc 90 z s) z λa E=>cs m (λt m=>?_) λt m=>?_
            ·refine pk 1 E (kc 96 z t) z λa E=>have H:=H.frs [11,11,11,11,11,11,11,11,11,11,10,11] z;bd m λm3 j4 m=>gc 96 E t z (cf_ 20) (Al H (t5 mm6) j4)<|?_;rintro _ w ⟨m4,rfl,H⟩ a E;refine gv 96 E t z (lQ (i:=0) E H z z z U58) λa E=>pk 3 E (kc 96 z t) z λa E=>cs m (λk m=>?_) λk m=>?_
             ·refine gv 102 E k z (cN E z (E.evs z) (v:=.agg #[nS,nS]) (by kernel_rfl)) λa E=>gv 102 E k z (cN E z (E.evs z) (v:=.agg Zs.toArray) (by kernel_rfl)) λa E=>kH (e:=31) (d:=aO) (cs:=[.string (ByteArray.mk #[]),.int .i64 0,.int .i64 0]) (xs:=[(⟨(ByteArray.mk #[]),0,0⟩:aF)]) E H (ws' (d:=102) E z z z z k) z z z (E.evs z) (by kernel_rfl) z z (λok hr=>(Rows.single (d:=aO) (cs:=[.string (ByteArray.mk #[]),.int .i64 0,.int .i64 0]) (x:=(⟨(ByteArray.mk #[]),0,0⟩:aF)) B9)) λm5 w a H E=>have H:=H.nilSl aB;have H:=H.nilSl aC;have H:=H.thaw (i:=0) z;?_
              replace H:Sep w (Row 78 bA m4 m3::Blk i8 87 [i0,i1,i2,i3,i4,i5,.map (some U),.map (some V),.map (some F)]::Row 31 aO m2 m1::Blk l8 48 (aS j.1 g4 g5 g6 g7 g8 g9)::bX Tryz.prog 2 (kyI .i64) bC true U j.2.2.2.2.2.2.2.1::bX Tryz.prog 2 (kyI .i64) dG true V j.2.2.2.2.2.2.2.2.1::bX Tryz.prog 2 (kyI .i64) bC true F j.2.2.2.2.2.2.2.2.2::Blk g2 48 (aS g.1 b8 b9 c0 c1 c2 c3)::Blk f5 48 (aS n.1 e9 f0 f1 f2 f3 f4)::Blk k2 48 (aS l.1 e3 e4 e5 e6 e7 e8)::Blk e1 48 (aS c.1 b2 b3 b4 b5 b6 b7)::Blk d3 48 (aS f.1 W X Y Z b0 b1)::Blk c4 48 (aS b.1 K L M N O P)::Fo) (rSl aO m5 ([(⟨(ByteArray.mk #[]),0,0⟩:aF)]:List aF)::rSl aC (nS) ([]:List aM)::rSl aB (nS) ([]:List aG)::rSl aB i7 i6.Nodes::rSl aC l9 i6.Turns::rSl aX g4 j.1.Results::rSl aB g5 j.1.Store.Nodes::rSl aC g6 j.1.Store.Turns::rSl aQ g7 j.1.Events::rSl bB g8 j.1.Mounts::rSl (kI .i64) g9 j.1.Wounded::rSl aB i0 j.2.1::rSl aC i1 j.2.2.1::rSl aO i2 j.2.2.2.1::rSl bA i3 j.2.2.2.2.1::rSl aR i4 j.2.2.2.2.2.1::rSl aJ i5 j.2.2.2.2.2.2.1::rSl kS (nS) ([]:List BY)::rSl aC (nS) ([]:List aM)::rSl aB (nS) ([]:List aG)::rSl bN (.slice q125 T.length g3) T::rSl aX b8 g.1.Results::rSl aB b9 g.1.Store.Nodes::rSl aC c0 g.1.Store.Turns::rSl aQ c1 g.1.Events::rSl bB c2 g.1.Mounts::rSl (kI .i64) c3 g.1.Wounded::rSl aB f6 g.2.1::rSl aC f7 g.2.2.1::rSl aO f8 g.2.2.2.1::rSl bA f9 g.2.2.2.2.1::rSl aR g0 g.2.2.2.2.2.1::rSl aJ g1 g.2.2.2.2.2.2.1::rSl kS (nS) ([]:List BY)::rSl aC (nS) ([]:List aM)::rSl aB (nS) ([]:List aG)::rSl bN (nS) ([]:List cJ)::rSl aX e9 n.1.Results::rSl aB f0 n.1.Store.Nodes::rSl aC f1 n.1.Store.Turns::rSl aQ f2 n.1.Events::rSl bB f3 n.1.Mounts::rSl (kI .i64) f4 n.1.Wounded::rSl aB l2 n.2.1::rSl aC l3 n.2.2.1::rSl aO l4 n.2.2.2.1::rSl bA l5 n.2.2.2.2.1::rSl aR l6 n.2.2.2.2.2.1::rSl aJ l7 n.2.2.2.2.2.2.1::rSl kS (nS) ([]:List BY)::rSl aC (nS) ([]:List aM)::rSl aB (nS) ([]:List aG)::rSl bN (nS) ([]:List cJ)::rSl aX e3 l.1.Results::rSl aB e4 l.1.Store.Nodes::rSl aC e5 l.1.Store.Turns::rSl aQ e6 l.1.Events::rSl bB e7 l.1.Mounts::rSl (kI .i64) e8 l.1.Wounded::rSl aB n0 l.2.1::rSl aC n1 l.2.2.1::rSl aO n2 l.2.2.2.1::rSl bA n3 l.2.2.2.2.1::rSl aR n4 l.2.2.2.2.2.1::rSl aJ n5 l.2.2.2.2.2.2.1::rSl kS (nS) ([]:List BY)::rSl aC (nS) ([]:List aM)::rSl aB (nS) ([]:List aG)::rSl bN (.slice q75 S.length e2) S::rSl aX b2 c.1.Results::rSl aB b3 c.1.Store.Nodes::rSl aC b4 c.1.Store.Turns::rSl aQ b5 c.1.Events::rSl bB b6 c.1.Mounts::rSl (kI .i64) b7 c.1.Wounded::rSl aB d5 c.2.1::rSl aC d6 c.2.2.1::rSl aO d7 c.2.2.2.1::rSl bA d8 c.2.2.2.2.1::rSl aR d9 c.2.2.2.2.2.1::rSl aJ e0 c.2.2.2.2.2.2.1::rSl kS (nS) ([]:List BY)::rSl aC (nS) ([]:List aM)::rSl aB (nS) ([]:List aG)::rSl bN (.slice q55 R.length d4) R::rSl aX W f.1.Results::rSl aB X f.1.Store.Nodes::rSl aC Y f.1.Store.Turns::rSl aQ Z f.1.Events::rSl bB b0 f.1.Mounts::rSl (kI .i64) b1 f.1.Wounded::rSl aB j6 f.2.1::rSl aC j7 f.2.2.1::rSl aO j8 f.2.2.2.1::rSl bA j9 f.2.2.2.2.1::rSl aR k0 f.2.2.2.2.2.1::rSl aJ k1 f.2.2.2.2.2.2.1::rSl kS (nS) ([]:List BY)::rSl aC (nS) ([]:List aM)::rSl aB (nS) ([]:List aG)::rSl bN (.slice q35 Q.length d2) Q::rSl aX K b.1.Results::rSl aB L b.1.Store.Nodes::rSl aC M b.1.Store.Turns::rSl aQ N b.1.Events::rSl bB O b.1.Mounts::rSl (kI .i64) P b.1.Wounded::rSl aB c6 b.2.1::rSl aC c7 b.2.2.1::rSl aO c8 b.2.2.2.1::rSl bA c9 b.2.2.2.2.1::rSl aR d0 b.2.2.2.2.2.1::rSl aJ d1 b.2.2.2.2.2.2.1::rSl aJ (nS) ([]:List aE)::rSl aR (nS) ([]:List aP)::rSl bA (nS) ([]:List aU)::rSl kS (nS) ([]:List BY)::rSl aC (nS) ([]:List aM)::rSl aB (nS) ([]:List aG)::rSl bN (.slice q15 J.length c5) J::rSl aB m7 I.1::rSl aC m8 I.2.1::rSl aO m9 I.2.2::rs):=H
              refine bd m λn7 j5 m=>gc 102 E k z (cf_ 9) (Fs (x1:=(⟨[],[]⟩:aK)) H mm2 mm1 m0 j5)<|?_;rintro _ w (⟨rfl,rfl,H⟩ | ⟨n8,rfl,n9,o0,o2,o3,o4,o5,o6,rfl,H⟩) a E
              ·replace m:=Qk m
               refine gv 102 E k z (zP E z z z (v:=.bool true) (by kernel_rfl)) λa E=>pk 2 E (kc 102 z k) z λa E=>nt<|wR<|o1 E z<|have H:=H.drs [0,0,0,0,0,0,0,0,0,0,0,0,0];?_;cases m;exact ⟨z,H.reads (Y3 (Y8 (Y8 (Y8 (Y8 (Y8 (Y8 (Y8 (Y8 (Y8 (Y8 (Y8 (Y8 (Y8 (Y8 (Y8 Y0))))))))))))))))⟩
              replace m:=Ql m
              refine gv 102 E k z (zP E z z z (v:=.bool false) (by kernel_rfl)) λa E=>pk 2 E (kc 102 z k) z λa E=>nt<|wR<|o1 E z<|have H:=H.drs [0,0,0,0,0,0,0,0,0,0,0,0,0,0,0,0,0];?_;cases m;exact ⟨z,H.reads (Y6 (Y8 (Y8 (Y8 (Y8 (Y8 (Y8 (Y8 (Y8 (Y8 (Y8 (Y8 (Y8 (Y8 (Y8 (Y8 Y0))))))))))))))))⟩
             refine pk 7 E (kc 102 z k) z λa E=>nt<|wR<|o1 E z<|have H:=H.drs [0,0,0,0,0,0,0,0,0,0,0,0,0];?_;cases m;exact ⟨z,H.reads (Y8 (Y8 (Y8 (Y8 (Y8 (Y8 (Y8 (Y8 (Y8 (Y8 (Y8 (Y8 (Y8 (Y8 (Y8 Y0)))))))))))))))⟩
            refine pk 13 E (kc 96 z t) z λa E=>nt<|wR<|o1 E z<|have H:=H.drs [0,0,0,0,0,0,0,0,0,0,0,0];?_;cases m;exact ⟨z,H.reads (Y8 (Y8 (Y8 (Y8 (Y8 (Y8 (Y8 (Y8 (Y8 (Y8 (Y8 (Y8 (Y8 (Y8 (Y8 Y0)))))))))))))))⟩
           refine pk 19 E (kc 90 z s) z λa E=>nt<|wR<|o1 E z<|have H:=H.drs [0,0,0,0,0,0,0,0,0,0,0];?_;cases m;exact ⟨z,H.reads (Y8 (Y8 (Y8 (Y8 (Y8 (Y8 (Y8 (Y8 (Y8 (Y8 (Y8 (Y8 (Y8 (Y8 (Y8 Y0)))))))))))))))⟩
          refine pk 24 E (kc 85 z D) z λa E=>nt<|wR<|o1 E z<|have H:=H.drs [0,0,0,0,0,0,0,0,0,0,0];?_;cases m;exact ⟨z,H.reads (Y8 (Y8 (Y8 (Y8 (Y8 (Y8 (Y8 (Y8 (Y8 (Y8 (Y8 (Y8 (Y8 (Y8 (Y8 Y0)))))))))))))))⟩
         refine pk 31 E (kc 78 z q) z λa E=>nt<|wR<|o1 E z<|have H:=H.drs [0,0,0,0,0,0,0,0,0,0,0];?_;cases m;exact ⟨z,H.reads (Y8 (Y8 (Y8 (Y8 (Y8 (Y8 (Y8 (Y8 (Y8 (Y8 (Y8 (Y8 (Y8 (Y8 (Y8 Y0)))))))))))))))⟩
        refine pk 36 E (kc 73 z C) z λa E=>nt<|wR<|o1 E z<|have H:=H.drs [0,0,0,0,0,0,0,0,0,0,0];?_;cases m;exact ⟨z,H.reads (Y8 (Y8 (Y8 (Y8 (Y8 (Y8 (Y8 (Y8 (Y8 (Y8 (Y8 (Y8 (Y8 (Y8 (Y8 Y0)))))))))))))))⟩
       refine pk 43 E (kc 66 z o) z λa E=>nt<|wR<|o1 E z<|have H:=H.drs [0,0,0,0,0,0,0,0,0,0,0];?_;cases m;exact ⟨z,H.reads (Y6 (Y8 (Y8 (Y8 (Y8 (Y8 (Y8 (Y8 (Y8 (Y8 (Y8 (Y8 (Y8 (Y8 (Y8 Y0)))))))))))))))⟩
      refine pk 48 E (kc 61 z B) z λa E=>nt<|wR<|o1 E z<|have H:=H.drs [0,0,0,0,0,0,0,0,0,0,0];?_;cases m;exact ⟨z,H.reads (Y6 (Y8 (Y8 (Y8 (Y8 (Y8 (Y8 (Y8 (Y8 (Y8 (Y8 (Y8 (Y8 (Y8 (Y8 Y0)))))))))))))))⟩
     refine pk 53 E (kc 56 z A) z λa E=>nt<|wR<|o1 E z<|have H:=H.drs [0,0,0,0,0,0,0,0,0,0,0];?_;cases m;exact ⟨z,H.reads (Y6 (Y8 (Y8 (Y8 (Y8 (Y8 (Y8 (Y8 (Y8 (Y8 (Y8 (Y8 (Y8 (Y8 (Y8 Y0)))))))))))))))⟩
    refine pk 57 E (kc 52 z y) z λa E=>nt<|wR<|o1 E z<|have H:=H.drs [0,0,0,0,0,0,0,0,0,0,0];?_;cases m;exact ⟨z,H.reads (Y6 (Y8 (Y8 (Y8 (Y8 (Y8 (Y8 (Y8 (Y8 (Y8 (Y8 (Y8 (Y8 (Y8 (Y8 Y0)))))))))))))))⟩
   refine pk 63 E (kc 46 z p) z λa E=>nt<|wR<|o1 E z<|have H:=H.drs [0,0,0,0,0,0,0,0,0,0,0];?_;cases m;exact ⟨z,H.reads (Y6 (Y8 (Y8 (Y8 (Y8 (Y8 (Y8 (Y8 (Y8 (Y8 (Y8 (Y8 (Y8 (Y8 (Y8 Y0)))))))))))))))⟩
  ·refine pk 68 E (kc 41 z u) z λa E=>nt<|wR<|o1 E z<|have H:=H.drs [0,0,0,0,0,0,0,0,0,0,0];?_;cases m;exact ⟨z,H.reads (Y6 (Y8 (Y8 (Y8 (Y8 (Y8 (Y8 (Y8 (Y8 (Y8 (Y8 (Y8 (Y8 (Y8 (Y8 Y0)))))))))))))))⟩

def nI(x1:aI)(b:Int):Option Bool:=
  if (decide (b ≥ 3000))=true then (some (true)) else (if (decide ((x1.Prefix.size:Int) > 3000))=true then (some (true)) else (if (decide ((x1.Watch.Path.size:Int) > 3000))=true then (some (true)) else ((nW x1.Pieces).bind λc=>if c=true then (some (true)) else ((qX x1.Store).bind λd=>some (d)))))
def nJ(x1:aI):Nat->Int->Int->Option Bool
  | 0,_,_=>none
  | e+1,b,c=>
    if (decide (c < (x1.Gone.length:Int)))=true then (if (decide (b < 3000))=true then ((idx x1.Gone c).bind λd=>nJ x1 e (IntKind.i64.wrap (b+(min (d.size:Int) 3000))) (IntKind.i64.wrap (c+1))) else (nI x1 b)) else (nI x1 b)
def rB(x1:aI):Option Bool:=
  nJ x1 3002 (x1.Gone.length:Int) 0
theorem Am{x1:aI}{x n o y:VL}(H:Sep w (Fo) rs)(D:rSl bN x x1.Pieces ∈ rs)(F:rSl aB n x1.Store.Nodes ∈ rs)(G:rSl aC o x1.Store.Turns ∈ rs)(p:rSl kS y x1.Gone ∈ rs){r:Bool}(m:rB x1=some r) :
    Cf 11 [.agg (aN x1 x n o y).toArray] w λv w'=>.bool r=v/\Sep w' (Fo) (rs):=by
 unfold rB at m;refine ent func11 z ntmps11 z z λa E=>sq<|bx E H z λk w a H E=>pr 1 E z λa E=>xp 1 E z λa E=>lb2 E H 0 U33 z λa E=>lS E H p U33 z λa E=>pr 1 E z λa E=>nt<|aL (λa w=>∃ q,Jn 53 a w [(1,pt k 0),(3,.int .i64 q)] (Blk k 37 (aN x1 x n o y)::Fo) rs (nI x1 q=some r)) ?_ ?_
 ·refine sq<|pn 1 E z λa E=>wB<|bF (λl a w=>∃ s u,Jn 53 a w [(1,pt k 0),(3,.int .i64 s),(4,.int .i64 u)] (Blk k 37 (aN x1 x n o y)::Fo) rs (nJ x1 l s u=some r)) (3002) ?_ ?_
  ·exact X3 ⟨E.to z,H,Y0,m⟩
  clear E H m;rintro l a w ⟨s,u,I,E,H,e,m⟩;cases l with
  | zero=>exact (bD m z).elim
  | succ l=>
   unfold nJ at m;refine wS<|sp 2 E z λa E=>lb2 E H 0 U33 z λa E=>lS E H (e _ p) U33 z λa E=>pr 2 E z λa E=>cs m (λj m=>?_) λj m=>?_
   ·refine pk 3 E (kc 13 z j) z λa E=>nt<|wif E m z (λm=>?_) λm=>?_
    ·exact wK<|aA<|wS<|wB<|wG<|pr 2 E z λa E=>lb2 E H 0 U33 z λa E=>pr 1 E z λa E=>bd m λK A m=>dC E H (wn z) z z z z z (e _ p) U33 sz9 A λq29 a H E=>sv2 E z (oO E H z z m0 U9 z) λa E=>pr 1 E z λa E=>sv2 E z (Qc (t:=0) E z z z) λa E=>pr 2 E z λa E=>wN<|bM<|aA<|wG<|pn 3 E z λa E=>⟨l,nL l,X3 ⟨E.to z,H,(Y1 e),m⟩⟩
    exact wX<|aT<|aT<|cL<|aA<|⟨_,_,E.to z,H,e,m⟩
   exact pk 3 E (kc 13 z j) z λa E=>nt<|wp_cond_false (E.eval z)<|wX<|aT<|aT<|cL<|aA<|⟨_,_,E.to z,H,e,m⟩
 ·clear E H m;rintro a w ⟨q,J,E,H,b,m⟩;unfold nI at m;refine sp 3 E z λa E=>cs m (λf m=>?_) λf m=>?_
  ·refine pk 23 E (kc 30 z f) z λa E=>nt<|wR<|o1 E z<|have H:=H.drop 0;?_;cases m;exact ⟨z,H.reads b⟩
  ·refine pk 1 E (kc 30 z f) z λa E=>gl 30 E H 0 f U9 z λa E=>pk 4 E (kc 30 z f) z λa E=>cs m (λg m=>?_) λg m=>?_
   ·refine pk 17 E (kc 36 z g) z λa E=>nt<|wR<|o1 E z<|have H:=H.drop 0;?_;cases m;exact ⟨z,H.reads b⟩
   ·refine pk 2 E (kc 36 z g) z λa E=>gl 36 E H 0 g U9 z λa E=>pk 4 E (kc 36 z g) z λa E=>cs m (λc m=>?_) λc m=>?_
    ·refine pk 10 E (kc 43 z c) z λa E=>nt<|wR<|o1 E z<|have H:=H.drop 0;?_;cases m;exact ⟨z,H.reads b⟩
    ·refine pk 1 E (kc 43 z c) z λa E=>gl 43 E H 0 c U26 z λa E=>bd m λL B m=>gc 43 E c z (cf_ 40) (Cs H (b _ D) B)<|?_;rintro _ w ⟨rfl,H⟩ a E;refine pk 2 E (kc 43 z c) z λa E=>cs m (λd m=>?_) λd m=>?_
     ·refine pk 5 E (kc 48 z d) z λa E=>nt<|wR<|o1 E z<|have H:=H.drop 0;?_;cases m;exact ⟨z,H.reads b⟩
     ·refine pk 1 E (kc 48 z d) z λa E=>gv 48 E d z (zQ (i:=0) (us:=[n,o]) E H z z z z U25 z cY) λa E=>bd m λM C m=>gc 48 E d z (cf_ 10) (Aj H (b _ F) (b _ G) C)<|?_;rintro _ w ⟨rfl,H⟩ a E;refine pk 2 E (kc 48 z d) z λa E=>nt<|wR<|o1 E z<|have H:=H.drop 0;?_;cases m;exact ⟨z,H.reads b⟩

def rP(rec_1:Int->Int->Option Bool)(d:Int)(e:aI)(b:aI)(f:Int)(c:Bool):Option Bool:=
  if c=true then (some (true)) else (rec_1 (IntKind.i64.wrap ((IntKind.i64.wrap ((IntKind.i64.wrap (d+1))+(IntKind.i64.wrap (2 * (e.Pieces.length:Int)))))+(b.Store.Nodes.length:Int))) (IntKind.i64.wrap (f+1)))
def gR(b:List aI):Nat->Int->Int->Option Bool
  | 0,_,_=>none
  | g+1,e,c=>
    if (decide (c < (b.length:Int)))=true then ((idx b c).bind λf=>(idx b c).bind λd=>(idx b c).bind λi=>(rB i).bind λj=>if j=true then (rP (gR b g) e f d c true) else (rP (gR b g) e f d c (decide ((IntKind.i64.wrap ((IntKind.i64.wrap ((IntKind.i64.wrap (e+1))+(IntKind.i64.wrap (2 * (f.Pieces.length:Int)))))+(d.Store.Nodes.length:Int))) > 600)))) else (some (false))
def uV(b:List aI):Option Bool:=
  if (decide ((b.length:Int) > 60))=true then (some (true)) else (gR b (((b.length:Int) - 0:Int).toNat+1) 0 0)
theorem Jp{n:VL}{f:List aI}(H:Sep w (Fo) rs)(e:rSl rU n f ∈ rs){r:Bool}(m:uV f=some r) :
    Cf 18 [n] w λv w'=>.bool r=v/\Sep w' (Fo) (rs):=by
 unfold uV at m;refine ent func18 z ntmps18 z z λa E=>sq<|pn 1 E z λa E=>wS<|sp 1 E z λa E=>lS E H e U54 z λa E=>pr 1 E z λa E=>nt<|wif E m z (λm=>?_) λm=>?_
 ·refine sq<|pn 1 E z λa E=>wR<|aH<|o1 E z<|?_;cases m;exact ⟨z,H.reads Y0⟩
 ·refine wK<|aA<|sq<|pn 1 E z λa E=>wS<|sq<|pn 1 E z λa E=>wB<|bF (λc a w=>∃ g i,Jn 41 a w [(0,n),(3,.int .i64 g),(4,.int .i64 i)] (Fo) rs (gR f c g i=some r)) (((f.length:Int) - 0:Int).toNat+1) ?_ ?_
  ·exact X3 ⟨E.to z,H,Y0,m⟩
  ·clear E H m;rintro c a w ⟨g,i,M,E,H,b,m⟩;cases c with
   | zero=>exact (bD m z).elim
   | succ c=>
    unfold gR at m;refine wS<|sp 2 E z λa E=>lS E H (b _ e) U54 z λa E=>pn 1 E z λa E=>wif E m z (λm=>?_) λm=>?_
    ·refine wK<|aA<|wS<|wB<|wS<|?_;obtain ⟨Z,H⟩:=H.raw (b _ e);refine dw [(0,0),(1,0),(2,0),(3,0),(4,0),(5,0),(6,0),(7,0),(8,0),(9,0),(10,0),(11,0),(12,0),(13,0),(14,0),(15,0),(16,0),(17,0),(18,2)] [] [0] H (by kernel_rfl) (λ_ _ _ h=>False.elim h.2) λw W0 hI H=>fn 4 E z λa E=>bd m λK p m=>?_;obtain ⟨q11,N,q,s⟩:=gD (P:=Tryz.prog) (k:=.i64) hI (gC (.head _)) U54 xZ p;refine fv E z (λw hW=>iO E z z z (q w)) λa E=>?_;have t:=tC s (λ_ _ _ h=>Ng h);refine fn 1 E z λa E=>?_;obtain ⟨O,u,x⟩:=DZ (P:=Tryz.prog) hI t U26 z;refine fv E z (λw hW=>mW E z z (u w hW)) λa E=>fv E z (λw hW=>DW E z z (DV (DR.ir x) U26 w hW)) λa E=>fn 4 E z λa E=>bd m λo y m=>?_;obtain ⟨q21,Q,A,B⟩:=gD (P:=Tryz.prog) (k:=.i64) hI (gC (.head _)) U54 xZ y;refine fv E z (λw hW=>iO E z z z (A w)) λa E=>?_;have C:=tC B (λ_ _ _ h=>Nh h);refine fn 1 E z λa E=>?_;have D:=tC C (λ_ _ _ h=>Qw h);refine fn 1 E z λa E=>?_;obtain ⟨R,F,G⟩:=DZ (P:=Tryz.prog) hI D U22 z;refine fv E z (λw hW=>mW E z z (F w hW)) λa E=>fv E z (λw hW=>DW E z z (DV (DR.ir G) U22 w hW)) λa E=>fn 1 E z λa E=>bK z<|pn 1 E z λa E=>bG<|?_;clear hI;refine aA<|aL (λa w=>∃ j,Jn 41 a w [(0,n),(3,.int .i64 (IntKind.i64.wrap ((IntKind.i64.wrap ((IntKind.i64.wrap (g+1))+(IntKind.i64.wrap (2 * (K.Pieces.length:Int)))))+(o.Store.Nodes.length:Int)))),(4,.int .i64 i),(40,.bool j)] (Fo) rs (rP (gR f c) g K o i j=some r)) ?_ ?_
     ·refine wG<|pr 2 E z λa E=>bd m λS I m=>dC E H (wn z) z z z z z (t1 (b _ e)) U54 xZ I λq35 a H E=>Dd E H (wn z) z z z z m0 U37 z xZ λT a H E=>?_;obtain ⟨U,V,W,X,rfl,h⟩:=Iw H;clear H;have H:=h;refine bd m λY J m=>xk2 E z (cf_ 11) (Am H mm3 mm2 mm1 m0 J) λw H a E=>pr 1 E z λa E=>cs m (λd m=>?_) λd m=>?_
      ·exact pk 3 E (kc 37 z d) z λa E=>nt<|⟨_,_,E.to z,H,(Y7 b),m⟩
      exact pk 3 E (kc 37 z d) z λa E=>nt<|⟨_,_,E.to z,H,(Y7 b),m⟩
     clear E H m;rintro a w ⟨j,L,E,H,l,m⟩;unfold rP at m;refine wif E m z (λm=>?_) λm=>?_
     ·refine sq<|pn 1 E z λa E=>wR<|bJ<|aH<|aH<|bJ<|aH<|o1 E z<|?_;cases m;exact ⟨z,H.reads l⟩
     exact wK<|bM<|aA<|wG<|pn 3 E z λa E=>⟨c,nL c,X3 ⟨E.to z,H,l,m⟩⟩
    ·refine wX<|aT<|aT<|cL<|aA<|sq<|pn 1 E z λa E=>wR<|o1 E z<|?_;cases m;exact ⟨z,H.reads b⟩

def rQ(b:Int):Option Bool:=
  some (decide (b ≥ 3000))
def nK(c:List aF):Nat->Int->Int->Option Bool
  | 0,_,_=>none
  | f+1,b,d=>
    if (decide (d < (c.length:Int)))=true then (if (decide (b < 3000))=true then ((idx c d).bind λe=>nK c f (IntKind.i64.wrap (b+(min (e.Prefix.size:Int) 3000))) (IntKind.i64.wrap (d+1))) else (rQ b)) else (rQ b)
def uW(b:List aF):Option Bool:=
  nK b 3002 (b.length:Int) 0
theorem Jq{f:VL}{g:List aF}(H:Sep w (Fo) rs)(e:rSl aO f g ∈ rs){r:Bool}(m:uW g=some r) :
    Cf 17 [f] w λv w'=>.bool r=v/\Sep w' (Fo) (rs):=by
 unfold uW at m;refine ent func17 z ntmps17 z z λa E=>sp 1 E z λa E=>xp 1 E z λa E=>lS E H e U32 z λa E=>pn 1 E z λa E=>aL (λa w=>∃ i,Jn 28 a w [(3,.int .i64 i)] (Fo) rs (rQ i=some r)) ?_ ?_
 ·refine sq<|pn 1 E z λa E=>wB<|bF (λd a w=>∃ j k,Jn 28 a w [(0,f),(3,.int .i64 j),(4,.int .i64 k)] (Fo) rs (nK g d j k=some r)) (3002) ?_ ?_
  ·exact X3 ⟨E.to z,H,Y0,m⟩
  clear E H m;rintro d a w ⟨j,k,p,E,H,b,m⟩;cases d with
  | zero=>exact (bD m z).elim
  | succ d=>
   unfold nK at m;refine wS<|sp 2 E z λa E=>lS E H (b _ e) U32 z λa E=>pr 2 E z λa E=>cs m (λc m=>?_) λc m=>?_
   ·refine pk 3 E (kc 11 z c) z λa E=>nt<|wif E m z (λm=>?_) λm=>?_
    ·exact wK<|aA<|wS<|wB<|wG<|pr 3 E z λa E=>bd m λn l m=>dC E H (wn z) z z z z z (b _ e) U32 lA l λq14 a H E=>have H:=H.derive1 m0 (rAt kS (q14.add 0) n.Prefix) (λok h=>Qu h);pr 1 E z λa E=>sv2 E z (oO E H z z m0 U9 z) λa E=>pr 1 E z λa E=>sv2 E z (Qc (t:=0) E z z z) λa E=>pr 2 E z λa E=>wN<|bM<|aA<|wG<|pn 3 E z λa E=>⟨d,nL d,X3 ⟨E.to z,H,(Y2 b),m⟩⟩
    exact wX<|aT<|aT<|cL<|aA<|⟨_,_,E.to z,H,b,m⟩
   exact pk 3 E (kc 11 z c) z λa E=>nt<|wp_cond_false (E.eval z)<|wX<|aT<|aT<|cL<|aA<|⟨_,_,E.to z,H,b,m⟩
 ·clear E H m;rintro a w ⟨i,q,E,H,o,m⟩;unfold rQ at m;refine sq<|pn 3 E z λa E=>wR<|o1 E z<|?_;cases m;exact ⟨z,H.reads o⟩

def gU(e:List bP)(f:List bP):Nat->Int->Option Bool
  | 0,_=>none
  | g+1,d=>
    if (decide (d < (e.length:Int)))=true then ((idx e d).bind λb=>(idx f d).bind λc=>if (!((b.Num == c.Num) && ((b.Kind == c.Kind) && ((sEq b.Path c.Path) && (b.Watch == c.Watch)))))=true then (some (false)) else (gU e f g (IntKind.i64.wrap (d+1)))) else (some (true))
def pG(b:List bP)(c:List bP):Option Bool:=
  if ((b.length:Int) != (c.length:Int))=true then (some (false)) else (gU b c (((b.length:Int) - 0:Int).toNat+1) 0)
theorem Do{j l:VL}{g n:List bP}(H:Sep w (Fo) rs)(f:rSl aQ j g ∈ rs)(i:rSl aQ l n ∈ rs){r:Bool}(m:pG g n=some r) :
    Cf 62 [j,l] w λv w'=>.bool r=v/\Sep w' (Fo) (rs):=by
 unfold pG at m;refine ent func62 z ntmps62 z z λa E=>sq<|pn 1 E z λa E=>wS<|sp 1 E z λa E=>lS E H f U44 z λa E=>pr 1 E z λa E=>lS E H i U44 z λa E=>pn 1 E z λa E=>wif E m z (λm=>?_) λm=>?_
 ·refine sq<|pn 1 E z λa E=>wR<|aH<|o1 E z<|?_;cases m;exact ⟨z,H.reads Y0⟩
 ·refine wK<|aA<|wS<|sq<|pn 1 E z λa E=>wB<|bF (λe a w=>∃ o,Jn 26 a w [(0,j),(1,l),(5,.int .i64 o)] (Fo) rs (gU g n e o=some r)) (((g.length:Int) - 0:Int).toNat+1) ?_ ?_
  ·exact ⟨_,_,E.to z,H,Y0,m⟩
  ·clear E H m;rintro e a w ⟨o,y,E,H,d,m⟩;cases e with
   | zero=>exact (bD m z).elim
   | succ e=>
    unfold gU at m;refine wS<|sp 2 E z λa E=>lS E H (d _ f) U44 z λa E=>pn 1 E z λa E=>wif E m z (λm=>?_) λm=>?_
    ·refine wK<|aA<|wS<|wB<|wS<|?_;obtain ⟨A,H⟩:=H.raw (d _ f);obtain ⟨B,H⟩:=H.raw (t1 (d _ i));refine dw [(0,0),(1,0),(2,0),(3,0),(4,0),(5,0),(6,0),(7,0),(8,0)] [] [1,0] H (by kernel_rfl) (λ_ _ _ h=>False.elim h.2) λw W0 hI H=>fn 2 E z λa E=>bd m λb p m=>?_;obtain ⟨q14,C,q,s⟩:=gD (P:=Tryz.prog) (k:=.i64) hI (gC (.head _)) U44 xA p;refine fv E z (λw hW=>iO E z z z (q w)) λa E=>fv E z (λw hW=>mW E z z (G9 (cs:=[.int .i64 b.Num,.int .i64 b.Kind,.string b.Path,.int .i64 b.Watch]) (DR.ir (N8 s)) (λ_ _ _ h=>T7 h) Hm z xA w hW)) λa E=>fn 2 E z λa E=>bd m λc t m=>?_;obtain ⟨q20,D,u,x⟩:=gD (P:=Tryz.prog) (k:=.i64) hI (gC (.tail _ (.head _))) U44 xA t;refine fv E z (λw hW=>iO E z z z (u w)) λa E=>fv E z (λw hW=>mW E z z (G9 (cs:=[.int .i64 c.Num,.int .i64 c.Kind,.string c.Path,.int .i64 c.Watch]) (DR.ir (N8 x)) (λ_ _ _ h=>T7 h) Hm z xA w hW)) λa E=>fv E z (λw hW=>(zP E z z z (v:=.bool (!((b.Num == c.Num) && ((b.Kind == c.Kind) && ((sEq b.Path c.Path) && (b.Watch == c.Watch)))))) (Qf QU (Ea Hm QT (yP (by rfl) (by kernel_rfl) (by kernel_rfl) (R1 U2) (yP (by rfl) (by kernel_rfl) (by kernel_rfl) (R1 U3) (yP (by rfl) (by kernel_rfl) (by kernel_rfl) (Bq U9) (Hi (by rfl) (by kernel_rfl) (by kernel_rfl) (R1 U2))))))))) λa E=>bG<|?_;clear hI;refine aA<|wif E m z (λm=>?_) λm=>?_
     ·refine sq<|pn 1 E z λa E=>wR<|bJ<|aH<|aH<|bJ<|aH<|o1 E z<|?_;cases m;exact ⟨z,H.reads (Y2 d)⟩
     exact wK<|bM<|aA<|wG<|pn 3 E z λa E=>⟨e,nL e,_,_,E.to z,H,(Y2 d),m⟩
    ·refine wX<|aT<|aT<|cL<|aA<|sq<|pn 1 E z λa E=>wR<|o1 E z<|?_;cases m;exact ⟨z,H.reads d⟩

def iJ(c:List Int)(d:List Int):Nat->Int->Option Bool
  | 0,_=>none
  | g+1,b=>
    if (decide (b < (c.length:Int)))=true then ((idx c b).bind λe=>(idx d b).bind λf=>if (e != f)=true then (some (false)) else (iJ c d g (IntKind.i64.wrap (b+1)))) else (some (true))
def rR(b:List Int)(c:List Int):Option Bool:=
  if ((b.length:Int) != (c.length:Int))=true then (some (false)) else (iJ b c (((b.length:Int) - 0:Int).toNat+1) 0)
theorem Ft{g i:VL}{e j:List Int}(H:Sep w (Fo) rs)(d:rSl (kI .i64) g e ∈ rs)(f:rSl (kI .i64) i j ∈ rs){r:Bool}(m:rR e j=some r) :
    Cf 63 [g,i] w λv w'=>.bool r=v/\Sep w' (Fo) (rs):=by
 unfold rR at m;refine ent func63 z ntmps63 z z λa E=>sq<|pn 1 E z λa E=>wS<|sp 1 E z λa E=>lS E H d U46 z λa E=>pr 1 E z λa E=>lS E H f U46 z λa E=>pn 1 E z λa E=>wif E m z (λm=>?_) λm=>?_
 ·refine sq<|pn 1 E z λa E=>wR<|aH<|o1 E z<|?_;cases m;exact ⟨z,H.reads Y0⟩
 ·refine wK<|aA<|wS<|sq<|pn 1 E z λa E=>wB<|bF (λc a w=>∃ l,Jn 26 a w [(0,g),(1,i),(5,.int .i64 l)] (Fo) rs (iJ e j c l=some r)) (((e.length:Int) - 0:Int).toNat+1) ?_ ?_
  ·exact ⟨_,_,E.to z,H,Y0,m⟩
  ·clear E H m;rintro c a w ⟨l,u,E,H,b,m⟩;cases c with
   | zero=>exact (bD m z).elim
   | succ c=>
    unfold iJ at m;refine wS<|sp 2 E z λa E=>lS E H (b _ d) U46 z λa E=>pn 1 E z λa E=>wif E m z (λm=>?_) λm=>?_
    ·refine wK<|aA<|wS<|wB<|wS<|?_;obtain ⟨x,H⟩:=H.raw (b _ d);obtain ⟨y,H⟩:=H.raw (t1 (b _ f));refine dw [(0,0),(1,0),(2,0),(3,0),(4,0),(5,0),(6,0),(7,0),(8,0)] [] [1,0] H (by kernel_rfl) (λ_ _ _ h=>False.elim h.2) λw W0 hI H=>fn 2 E z λa E=>bd m λA n m=>?_;obtain ⟨q14,B,o,p⟩:=gD (P:=Tryz.prog) (k:=.i64) hI (gC (.head _)) U46 sz2 n;refine fv E z (λw hW=>iO E z z z (o w)) λa E=>fa E z (wn z) z z z z p U2 z λa E=>fn 2 E z λa E=>bd m λC q m=>?_;obtain ⟨q20,D,s,t⟩:=gD (P:=Tryz.prog) (k:=.i64) hI (gC (.tail _ (.head _))) U46 sz2 q;refine fv E z (λw hW=>iO E z z z (s w)) λa E=>fa E z (wn z) z z z z t U2 z λa E=>fn 1 E z λa E=>bG<|?_;clear hI;refine aA<|wif E m z (λm=>?_) λm=>?_
     ·refine sq<|pn 1 E z λa E=>wR<|bJ<|aH<|aH<|bJ<|aH<|o1 E z<|?_;cases m;exact ⟨z,H.reads (Y2 b)⟩
     exact wK<|bM<|aA<|wG<|pn 3 E z λa E=>⟨c,nL c,_,_,E.to z,H,(Y2 b),m⟩
    ·refine wX<|aT<|aT<|cL<|aA<|sq<|pn 1 E z λa E=>wR<|o1 E z<|?_;cases m;exact ⟨z,H.reads b⟩

def sT(x1:aW)(e:aW):Nat->Int->Option Bool
  | 0,_=>none
  | k+1,b=>
    if (decide (b < (x1.Mounts.length:Int)))=true then ((idx x1.Mounts b).bind λc=>(idx e.Mounts b).bind λd=>if (!((sEq c.Prefix d.Prefix) && ((c.Group == d.Group) && ((c.Epoch == d.Epoch) && (c.To == d.To)))))=true then (some (false)) else (sT x1 e k (IntKind.i64.wrap (b+1)))) else ((nG x1.Results e.Results).bind λf=>if f=true then ((mF x1.Store e.Store).bind λg=>if g=true then ((pG x1.Events e.Events).bind λi=>if i=true then ((rR x1.Wounded e.Wounded).bind λj=>some (j)) else (some (false))) else (some (false))) else (some (false)))
def jR(x1:aW)(c:aW)(b:Bool):Option Bool:=
  if b=true then (some (false)) else (sT x1 c (((x1.Mounts.length:Int) - 0:Int).toNat+1) 0)
def wP(x1:aW)(b:aW):Option Bool:=
  if (x1.Err != b.Err)=true then (jR x1 b true) else (if (x1.At != b.At)=true then (jR x1 b true) else (if (x1.Yes != b.Yes)=true then (jR x1 b true) else (if (x1.Epoch != b.Epoch)=true then (jR x1 b true) else (jR x1 b ((x1.Mounts.length:Int) != (b.Mounts.length:Int))))))
theorem Li{x1 n:aW}{L D F M N O Q q s u x y:VL}(H:Sep w (Fo) rs)(R:rSl aX L x1.Results ∈ rs)(S:rSl aB D x1.Store.Nodes ∈ rs)(T:rSl aC F x1.Store.Turns ∈ rs)(U:rSl aQ M x1.Events ∈ rs)(t:rSl bB N x1.Mounts ∈ rs)(V:rSl (kI .i64) O x1.Wounded ∈ rs)(W:rSl aX Q n.Results ∈ rs)(X:rSl aB q n.Store.Nodes ∈ rs)(Y:rSl aC s n.Store.Turns ∈ rs)(Z:rSl aQ u n.Events ∈ rs)(G:rSl bB x n.Mounts ∈ rs)(b0:rSl (kI .i64) y n.Wounded ∈ rs){r:Bool}(m:wP x1 n=some r) :
    Cf 22 [.agg (aS x1 L D F M N O).toArray,.agg (aS n Q q s u x y).toArray] w λv w'=>.bool r=v/\Sep w' (Fo) (rs):=by
 unfold wP at m;refine ent func22 z ntmps22 z z λa E=>sq<|bx E H z λA w a H E=>bx E H z λB w a H E=>pn 1 E z λa E=>wS<|aL (λa w=>∃ I,Jn 85 a w [(2,pt A 0),(3,pt B 0),(40,.bool I)] (Blk A 48 (aS x1 L D F M N O)::Blk B 48 (aS n Q q s u x y)::Fo) rs (jR x1 n I=some r)) ?_ ?_
 ·refine wG<|pr 1 E z λa E=>lb2 E H 1 U41 z λa E=>pr 1 E z λa E=>lb2 E H 0 U41 z λa E=>pr 2 E z λa E=>cs m (λj m=>?_) λj m=>?_
  ·exact pk 29 E (kc 11 z j) z λa E=>nt<|have H:=H.frs [0,1] z;⟨_,_,E.to z,H,Y0,m⟩
  refine pk 1 E (kc 11 z j) z λa E=>gl 11 E H 1 j U3 z λa E=>pk 1 E (kc 11 z j) z λa E=>gl 11 E H 0 j U3 z λa E=>pk 3 E (kc 11 z j) z λa E=>cs m (λd m=>?_) λd m=>?_
  ·exact pk 22 E (kc 18 z d) z λa E=>nt<|have H:=H.frs [0,1] z;⟨_,_,E.to z,H,Y0,m⟩
  refine pk 1 E (kc 18 z d) z λa E=>gl 18 E H 1 d U4 z λa E=>pk 1 E (kc 18 z d) z λa E=>gl 18 E H 0 d U4 z λa E=>gv 18 E d z (zP E z z z (v:=.bool (x1.Yes != n.Yes)) (by kernel_rfl)) λa E=>pk 2 E (kc 18 z d) z λa E=>cs m (λl m=>?_) λl m=>?_
  ·exact pk 15 E (kc 25 z l) z λa E=>nt<|have H:=H.frs [0,1] z;⟨_,_,E.to z,H,Y0,m⟩
  refine pk 1 E (kc 25 z l) z λa E=>gl 25 E H 1 l U2 z λa E=>pk 1 E (kc 25 z l) z λa E=>gl 25 E H 0 l U2 z λa E=>pk 3 E (kc 25 z l) z λa E=>cs m (λc m=>?_) λc m=>?_
  ·exact pk 8 E (kc 32 z c) z λa E=>nt<|have H:=H.frs [0,1] z;⟨_,_,E.to z,H,Y0,m⟩
  exact pk 1 E (kc 32 z c) z λa E=>gl 32 E H 1 c U45 z λa E=>gv 32 E c z (xO E H z z t U45) λa E=>pk 1 E (kc 32 z c) z λa E=>gl 32 E H 0 c U45 z λa E=>gv 32 E c z (xO E H z z G U45) λa E=>pk 2 E (kc 32 z c) z λa E=>nt<|have H:=H.frs [0,1] z;⟨_,_,E.to z,H,Y0,m⟩
 ·clear E H m;rintro a w ⟨I,c1,E,H,J,m⟩;unfold jR at m;refine wif E m z (λm=>?_) λm=>?_
  ·refine sq<|pn 1 E z λa E=>wR<|aH<|o1 E z<|have H:=H.drs [0,0];?_;cases m;exact ⟨z,H.reads J⟩
  ·refine wK<|aA<|wS<|sq<|pn 1 E z λa E=>wB<|bF (λC a w=>∃ K,Jn 85 a w [(2,pt A 0),(3,pt B 0),(5,.int .i64 K)] (Blk A 48 (aS x1 L D F M N O)::Blk B 48 (aS n Q q s u x y)::Fo) rs (sT x1 n C K=some r)) (((x1.Mounts.length:Int) - 0:Int).toNat+1) ?_ ?_
   ·exact ⟨_,_,E.to z,H,J,m⟩
   ·clear E H m;rintro C a w ⟨K,c2,E,H,b,m⟩;cases C with
    | zero=>exact (bD m z).elim
    | succ C=>
     unfold sT at m;refine wS<|sp 2 E z λa E=>lb2 E H 0 U45 z λa E=>lS E H (b _ t) U45 z λa E=>pn 1 E z λa E=>wif E m z (λm=>?_) λm=>?_
     ·refine wK<|aA<|wS<|wB<|wS<|?_;obtain ⟨c3,H⟩:=H.raw (b _ t);obtain ⟨c4,H⟩:=H.raw (t1 (b _ G));refine dw [(0,0),(1,0),(2,0),(3,0),(4,0),(5,0),(6,0),(7,0),(8,0),(9,0),(10,0)] [0,1] [1,0] H (by kernel_rfl) (λ_ _ _ h=>False.elim h.2) λw W0 hI H=>fn 1 E z λa E=>fb2 E m0 U45 z λa E=>fn 1 E z λa E=>bd m λo b1 m=>?_;obtain ⟨q39,c5,b2,b3⟩:=gD (P:=Tryz.prog) (k:=.i64) hI (gC (.head _)) U45 Vx b1;refine fv E z (λw hW=>iO E z z z (b2 w)) λa E=>fv E z (λw hW=>mW E z z (G9 (cs:=[.string o.Prefix,.int .i64 o.Group,.int .i64 o.Epoch,.int .i64 o.To]) (DR.ir (N8 b3)) (λ_ _ _ h=>Dk h) HR z Vx w hW)) λa E=>fn 1 E z λa E=>fb2 E mm1 U45 z λa E=>fn 1 E z λa E=>bd m λp b4 m=>?_;obtain ⟨q45,c6,b5,b6⟩:=gD (P:=Tryz.prog) (k:=.i64) hI (gC (.tail _ (.head _))) U45 Vx b4;refine fv E z (λw hW=>iO E z z z (b5 w)) λa E=>fv E z (λw hW=>mW E z z (G9 (cs:=[.string p.Prefix,.int .i64 p.Group,.int .i64 p.Epoch,.int .i64 p.To]) (DR.ir (N8 b6)) (λ_ _ _ h=>Dk h) HR z Vx w hW)) λa E=>fv E z (λw hW=>(zP E z z z (v:=.bool (!((sEq o.Prefix p.Prefix) && ((o.Group == p.Group) && ((o.Epoch == p.Epoch) && (o.To == p.To)))))) (Qf QR (Ea HR QQ (yP (by rfl) (by kernel_rfl) (by kernel_rfl) (Bq U9) (yP (by rfl) (by kernel_rfl) (by kernel_rfl) (R1 U3) (yP (by rfl) (by kernel_rfl) (by kernel_rfl) (R1 U2) (Hi (by rfl) (by kernel_rfl) (by kernel_rfl) (R1 U3))))))))) λa E=>bG<|?_;clear hI;refine aA<|wif E m z (λm=>?_) λm=>?_
      ·refine sq<|pn 1 E z λa E=>wR<|bJ<|aH<|aH<|bJ<|aH<|o1 E z<|have H:=H.drs [0,0];?_;cases m;exact ⟨z,H.reads (Y2 b)⟩
      exact wK<|bM<|aA<|wG<|pn 3 E z λa E=>⟨C,nL C,_,_,E.to z,H,(Y2 b),m⟩
     ·refine wX<|aT<|aT<|cL<|aA<|sp 1 E z λa E=>lb2 E H 0 U40 z λa E=>pr 1 E z λa E=>lb2 E H 1 U40 z λa E=>bd m λc7 b7 m=>xk2 E z (cf_ 16) (R6 H (b _ R) (b _ W) b7) λw H a E=>pr 1 E z λa E=>cs m (λe m=>?_) λe m=>?_
      ·refine pk 1 E (kc 64 z e) z λa E=>gv 64 E e z (zQ (i:=0) (us:=[D,F]) E H z z z z U25 z cY) λa E=>pk 1 E (kc 64 z e) z λa E=>gv 64 E e z (zQ (i:=1) (us:=[q,s]) E H z z z z U25 z cY) λa E=>bd m λc8 b8 m=>gc 64 E e z (cf_ 14) (M4 H (b _ S) (b _ T) (b _ X) (b _ Y) b8)<|?_;rintro _ w ⟨rfl,H⟩ a E;refine pk 2 E (kc 64 z e) z λa E=>cs m (λf m=>?_) λf m=>?_
       ·refine pk 1 E (kc 71 z f) z λa E=>gl 71 E H 0 f U44 z λa E=>pk 1 E (kc 71 z f) z λa E=>gl 71 E H 1 f U44 z λa E=>bd m λc9 b9 m=>gc 71 E f z (cf_ 62) (Do H (b _ U) (b _ Z) b9)<|?_;rintro _ w ⟨rfl,H⟩ a E;refine pk 2 E (kc 71 z f) z λa E=>cs m (λg m=>?_) λg m=>?_
        ·refine pk 1 E (kc 78 z g) z λa E=>gl 78 E H 0 g U46 z λa E=>pk 1 E (kc 78 z g) z λa E=>gl 78 E H 1 g U46 z λa E=>bd m λd0 c0 m=>gc 78 E g z (cf_ 63) (Ft H (b _ V) (b _ b0) c0)<|?_;rintro _ w ⟨rfl,H⟩ a E;refine pk 2 E (kc 78 z g) z λa E=>nt<|wR<|o1 E z<|have H:=H.drs [0,0];?_;cases m;exact ⟨z,H.reads b⟩
        refine pk 7 E (kc 78 z g) z λa E=>nt<|wR<|o1 E z<|have H:=H.drs [0,0];?_;cases m;exact ⟨z,H.reads b⟩
       refine pk 14 E (kc 71 z f) z λa E=>nt<|wR<|o1 E z<|have H:=H.drs [0,0];?_;cases m;exact ⟨z,H.reads b⟩
      ·refine pk 21 E (kc 64 z e) z λa E=>nt<|wR<|o1 E z<|have H:=H.drs [0,0];?_;cases m;exact ⟨z,H.reads b⟩

def r9(b:BY):Option BY:=
  (yU b).bind λc=>some (c)
theorem Lj{b:BY}(H:Sep w (Fo) rs){r:BY}(m:r9 b=some r) :
    Cf 68 [.string b] w λv w'=>.string r=v/\Sep w' (Fo) (rs):=by
 unfold r9 at m;refine ent func68 z ntmps68 z z λa E=>sp 1 E z λa E=>xp 1 E z λa E=>bd m λd c m=>xk2 E z (cf_ 138) (Pj H c) λw H a E=>pn 1 E z λa E=>wR<|o1 E z<|?_;cases m;exact ⟨z,H.reads Y0⟩

def sU(rec_1:dL->Int->Option Hr)(b:Int)(c:dL):Option Hr:=
  rec_1 c (IntKind.i64.wrap (b+1))
def sV(rec_2:Int->Int->Option Hr)(b:Int)(c:Int):Option Hr:=
  rec_2 c (IntKind.i64.wrap (b+1))
def gL(x1:aK)(d:BY)(e:dL):Nat->Int->Int->Option Hr
  | 0,_,_=>none
  | f+1,c,b=>
    if (decide (b < (x1.Turns.length:Int)))=true then ((idx x1.Turns b).bind λg=>if (sEq g.Dir d)=true then ((idx x1.Turns b).bind λi=>sV (gL x1 d e f) b i.Next) else (sV (gL x1 d e f) b c)) else (some (e,c))
def hJ(x1:aK)(c:BY):Nat->dL->Int->Option Hr
  | 0,_,_=>none
  | f+1,d,b=>
    if (decide (b < (x1.Nodes.length:Int)))=true then ((idx x1.Nodes b).bind λg=>(r9 g.Path).bind λi=>if (sEq i c)=true then ((idx x1.Nodes b).bind λe=>(ck (d.length+([e]:List aG).length <= LIM)).bind λj=>sU (hJ x1 c f) b (d ++ ([e]:List aG))) else (sU (hJ x1 c f) b d)) else (gL x1 c d (((x1.Turns.length:Int) - 0:Int).toNat+1) 0 0)
def sW(x1:aK)(b:BY):Option Hr:=
  hJ x1 b (((x1.Nodes.length:Int) - 0:Int).toNat+1) [] 0
theorem Bz{x1:aK}{s t:VL}{g:BY}(H:Sep w (Fo) rs)(u:rSl aB s x1.Nodes ∈ rs)(y:rSl aC t x1.Turns ∈ rs){r:dL×Int}(m:sW x1 g=some r) :
    Cf 61 [.agg #[s,t],.string g] w λv w'=>∃ O,.tuple #[O,.int .i64 r.2]=v/\Sep w' (Row 107 aB O r.1::Fo) (rs):=by
 unfold sW at m;refine ent func61 z ntmps61 z z λa E=>sq<|bx E H z λj w a H E=>pr 2 E z λa E=>xp 1 E z λa E=>nx<|pn 1 E z λa E=>wS<|sq<|pn 1 E z λa E=>wB<|bF (λn a w=>∃ o p k,Jn 57 a w [(1,.string g),(2,pt j 0),(6,o),(7,.int .i64 0),(8,.int .i64 k)] (Blk j 25 [s,t]::Row 107 aB o p::Fo) rs (hJ x1 g n p k=some r)) (((x1.Nodes.length:Int) - 0:Int).toNat+1) ?_ ?_
 ·exact have H:=H.nilRow 107 aB;have H:=H.frs [0,1] z;X4 ⟨E.to z,H,Y0,m⟩
 ·clear E H m;rintro n a w ⟨o,p,k,S,E,H,c,m⟩;cases n with
  | zero=>exact (bD m z).elim
  | succ n=>
   unfold hJ at m;refine wS<|sp 2 E z λa E=>lb2 E H 0 U22 z λa E=>lS E H (c _ u) U22 z λa E=>pn 1 E z λa E=>wif E m z (λm=>?_) λm=>?_
   ·refine wK<|aA<|aL (λa w=>∃ A B,Jn 57 a w [(1,.string g),(2,pt j 0),(6,A),(7,.int .i64 0),(8,.int .i64 k)] (Blk j 25 [s,t]::Row 107 aB A B::Fo) rs (sU (hJ x1 g n) k B=some r)) ?_ ?_
    ·refine wB<|sp 1 E z λa E=>lb2 E H 0 U22 z λa E=>pr 1 E z λa E=>bd m λP F m=>dC E H (wn z) z z z z z (c _ u) U22 gM F λq19 a H E=>have H:=H.derive1 m0 (rAt kS (q19.add 0) P.Path) (λok h=>Su h);pr 1 E z λa E=>sv2 E z (oO E H z z m0 U9 z) λa E=>bd m λW G m=>xk2 E z (cf_ 68) (Lj H G) λw H a E=>pn 2 E z λa E=>wif E m z (λm=>?_) λm=>?_
     ·exact wG<|pr 2 E z λa E=>lb2 E H 0 U22 z λa E=>pr 1 E z λa E=>bd m λb I m=>dC E H (wn z) z z z z z (t2 (c _ u)) U22 gM I λq24 a H E=>ldf cM E H z z z z z m0 w6 z gM λa E=>sD (e:=107) (d:=aB) (cs:=[.string b.Path,.string b.Data,.int .i64 b.Version,.int .i64 b.Turn,.int .i64 b.Owner]) (xs:=[b]) E H (wn z) z z z (E.evs z) (by kernel_rfl) z (λok hr=>(Rows.single (d:=aB) (cs:=[.string b.Path,.string b.Data,.int .i64 b.Version,.int .i64 b.Turn,.int .i64 b.Owner]) (x:=b) zG)) λX w a H E=>bk m λJ m=>eF (i:=1) E H (wn z) z z z z z z (lH m0) U22 Kk z J z λY w a H E=>pr 1 E z λa E=>wN<|bM<|aA<|X3 ⟨E.to z,H,(Y4 c),m⟩
     exact wK<|bM<|aA<|X3 ⟨E.to z,H,(Y2 c),m⟩
    clear E H m;rintro a w ⟨A,B,T,E,H,K,m⟩;unfold sU at m;exact wG<|pn 3 E z λa E=>⟨n,nL n,X4 ⟨E.to z,H,K,m⟩⟩
   ·refine wX<|aT<|aT<|cL<|aA<|wS<|sq<|pn 1 E z λa E=>wB<|bF (λq a w=>∃ C l,Jn 57 a w [(1,.string g),(2,pt j 0),(6,o),(7,.int .i64 C),(9,.int .i64 l)] (Blk j 25 [s,t]::Row 107 aB o p::Fo) rs (gL x1 g p q C l=some r)) (((x1.Turns.length:Int) - 0:Int).toNat+1) ?_ ?_
    ·exact X3 ⟨E.to z,H,c,m⟩
    ·clear E H m;rintro q a w ⟨C,l,U,E,H,f,m⟩;cases q with
     | zero=>exact (bD m z).elim
     | succ q=>
      unfold gL at m;refine wS<|sp 2 E z λa E=>lb2 E H 0 U23 z λa E=>lS E H (f _ y) U23 z λa E=>pn 1 E z λa E=>wif E m z (λm=>?_) λm=>?_
      ·refine wK<|aA<|aL (λa w=>∃ D,Jn 57 a w [(1,.string g),(2,pt j 0),(6,o),(7,.int .i64 D),(9,.int .i64 l)] (Blk j 25 [s,t]::Row 107 aB o p::Fo) rs (sV (gL x1 g p q) l D=some r)) ?_ ?_
       ·refine wB<|sp 1 E z λa E=>lb2 E H 0 U23 z λa E=>pr 1 E z λa E=>bd m λQ L m=>dC E H (wn z) z z z z z (f _ y) U23 rF L λq38 a H E=>have H:=H.derive1 m0 (rAt kS (q38.add 0) Q.Dir) (λok h=>Gc h);pr 1 E z λa E=>sv2 E z (oO E H z z m0 U9 z) λa E=>pn 2 E z λa E=>wif E m z (λm=>?_) λm=>?_
        ·exact wG<|pr 1 E z λa E=>lb2 E H 0 U23 z λa E=>pr 1 E z λa E=>bd m λR M m=>dC E H (wn z) z z z z z (t2 (f _ y)) U23 rF M λq41 a H E=>have H:=H.derive1 m0 (rAt (kI .i64) (q41.add 1) R.Next) (λok h=>Sx h);pr 1 E z λa E=>sv2 E z (oO E H z z m0 U2 z) λa E=>pr 1 E z λa E=>wN<|bM<|aA<|⟨_,_,E.to z,H,(Y4 f),m⟩
        exact wK<|bM<|aA<|⟨_,_,E.to z,H,(Y2 f),m⟩
       clear E H m;rintro a w ⟨D,V,E,H,N,m⟩;unfold sV at m;exact wG<|pn 3 E z λa E=>⟨q,nL q,X3 ⟨E.to z,H,N,m⟩⟩
      ·refine wX<|aT<|aT<|cL<|aA<|sq<|pn 4 E z λa E=>wR<|hX E z z z<|have H:=H.drop 0;?_;cases m;exact ⟨_,z,H.reads f⟩

def sX(rec_1:Int->Option Bool)(b:Int)(c:Bool):Option Bool:=
  if c=true then (some (false)) else (rec_1 (IntKind.i64.wrap (b+1)))
def hP(c:List BY)(x1:aK)(f:aK):Nat->Int->Option Bool
  | 0,_=>none
  | g+1,b=>
    if (decide (b < (c.length:Int)))=true then ((idx c b).bind λx20=>(sW x1 x20).bind λd=>(idx c b).bind λi=>(sW f i).bind λe=>(sF d.1 e.1).bind λj=>if (!j)=true then (sX (hP c x1 f g) b true) else (sX (hP c x1 f g) b (d.2 != e.2))) else (some (true))
def wQ(x1:aK)(c:aK)(b:List BY):Option Bool:=
  hP b x1 c (((b.length:Int) - 0:Int).toNat+1) 0
theorem Lk{x1 j:aK}{l n o p x:VL}{q:List BY}(H:Sep w (Fo) rs)(N:rSl aB l x1.Nodes ∈ rs)(y:rSl aC n x1.Turns ∈ rs)(A:rSl aB o j.Nodes ∈ rs)(B:rSl aC p j.Turns ∈ rs)(s:rSl kS x q ∈ rs){r:Bool}(m:wQ x1 j q=some r) :
    Cf 21 [.agg #[l,n],.agg #[o,p],x] w λv w'=>.bool r=v/\Sep w' (Fo) (rs):=by
 unfold wQ at m;refine ent func21 z ntmps21 z z λa E=>sq<|bx E H z λf w a H E=>bx E H z λg w a H E=>pn 1 E z λa E=>wS<|sp 1 E z λa E=>nt<|wB<|bF (λd a w=>∃ c,Jn 45 a w [(2,x),(3,pt f 0),(4,pt g 0),(7,.int .i64 c)] (Blk f 25 [l,n]::Blk g 25 [o,p]::Fo) rs (hP q x1 j d c=some r)) (((q.length:Int) - 0:Int).toNat+1) ?_ ?_
 ·exact have H:=H.frs [0,1] z;⟨_,_,E.to z,H,Y0,m⟩
 ·clear E H m;rintro d a w ⟨c,O,E,H,b,m⟩;cases d with
  | zero=>exact (bD m z).elim
  | succ d=>
   unfold hP at m;refine wS<|sp 2 E z λa E=>lS E H (b _ s) U33 z λa E=>pn 1 E z λa E=>wif E m z (λm=>?_) λm=>?_
   ·refine wK<|aA<|wS<|wB<|wS<|?_;obtain ⟨R,H⟩:=H.raw (b _ s);refine dw [(0,0),(1,0),(2,0),(3,0),(4,0),(5,1),(6,0),(7,0),(8,0),(9,1),(10,2)] [0] [0] H (by kernel_rfl) (λ_ _ _ h=>False.elim h.2) λw W0 hI H=>fbn E [l,n] z (wn z) z z z z m0 z U25 z cY λa E=>fn 2 E z λa E=>bd m λx20 C m=>?_;obtain ⟨q22,S,D,F⟩:=gD (P:=Tryz.prog) (k:=.i64) hI (gC (.head _)) U33 sz9 C;refine fv E z (λw hW=>iO E z z z (D w)) λa E=>fa E z (wn z) z z z z F U9 z λa E=>bW z<|bd m λT G m=>xc2 E z (cf_ 61) (Bz H (t1 (b _ N)) (t1 (b _ y)) G)<|?_;rintro _ w ⟨U,rfl,H⟩ a E;refine nt<|⟨⟨_,_,H,(aV mm1 (bQ)),(aD m0 (bT))⟩,fn 3 E z λa E=>bW z<|pn 1 E z λa E=>⟨⟨_,_,H,(aV mm1 (bQ)),(aD m0 (bT))⟩,bK z<|pn 1 E z λa E=>bG<|?_⟩⟩
    clear hI;refine aA<|wS<|dw [(0,0),(1,0),(2,0),(3,0),(4,0),(5,1),(6,0),(7,0),(8,0),(9,1),(10,2)] [2] [0] H (by kernel_rfl) (λ_ _ _ h=>False.elim h.2) λw W0 hI H=>fbn E [o,p] z (wn z) z z z z m0 z U25 z cY λa E=>fn 2 E z λa E=>bd m λV I m=>?_;obtain ⟨q31,W,J,K⟩:=gD (P:=Tryz.prog) (k:=.i64) hI (gC (.head _)) U33 sz9 I;refine fv E z (λw hW=>iO E z z z (J w)) λa E=>fa E z (wn z) z z z z K U9 z λa E=>bW z<|bd m λX L m=>xc2 E z (cf_ 61) (Bz H (t1 (b _ A)) (t1 (b _ B)) L)<|?_;rintro _ w ⟨Y,rfl,H⟩ a E;refine nt<|⟨⟨_,_,H,(aV mm3 (bQ)),(aD m0 (bT))⟩,fn 3 E z λa E=>bW z<|pn 1 E z λa E=>⟨⟨_,_,H,(aV mm3 (bQ)),(aD m0 (bT))⟩,bK z<|pn 1 E z λa E=>bG<|?_⟩⟩
    clear hI;refine aA<|aL (λa w=>∃ t,Jn 45 a w [(2,x),(3,pt f 0),(4,pt g 0),(7,.int .i64 c),(44,.bool t)] (Blk f 25 [l,n]::Blk g 25 [o,p]::Fo) rs (sX (hP q x1 j d) c t=some r)) ?_ ?_
    ·refine wG<|pr 2 E z λa E=>have H:=H.thaw (i:=1) z;have H:=H.thaw (i:=0) z;bd m λZ M m=>xk2 E z (cf_ 55) (Bt H mm1 m0 M) λw H a E=>pr 2 E z λa E=>cs m (λe m=>?_) λe m=>?_
     ·exact pk 4 E (kc 40 z e) z λa E=>nt<|⟨_,_,E.to z,H,(Y3 b),m⟩
     exact pk 4 E (kc 40 z e) z λa E=>nt<|⟨_,_,E.to z,H,(Y3 b),m⟩
    clear E H m;rintro a w ⟨t,Q,E,H,u,m⟩;unfold sX at m;refine wif E m z (λm=>?_) λm=>?_
    ·refine sq<|pn 1 E z λa E=>wR<|bJ<|aH<|aH<|bJ<|aH<|o1 E z<|have H:=H.drs [0,0];?_;cases m;exact ⟨z,H.reads u⟩
    exact wK<|bM<|aA<|wG<|pn 3 E z λa E=>⟨d,nL d,_,_,E.to z,H,u,m⟩
   ·refine wX<|aT<|aT<|cL<|aA<|sq<|pn 1 E z λa E=>wR<|o1 E z<|have H:=H.drs [0,0];?_;cases m;exact ⟨z,H.reads b⟩

def sY(rec_1:cR->Bool->Int->Option cR)(d:Int)(b:cR)(c:Bool):Option cR:=
  rec_1 b c (IntKind.i64.wrap (d+1))
def oL(rec_1:cR->Bool->Int->Option cR)(c:Int)(f:List BY)(i:BY)(b:cR)(d:Bool):Option cR:=
  (idx f c).bind λg=>if (!(sEq g i))=true then ((idx f c).bind λe=>(ck (b.length+([e]:List BY).length <= LIM)).bind λj=>sY rec_1 c (b ++ ([e]:List BY)) d) else (sY rec_1 c b d)
def oM(rec_1:cR->Bool->Int->Option cR)(d:Int)(e:List BY)(b:BY)(c:cR)(g:Bool)(f:Bool):Option cR:=
  if f=true then ((ck (c.length+([b]:List BY).length <= LIM)).bind λi=>oL rec_1 d e b (c ++ ([b]:List BY)) true) else (oL rec_1 d e b c g)
def sZ(b:cR):Option cR:=
  some (b)
def eH(c:List BY)(b:BY):Nat->cR->Bool->Int->Option cR
  | 0,_,_,_=>none
  | g+1,d,e,f=>
    if (decide (f < (c.length:Int)))=true then (if (!e)=true then ((idx c f).bind λi=>oM (eH c b g) f c b d e (!(sLt i b))) else (oM (eH c b g) f c b d e false)) else (if (!e)=true then ((ck (d.length+([b]:List BY).length <= LIM)).bind λj=>sZ (d ++ ([b]:List BY))) else (sZ d))
def wT(b:List BY)(c:BY):Option cR:=
  eH b c (((b.length:Int) - 0:Int).toNat+1) [] false 0
theorem Ll{p:VL}{g:List BY}{b:BY}(H:Sep w (Fo) rs)(n:rSl kS p g ∈ rs){r:cR}(m:wT g b=some r) :
    Cf 59 [p,.string b] w λv w'=>∃ S,S=v/\Sep w' (Row 9 kS S r::Fo) (rs):=by
 unfold wT at m;refine ent func59 z ntmps59 z z λa E=>sp 1 E z λa E=>xp 1 E z λa E=>nx<|pn 1 E z λa E=>wS<|sq<|pn 1 E z λa E=>wB<|bF (λj a w=>∃ q s t k,Jn 48 a w [(0,p),(1,.string b),(5,q),(6,.bool t),(7,.int .i64 k)] (Row 9 kS q s::Fo) rs (eH g b j s t k=some r)) (((g.length:Int) - 0:Int).toNat+1) ?_ ?_
 ·exact have H:=H.nilRow 9 kS;X5 ⟨E.to z,H,Y0,m⟩
 ·clear E H m;rintro j a w ⟨q,s,t,k,X,E,H,c,m⟩;cases j with
  | zero=>exact (bD m z).elim
  | succ j=>
   unfold eH at m;refine wS<|sp 2 E z λa E=>lS E H (c _ n) U33 z λa E=>pn 1 E z λa E=>wif E m z (λm=>?_) λm=>?_
   ·refine wK<|aA<|aL (λa w=>∃ u y A,Jn 48 a w [(0,p),(1,.string b),(5,u),(6,.bool A),(7,.int .i64 k)] (Row 9 kS u y::Fo) rs (sY (eH g b j) k y A=some r)) ?_ ?_
    ·refine wB<|aL (λa w=>∃ B C D,Jn 48 a w [(0,p),(1,.string b),(5,B),(6,.bool D),(7,.int .i64 k)] (Row 9 kS B C::Fo) rs (oL (eH g b j) k g b C D=some r)) ?_ ?_
     ·refine aL (λa w=>∃ F,Jn 48 a w [(0,p),(1,.string b),(5,q),(6,.bool t),(7,.int .i64 k),(23,.bool F)] (Row 9 kS q s::Fo) rs (oM (eH g b j) k g b s t F=some r)) ?_ ?_
      ·refine wG<|pr 3 E z λa E=>cs m (λf m=>?_) λf m=>?_
       ·exact pk 2 E (kc 16 z f) z λa E=>bd m λY K m=>dC E H (ws' (d:=16) E z z z z f) z z z z z (c _ n) U33 sz9 K λq41 a H E=>gv 16 E f z (oO E H z z m0 U9 z) λa E=>pk 3 E (kc 16 z f) z λa E=>nt<|⟨_,_,E.to z,H,(Y1 c),m⟩
       exact pk 7 E (kc 16 z f) z λa E=>nt<|⟨_,_,E.to z,H,c,m⟩
      clear E H m;rintro a w ⟨F,T,E,H,G,m⟩;unfold oM at m;refine wif E m z (λm=>?_) λm=>?_
      ·exact sp 2 E z λa E=>sD (e:=9) (d:=kS) (cs:=[.string b]) (xs:=[b]) E H (wn z) z z z (E.evs z) (by kernel_rfl) z (λok hr=>(Rows.single (d:=kS) (cs:=[.string b]) (x:=b) z)) λZ w a H E=>bk m λL m=>eF (i:=0) E H (wn z) z z z z z z (lH m0) U33 Kh z L z λb0 w a H E=>pn 1 E z λa E=>wG<|pr 1 E z λa E=>nt<|X4 ⟨E.to z,H,(Y1 G),m⟩
      exact wK<|aA<|X4 ⟨E.to z,H,G,m⟩
     clear E H m;rintro a w ⟨B,C,D,U,E,H,l,m⟩;unfold oL at m;refine sp 2 E z λa E=>bd m λb1 M m=>dC E H (wn z) z z z z z (l _ n) U33 sz9 M λq23 a H E=>sv2 E z (oO E H z z m0 U9 z) λa E=>pn 2 E z λa E=>wif E m z (λm=>?_) λm=>?_
     ·exact wG<|pr 3 E z λa E=>bd m λo N m=>dC E H (wn z) z z z z z (t1 (l _ n)) U33 sz9 N λq26 a H E=>sv2 E z (oO E H z z m0 U9 z) λa E=>sD (e:=9) (d:=kS) (cs:=[.string o]) (xs:=[o]) E H (wn z) z z z (E.evs z) (by kernel_rfl) z (λok hr=>(Rows.single (d:=kS) (cs:=[.string o]) (x:=o) z)) λb2 w a H E=>bk m λO m=>eF (i:=0) E H (wn z) z z z z z z (lH m0) U33 Kh z O z λb3 w a H E=>pr 1 E z λa E=>wN<|bM<|aA<|X4 ⟨E.to z,H,(Y3 l),m⟩
     exact wK<|bM<|aA<|X4 ⟨E.to z,H,(Y1 l),m⟩
    clear E H m;rintro a w ⟨u,y,A,V,E,H,P,m⟩;unfold sY at m;exact wG<|pn 3 E z λa E=>⟨j,nL j,X5 ⟨E.to z,H,P,m⟩⟩
   ·refine wX<|aT<|aT<|cL<|aA<|aL (λa w=>∃ I J,Jn 48 a w [(5,I)] (Row 9 kS I J::Fo) rs (sZ J=some r)) ?_ ?_
    ·refine sq<|pn 2 E z λa E=>wif E m z (λm=>?_) λm=>?_
     ·exact wG<|pr 2 E z λa E=>sD (e:=9) (d:=kS) (cs:=[.string b]) (xs:=[b]) E H (wn z) z z z (E.evs z) (by kernel_rfl) z (λok hr=>(Rows.single (d:=kS) (cs:=[.string b]) (x:=b) z)) λb4 w a H E=>bk m λQ m=>eF (i:=0) E H (wn z) z z z z z z (lH m0) U33 Kh z Q z λb5 w a H E=>pn 1 E z λa E=>X3 ⟨E.to z,H,(Y1 c),m⟩
     exact wK<|aA<|X3 ⟨E.to z,H,c,m⟩
    ·clear E H m;rintro a w ⟨I,J,W,E,H,R,m⟩;unfold sZ at m;refine sq<|pn 2 E z λa E=>wR<|o1 E z<|?_;cases m;exact ⟨_,z,H.reads R⟩

def lY(b:List cJ):Nat->cR->Int->Option cR
  | 0,_,_=>none
  | f+1,d,c=>
    if (decide (c < (b.length:Int)))=true then ((idx b c).bind λg=>(wT d g.Part.Dir).bind λe=>lY b f e (IntKind.i64.wrap (c+1))) else (some (d))
def wU(b:List cJ):Option cR:=
  lY b (((b.length:Int) - 0:Int).toNat+1) [] 0
theorem Lm{f:VL}{d:List cJ}(H:Sep w (Fo) rs)(e:rSl bN f d ∈ rs){r:cR}(m:wU d=some r) :
    Cf 19 [f] w λv w'=>∃ o,o=v/\Sep w' (Row 9 kS o r::Fo) (rs):=by
 unfold wU at m;refine ent func19 z ntmps19 z z λa E=>sp 1 E z λa E=>nx<|pn 1 E z λa E=>wS<|sp 1 E z λa E=>nt<|wB<|bF (λc a w=>∃ g j k,Jn 20 a w [(0,f),(3,g),(4,.int .i64 k)] (Row 9 kS g j::Fo) rs (lY d c j k=some r)) (((d.length:Int) - 0:Int).toNat+1) ?_ ?_
 ·exact have H:=H.nilRow 9 kS;X4 ⟨E.to z,H,Y0,m⟩
 ·clear E H m;rintro c a w ⟨g,j,k,q,E,H,b,m⟩;cases c with
  | zero=>exact (bD m z).elim
  | succ c=>
   unfold lY at m;refine wS<|sp 2 E z λa E=>lS E H (b _ e) U26 z λa E=>pn 1 E z λa E=>wif E m z (λm=>?_) λm=>?_
   ·refine wK<|aA<|wS<|wB<|wG<|pr 3 E z λa E=>bd m λp l m=>dC E H (wn z) z z z z z (b _ e) U26 Z2 l λq11 a H E=>have H:=H.derive1 m0 (rAt cP (q11.add 1) p.Part) (λok h=>Ej h);pr 1 E z λa E=>have H:=H.derive1 m0 (rAt kS ((q11.add 1).add 1) p.Part.Dir) (λok h=>Ta h);pr 1 E z λa E=>sv2 E z (oO E H z z m0 U9 z) λa E=>have H:=H.thaw (i:=0) z;bd m λs n m=>xc2 E z (cf_ 59) (Ll H m0 n)<|?_;rintro _ w ⟨t,rfl,H⟩ a E;exact pr 1 E z λa E=>wN<|bM<|aA<|wG<|pn 3 E z λa E=>⟨c,nL c,X4 ⟨E.to z,H,(Y4 b),m⟩⟩
   ·refine wX<|aT<|aT<|cL<|aA<|sq<|pn 2 E z λa E=>wR<|o1 E z<|?_;cases m;exact ⟨_,z,H.reads b⟩

def kG(rec_1:Int->dL->dO->gY->kN->eZ->dY->kO->F8->kO->Option Bool)(l:Int)(b:dL)(c:dO)(d:gY)(e:kN)(f:eZ)(g:dY)(i:kO)(j:F8)(k:kO):Option Bool:=
  rec_1 (IntKind.i64.wrap (l+1)) b c d e f g i j k
def fD(rec_1:Int->dL->dO->gY->kN->eZ->dY->kO->F8->kO->Option Bool)(c:Int)(p:List aI)(e:dL)(f:dO)(g:gY)(i:kN)(j:eZ)(k:dY)(l:kO)(m:F8)(d:kO)(n:Bool):Option Bool:=
  if n=true then ((idx p c).bind λo=>(bY e f g i j k l m d o).bind λb=>kG rec_1 c b.2.1 b.2.2.1 b.2.2.2.1 b.2.2.2.2.1 b.2.2.2.2.2.1 b.2.2.2.2.2.2.1 b.2.2.2.2.2.2.2.1 b.2.2.2.2.2.2.2.2.1 b.2.2.2.2.2.2.2.2.2) else (kG rec_1 c e f g i j k l m d)
def gI(e:Bool)(f:aW×dL×dO×gY×kN×eZ×dY×kO×F8×kO)(c:aK)(d:aK)(m:aI)(l:aW×dL×dO×gY×kN×eZ×dY×kO×F8×kO)(g:Bool):Option Bool:=
  if g=true then (if e=true then (if (f.1.Err == 0)=true then ((mF c d).bind λi=>some (i)) else (some (false))) else (some (false))) else ((A5 d m.Pieces).bind λb=>if e=true then (if (b.2.2.1 == 0)=true then ((mF c b.1).bind λj=>if j=true then ((nG b.2.1 l.1.Results).bind λk=>some (k)) else (some (false))) else (some (false))) else (some (false)))
def cV(d:List aI)(i:Bool)(c:aI)(f:aW×dL×dO×gY×kN×eZ×dY×kO×F8×kO)(p:aK)(q:cR)(l:Bool):Nat->Int->dL->dO->gY->kN->eZ->dY->kO->F8->kO->Option Bool
  | 0,_,_,_,_,_,_,_,_,_,_=>none
  | z+1,g,m,n,s,t,u,v,x,y,j=>
    if (decide (g < (d.length:Int)))=true then ((idx d g).bind λA=>if (A.Txn != c.Txn)=true then (fD (cV d i c f p q l z) g d m n s t u v x y j true) else ((idx d g).bind λB=>if (B.Kind != 3)=true then ((idx d g).bind λC=>fD (cV d i c f p q l z) g d m n s t u v x y j (C.Kind != 2)) else (fD (cV d i c f p q l z) g d m n s t u v x y j false))) else ((lM m n).bind λk=>(wQ p k q).bind λD=>if (!D)=true then (some (false)) else ((bY m n s t u v x y j (⟨2,c.Id,c.Txn,c.Age,c.Yes,c.Pieces,c.Prefix,c.Epoch,c.To,c.Store,c.Gone,c.Watch⟩:aI)).bind λb=>(wP f.1 b.1).bind λF=>if (!F)=true then (some (false)) else ((bY b.2.1 b.2.2.1 b.2.2.2.1 b.2.2.2.2.1 b.2.2.2.2.2.1 b.2.2.2.2.2.2.1 b.2.2.2.2.2.2.2.1 b.2.2.2.2.2.2.2.2.1 b.2.2.2.2.2.2.2.2.2 (⟨3,0,c.Txn,0,l,[],(ByteArray.mk #[]),0,0,(⟨[],[]⟩:aK),[],(⟨0,0,(ByteArray.mk #[]),false⟩:aP)⟩:aI)).bind λe=>(lM e.2.1 e.2.2.1).bind λo=>if (e.1.Err != 0)=true then (gI i e o k c f true) else (if (!l)=true then (gI i e o k c f true) else (gI i e o k c f (!f.1.Yes))))))
def gJ(c:List aI)(d:Bool)(k:aI)(b:aW×dL×dO×gY×kN×eZ×dY×kO×F8×kO)(e:cR)(f:Bool)(g:Bool):Option Bool:=
  if g=true then (if d=true then ((uU b.2.2.2.2.1).bind λi=>some ((i.length:Int) == 0)) else (some (false))) else ((lM b.2.1 b.2.2.1).bind λj=>cV c d k b j e f (((c.length:Int) - 0:Int).toNat+1) 0 b.2.1 b.2.2.1 b.2.2.2.1 b.2.2.2.2.1 b.2.2.2.2.2.1 b.2.2.2.2.2.2.1 b.2.2.2.2.2.2.2.1 b.2.2.2.2.2.2.2.2.1 b.2.2.2.2.2.2.2.2.2)
def fE(e:List aI)(d:Bool)(b:aI)(f:Bool)(g:dL×dO×gY)(j:Bool):Option Bool:=
  if j=true then (some (d)) else ((bY g.1 g.2.1 g.2.2 ([]:List aU) ([]:List aP) ([]:List aE) [] [] [] (⟨2,b.Id,b.Txn,b.Age,b.Yes,b.Pieces,b.Prefix,b.Epoch,b.To,b.Store,b.Gone,b.Watch⟩:aI)).bind λc=>(wU b.Pieces).bind λi=>if (c.1.Err == 1)=true then (gJ e d b c i f true) else (if (c.1.Err == 131)=true then (gJ e d b c i f true) else (gJ e d b c i f (c.1.Err == 132))))
def qH(x1:aK)(l:List aF)(f:aI)(b:List aI)(d:Bool):Option Bool:=
  N3.bind λc=>(yF x1 l).bind λm=>Ol m (some (c)) λe=>(qX x1).bind λg=>if g=true then (fE b c f d e true) else ((uW l).bind λi=>if i=true then (fE b c f d e true) else ((uV b).bind λj=>if j=true then (fE b c f d e true) else ((rB f).bind λk=>fE b c f d e k)))
theorem Dz{x1:aK}{m7 m8 y5 d0 d1 d2 A d3:VL}{y6:List aF}{b:aI}{S:List aI}{p:Bool}(H:Sep w (Fo) rs)(l4:rSl aB m7 x1.Nodes ∈ rs)(l5:rSl aC m8 x1.Turns ∈ rs)(l6:rSl aO y5 y6 ∈ rs)(d4:rSl bN d0 b.Pieces ∈ rs)(g2:rSl aB d1 b.Store.Nodes ∈ rs)(g3:rSl aC d2 b.Store.Turns ∈ rs)(g4:rSl kS A b.Gone ∈ rs)(e2:rSl rU d3 S ∈ rs)(b3:U5 Tryz.prog ∈ rs){r:Bool}(m:qH x1 y6 b S p=some r) :
    Cf 4 [.agg #[m7,m8],y5,.agg (aN b d0 d1 d2 A).toArray,d3,.bool p] w λv w'=>.bool r=v/\Sep w' (Fo) (rs):=by
 unfold qH at m;refine ent func4 z ntmps4 z z λa E=>sq<|bx E H z λp23 w a H E=>bx E H z λx w a H E=>pr 1 E z λa E=>nx<|bd m λy u1 m=>xk2 E z (cf_ 8) (Lh H b3 u1) λw H a E=>pr 1 E z λa E=>nx<|ln 1 [m7,m8] E H U25 z cY λa E=>pr 1 E z λa E=>bd m λu27 u2 m=>xc2 E z (cf_ 9) (Fs H l4 l5 l6 u2)<|?_;rintro _ w (⟨rfl,rfl,H⟩ | ⟨j5,rfl,G,s4,s5,s6,I,J,K,rfl,H⟩) a E
 ·replace m:=Qk m
  refine pn 1 E z λa E=>wS<|sp 1 E z λa E=>sv2 E z (zP E z z z (v:=.bool true) (by kernel_rfl)) λa E=>pn 16 E z λa E=>wp_cond_true (E.eval z)<|sq<|pn 2 E z λa E=>wR<|aH<|o1 E z<|have H:=H.drs [0,0];?_;cases m;exact ⟨z,H.reads Y0⟩
 ·replace m:=Ql m
  refine pn 1 E z λa E=>wS<|aL (λa w=>∃ l7 b4,Env 183 a [(3,d3),(4,.bool p),(7,pt x 0),(11,.bool y),(12,pt G 0),(46,.bool l7)]/\Sep w (Blk x 37 (aN b d0 d1 d2 A)::Blk G 87 [s4,s5,s6,nS,nS,nS,.map (some I),.map (some J),.map (some K)]::bX Tryz.prog 2 (kyI .i64) bC true I []::bX Tryz.prog 2 (kyI .i64) dG true J []::bX Tryz.prog 2 (kyI .i64) bC true K []::Fo) b4/\(∀ r,r ∈ rs->r ∈ b4)/\rSl aB s4 j5.1 ∈ b4/\rSl aC s5 j5.2.1 ∈ b4/\rSl aO s6 j5.2.2 ∈ b4/\fE S y b p j5 l7=some r) ?_ ?_
  ·refine wG<|pr 1 E z λa E=>sv2 E z (zP E z z z (v:=.bool false) (by kernel_rfl)) λa E=>pr 1 E z λa E=>cA E (ws E z z z z) z z (zQ (i:=5) (us:=[m7,m8]) E H z z z z U25 z cY) λa E=>bd m λy7 m9 m=>bI E (ws E z z z z) z z (Dc E z z ((cf_ 10) _)) (Aj H (t3 l4) (t3 l5) m9)<|?_;rintro _ w ⟨rfl,H⟩ a E;refine pr 2 E z λa E=>cs m (λT m=>?_) λT m=>?_
   ·exact pk 11 E (kc 35 z T) z λa E=>nt<|have H:=H.drop 5;have H:=H.frs [3,3,3,3,4] z;⟨_,_,E.to z,H,(Y3 Y0),m0,mm1,mm2,m⟩
   refine pk 1 E (kc 35 z T) z λa E=>bd m λy8 n0 m=>gc 35 E T z (cf_ 17) (Jq H (t3 l6) n0)<|?_;rintro _ w ⟨rfl,H⟩ a E;refine pk 2 E (kc 35 z T) z λa E=>cs m (λU m=>?_) λU m=>?_
   ·exact pk 7 E (kc 39 z U) z λa E=>nt<|have H:=H.drop 5;have H:=H.frs [3,3,3,3,4] z;⟨_,_,E.to z,H,(Y3 Y0),m0,mm1,mm2,m⟩
   refine pk 1 E (kc 39 z U) z λa E=>bd m λy9 n1 m=>gc 39 E U z (cf_ 18) (Jp H (t3 e2) n1)<|?_;rintro _ w ⟨rfl,H⟩ a E;refine pk 2 E (kc 39 z U) z λa E=>cs m (λV m=>?_) λV m=>?_
   ·exact pk 3 E (kc 43 z V) z λa E=>nt<|have H:=H.drop 5;have H:=H.frs [3,3,3,3,4] z;⟨_,_,E.to z,H,(Y3 Y0),m0,mm1,mm2,m⟩
   refine gv 43 E V z (zQ (i:=4) (us:=(aN b d0 d1 d2 A)) E H z z z z U37 z xZ) λa E=>bd m λz0 n2 m=>gc 43 E V z (cf_ 11) (Am H (t3 d4) (t3 g2) (t3 g3) (t3 g4) n2)<|?_;rintro _ w ⟨rfl,H⟩ a E;exact pk 1 E (kc 43 z V) z λa E=>nt<|have H:=H.drop 5;have H:=H.frs [3,3,3,3,4] z;⟨_,_,E.to z,H,(Y3 Y0),m0,mm1,mm2,m⟩
  ·clear E H m;rintro a w ⟨l7,b4,E,H,s,u3,u4,u5,m⟩;unfold fE at m;refine wif E m z (λm=>?_) λm=>?_
   ·refine sq<|pn 2 E z λa E=>wR<|aH<|o1 E z<|have H:=H.drs [0,0,0,0,0];?_;cases m;exact ⟨z,H.reads s⟩
   ·refine wK<|aA<|sp 1 E z λa E=>ss 0 E H z sz3 z λw H=>xp 1 E z λa E=>ln 0 [.int .i64 2,.int .i64 b.Id,.int .i64 b.Txn,.int .i64 b.Age,.bool b.Yes,d0,.string b.Prefix,.int .i64 b.Epoch,.int .i64 b.To,d1,d2,A,.int .i64 b.Watch.Session,.int .i64 b.Watch.Num,.string b.Watch.Path,.bool b.Watch.Deep] E H U37 z xZ λa E=>have H:=H.nilSl bA;have H:=H.nilSl aR;have H:=H.nilSl aJ;have H:=H.frs [0,4,4,4,4] z;bd m λc u6 m=>xc2 E z (cf_ 13) (jC (x20:=(⟨2,b.Id,b.Txn,b.Age,b.Yes,b.Pieces,b.Prefix,b.Epoch,b.To,b.Store,b.Gone,b.Watch⟩:aI)) H (t3 u3) (t3 u4) (t3 u5) mm2 mm1 m0 (t3 (s _ d4)) (t3 (s _ g2)) (t3 (s _ g3)) (t3 (s _ g4)) (t3 (s _ b3)) u6)<|?_;rintro _ w ⟨B,L,M,N,O,Q,s7,s8,s9,t0,t9,u0,rfl,H⟩ a E;refine al2 E H z lB λR w a H E=>ss 0 E H z bR (aZ H m0 mm1 mm2 mm3 mm4 mm5) λw H=>xp 1 E z λa E=>lb2 E H 5 U26 z λa E=>bd m λb6 u7 m=>xc2 E z (cf_ 19) (Lm H (t7 (t8 (s _ d4))) u7)<|?_;rintro _ w ⟨b7,rfl,H⟩ a E;refine pn 1 E z λa E=>wS<|aL (λa w=>∃ l8 l,Env 183 a [(3,d3),(4,.bool p),(7,pt x 0),(11,.bool y),(12,pt G 0),(13,pt R 0),(14,b7),(67,.bool l8)]/\Sep w (Blk x 37 [.int .i64 2,.int .i64 b.Id,.int .i64 b.Txn,.int .i64 b.Age,.bool b.Yes,d0,.string b.Prefix,.int .i64 b.Epoch,.int .i64 b.To,d1,d2,A,.int .i64 b.Watch.Session,.int .i64 b.Watch.Num,.string b.Watch.Path,.bool b.Watch.Deep]::Blk G 87 [s7,s8,s9,t0,t9,u0,.map (some I),.map (some J),.map (some K)]::Blk R 48 (aS c.1 B L M N O Q)::Row 9 kS b7 b6::bX Tryz.prog 2 (kyI .i64) bC true I c.2.2.2.2.2.2.2.1::bX Tryz.prog 2 (kyI .i64) dG true J c.2.2.2.2.2.2.2.2.1::bX Tryz.prog 2 (kyI .i64) bC true K c.2.2.2.2.2.2.2.2.2::Fo) l/\(∀ r,r ∈ rs->r ∈ l)/\rSl aB s7 c.2.1 ∈ l/\rSl aC s8 c.2.2.1 ∈ l/\rSl aO s9 c.2.2.2.1 ∈ l/\rSl bA t0 c.2.2.2.2.1 ∈ l/\rSl aR t9 c.2.2.2.2.2.1 ∈ l/\rSl aJ u0 c.2.2.2.2.2.2.1 ∈ l/\rSl aX B c.1.Results ∈ l/\rSl aB L c.1.Store.Nodes ∈ l/\rSl aC M c.1.Store.Turns ∈ l/\rSl aQ N c.1.Events ∈ l/\rSl bB O c.1.Mounts ∈ l/\rSl (kI .i64) Q c.1.Wounded ∈ l/\gJ S y b c b6 p l8=some r) ?_ ?_
    ·refine wG<|pr 1 E z λa E=>lb2 E H 1 U41 z λa E=>pr 2 E z λa E=>cs m (λW m=>?_) λW m=>?_
     ·exact pk 9 E (kc 58 z W) z λa E=>nt<|have H:=H.frs [5,5,5,3,4,5,6] z;⟨_,_,E.to z,H,(Y7 (Y8 s)),mm6,(t1 mm6),(t2 mm6),(t3 mm6),(t4 mm6),(t5 mm6),m0,mm1,mm2,mm3,mm4,mm5,m⟩
     refine pk 1 E (kc 58 z W) z λa E=>gl 58 E H 1 W U41 z λa E=>pk 3 E (kc 58 z W) z λa E=>cs m (λX m=>?_) λX m=>?_
     ·exact pk 4 E (kc 63 z X) z λa E=>nt<|have H:=H.frs [5,5,5,3,4,5,6] z;⟨_,_,E.to z,H,(Y7 (Y8 s)),mm6,(t1 mm6),(t2 mm6),(t3 mm6),(t4 mm6),(t5 mm6),m0,mm1,mm2,mm3,mm4,mm5,m⟩
     exact pk 1 E (kc 63 z X) z λa E=>gl 63 E H 1 X U41 z λa E=>pk 2 E (kc 63 z X) z λa E=>nt<|have H:=H.frs [5,5,5,3,4,5,6] z;⟨_,_,E.to z,H,(Y7 (Y8 s)),mm6,(t1 mm6),(t2 mm6),(t3 mm6),(t4 mm6),(t5 mm6),m0,mm1,mm2,mm3,mm4,mm5,m⟩
    ·clear E H m;rintro a w ⟨l8,l,E,H,g5,l9,m1,u8,m2,u9,v0,v1,v2,v3,v4,v5,v6,m⟩;unfold gJ at m;refine wif E m z (λm=>?_) λm=>?_
     ·refine sp 2 E z λa E=>cs m (λb5 m=>?_) λb5 m=>?_
      ·refine pk 1 E (kc 69 z b5) z λa E=>have H:=H.frs [6,6,6,6,6,5,6] z;bd m λu77 v7 m=>gc 69 E b5 z (cf_ 20) (Al H m2 v7)<|?_;rintro _ w ⟨v79,rfl,H⟩ a E;refine gv 69 E b5 z (lQ (i:=0) E H z z z U58) λa E=>pk 3 E (kc 69 z b5) z λa E=>nt<|wR<|aH<|o1 E z<|have H:=H.drs [0,0,0,0,0,0,0,0];?_;cases m;exact ⟨z,H.reads g5⟩
      refine pk 6 E (kc 69 z b5) z λa E=>nt<|wR<|aH<|o1 E z<|have H:=H.drs [0,0,0,0,0,0,0];?_;cases m;exact ⟨z,H.reads g5⟩
     ·refine wK<|aA<|sp 1 E z λa E=>have H:=H.frs [6,6,6,6,6,5,6] z;bd m λY v8 m=>xc2 E z (cf_ 15) (zE H l9 m1 v8)<|?_;rintro _ w ⟨d5,d6,rfl,H⟩ a E;refine al2 E H z mX λe1 w a H E=>ss 0 E H z cY (iQ H m0 mm1) λw H=>nt<|wS<|sq<|pn 1 E z λa E=>wB<|bF (λe7 a w=>∃ e8 e9 f0 f1 f2 f3 d7 f4 f5 f6 f7 f8 f9 g0 g1 d8 e,Env 183 a [(3,d3),(4,.bool p),(7,pt x 0),(11,.bool y),(12,pt G 0),(13,pt R 0),(14,b7),(15,pt e1 0),(16,.int .i64 d7)]/\Sep w (Blk x 37 [.int .i64 2,.int .i64 b.Id,.int .i64 b.Txn,.int .i64 b.Age,.bool b.Yes,d0,.string b.Prefix,.int .i64 b.Epoch,.int .i64 b.To,d1,d2,A,.int .i64 b.Watch.Session,.int .i64 b.Watch.Num,.string b.Watch.Path,.bool b.Watch.Deep]::Blk G 87 [e8,e9,f0,f1,f2,f3,.map (some I),.map (some J),.map (some K)]::Blk R 48 (aS c.1 B L M N O Q)::Row 9 kS b7 b6::Blk e1 25 [d5,d6]::bX Tryz.prog 2 (kyI .i64) bC true I g0::bX Tryz.prog 2 (kyI .i64) dG true J g1::bX Tryz.prog 2 (kyI .i64) bC true K d8::Fo) e/\(∀ r,r ∈ rs->r ∈ e)/\rSl aB e8 f4 ∈ e/\rSl aC e9 f5 ∈ e/\rSl aO f0 f6 ∈ e/\rSl bA f1 f7 ∈ e/\rSl aR f2 f8 ∈ e/\rSl aJ f3 f9 ∈ e/\rSl aX B c.1.Results ∈ e/\rSl aB L c.1.Store.Nodes ∈ e/\rSl aC M c.1.Store.Turns ∈ e/\rSl aQ N c.1.Events ∈ e/\rSl bB O c.1.Mounts ∈ e/\rSl (kI .i64) Q c.1.Wounded ∈ e/\rSl aB d5 Y.Nodes ∈ e/\rSl aC d6 Y.Turns ∈ e/\cV S y b c Y b6 p e7 d7 f4 f5 f6 f7 f8 f9 g0 g1 d8=some r) (((S.length:Int) - 0:Int).toNat+1) ?_ ?_
      ·exact have H:=H.frs [7,7,7,3,7,7,6,7] z;X17 ⟨E.to z,H,(Y2 g5),(t2 l9),(t2 m1),(t2 u8),(t2 m2),(t2 u9),(t2 v0),(t2 v1),(t2 v2),(t2 v3),(t2 v4),(t2 v5),(t2 v6),m0,mm1,m⟩
      ·clear E H m;rintro e7 a w ⟨e8,e9,f0,f1,f2,f3,d7,f4,f5,f6,f7,f8,f9,g0,g1,d8,e,E,H,j,Z,b0,b8,b9,c0,c1,t,c2,c3,c4,c5,c6,c7,c8,m⟩;cases e7 with
       | zero=>exact (bD m z).elim
       | succ e7=>
        unfold cV at m;refine wS<|sp 2 E z λa E=>lS E H (j _ e2) U54 z λa E=>pn 1 E z λa E=>wif E m z (λm=>?_) λm=>?_
        ·refine wK<|aA<|aL (λa w=>∃ g6 g7 g8 g9 i0 i1 i2 i3 i4 i5 i6 i7 i8 i9 j0 f,Env 183 a [(3,d3),(4,.bool p),(7,pt x 0),(11,.bool y),(12,pt G 0),(13,pt R 0),(14,b7),(15,pt e1 0),(16,.int .i64 d7)]/\Sep w (Blk x 37 [.int .i64 2,.int .i64 b.Id,.int .i64 b.Txn,.int .i64 b.Age,.bool b.Yes,d0,.string b.Prefix,.int .i64 b.Epoch,.int .i64 b.To,d1,d2,A,.int .i64 b.Watch.Session,.int .i64 b.Watch.Num,.string b.Watch.Path,.bool b.Watch.Deep]::Blk G 87 [g6,g7,g8,g9,i0,i1,.map (some I),.map (some J),.map (some K)]::Blk R 48 (aS c.1 B L M N O Q)::Row 9 kS b7 b6::Blk e1 25 [d5,d6]::bX Tryz.prog 2 (kyI .i64) bC true I i8::bX Tryz.prog 2 (kyI .i64) dG true J i9::bX Tryz.prog 2 (kyI .i64) bC true K j0::Fo) f/\(∀ r,r ∈ rs->r ∈ f)/\rSl aB g6 i2 ∈ f/\rSl aC g7 i3 ∈ f/\rSl aO g8 i4 ∈ f/\rSl bA g9 i5 ∈ f/\rSl aR i0 i6 ∈ f/\rSl aJ i1 i7 ∈ f/\rSl aX B c.1.Results ∈ f/\rSl aB L c.1.Store.Nodes ∈ f/\rSl aC M c.1.Store.Turns ∈ f/\rSl aQ N c.1.Events ∈ f/\rSl bB O c.1.Mounts ∈ f/\rSl (kI .i64) Q c.1.Wounded ∈ f/\rSl aB d5 Y.Nodes ∈ f/\rSl aC d6 Y.Turns ∈ f/\kG (cV S y b c Y b6 p e7) d7 i2 i3 i4 i5 i6 i7 i8 i9 j0=some r) ?_ ?_
         ·refine wB<|aL (λa w=>∃ j1 g,Env 183 a [(3,d3),(4,.bool p),(7,pt x 0),(11,.bool y),(12,pt G 0),(13,pt R 0),(14,b7),(15,pt e1 0),(16,.int .i64 d7),(106,.bool j1)]/\Sep w (Blk x 37 [.int .i64 2,.int .i64 b.Id,.int .i64 b.Txn,.int .i64 b.Age,.bool b.Yes,d0,.string b.Prefix,.int .i64 b.Epoch,.int .i64 b.To,d1,d2,A,.int .i64 b.Watch.Session,.int .i64 b.Watch.Num,.string b.Watch.Path,.bool b.Watch.Deep]::Blk G 87 [e8,e9,f0,f1,f2,f3,.map (some I),.map (some J),.map (some K)]::Blk R 48 (aS c.1 B L M N O Q)::Row 9 kS b7 b6::Blk e1 25 [d5,d6]::bX Tryz.prog 2 (kyI .i64) bC true I g0::bX Tryz.prog 2 (kyI .i64) dG true J g1::bX Tryz.prog 2 (kyI .i64) bC true K d8::Fo) g/\(∀ r,r ∈ rs->r ∈ g)/\rSl aB e8 f4 ∈ g/\rSl aC e9 f5 ∈ g/\rSl aO f0 f6 ∈ g/\rSl bA f1 f7 ∈ g/\rSl aR f2 f8 ∈ g/\rSl aJ f3 f9 ∈ g/\rSl aX B c.1.Results ∈ g/\rSl aB L c.1.Store.Nodes ∈ g/\rSl aC M c.1.Store.Turns ∈ g/\rSl aQ N c.1.Events ∈ g/\rSl bB O c.1.Mounts ∈ g/\rSl (kI .i64) Q c.1.Wounded ∈ g/\rSl aB d5 Y.Nodes ∈ g/\rSl aC d6 Y.Turns ∈ g/\fD (cV S y b c Y b6 p e7) d7 S f4 f5 f6 f7 f8 f9 g0 g1 d8 j1=some r) ?_ ?_
          ·obtain ⟨z1,H⟩:=H.raw (j _ e2);refine dw [(0,0),(1,0),(2,0),(3,0),(4,0),(5,0),(6,0),(7,0),(8,0),(9,0),(10,0),(11,0),(12,0),(13,0),(14,0),(15,0),(16,0),(17,0),(18,0),(19,0),(20,0),(21,0),(22,0),(23,0)] [0] [0] H (by kernel_rfl) (λ_ _ _ h=>False.elim h.2) λw W0 hI H=>fn 2 E z λa E=>bd m λz2 n3 m=>?_;obtain ⟨q190,z3,n4,n5⟩:=gD (P:=Tryz.prog) (k:=.i64) hI (gC (.head _)) U54 xZ n3;refine fv E z (λw hW=>iO E z z z (n4 w)) λa E=>?_;have n6:=tC n5 (λ_ _ _ h=>Nf h);refine fn 1 E z λa E=>fa E z (wn z) z z z z n6 U2 z λa E=>fn 1 E z λa E=>fb2 E m0 U2 z λa E=>fn 2 E z λa E=>cs m (λn m=>?_) λn m=>?_
           ·refine fk 15 E (kc 91 z n) z λa E=>bG<|?_;clear hI;exact aA<|⟨_,_,E.to z,H,(Y1 j),(t1 Z),(t1 b0),(t1 b8),(t1 b9),(t1 c0),(t1 c1),(t1 t),(t1 c2),(t1 c3),(t1 c4),(t1 c5),(t1 c6),(t1 c7),(t1 c8),m⟩
           refine fk 2 E (kc 91 z n) z λa E=>bd m λz4 n7 m=>?_;obtain ⟨q198,z5,n8,n9⟩:=gD (P:=Tryz.prog) (k:=.i64) hI (gC (.head _)) U54 xZ n7;refine dV E z (ws' (d:=91) E z z z z n) z z (λw hW=>iO E z z z (n8 w)) λa E=>?_;have o0:=tC n9 (λ_ _ _ h=>Cm h);refine fk 1 E (kc 91 z n) z λa E=>fa E z (ws' (d:=91) E z z z z n) z z z z o0 U3 z λa E=>fk 2 E (kc 91 z n) z λa E=>cs m (λu m=>?_) λu m=>?_
           ·refine fk 2 E (kc 98 z u) z λa E=>bd m λz6 o2 m=>?_;obtain ⟨q206,z7,o3,o4⟩:=gD (P:=Tryz.prog) (k:=.i64) hI (gC (.head _)) U54 xZ o2;refine dV E z (ws' (d:=98) E z z z z u) z z (λw hW=>iO E z z z (o3 w)) λa E=>?_;have o5:=tC o4 (λ_ _ _ h=>Cm h);refine fk 1 E (kc 98 z u) z λa E=>fa E z (ws' (d:=98) E z z z z u) z z z z o5 U3 z λa E=>fk 3 E (kc' (kc 98 z u) 91 z n) z λa E=>bG<|?_;clear hI;exact aA<|⟨_,_,E.to z,H,(Y1 j),(t1 Z),(t1 b0),(t1 b8),(t1 b9),(t1 c0),(t1 c1),(t1 t),(t1 c2),(t1 c3),(t1 c4),(t1 c5),(t1 c6),(t1 c7),(t1 c8),m⟩
           refine fk 8 E (kc' (kc 98 z u) 91 z n) z λa E=>bG<|?_;clear hI;exact aA<|⟨_,_,E.to z,H,(Y1 j),(t1 Z),(t1 b0),(t1 b8),(t1 b9),(t1 c0),(t1 c1),(t1 t),(t1 c2),(t1 c3),(t1 c4),(t1 c5),(t1 c6),(t1 c7),(t1 c8),m⟩
          clear E H m;rintro a w ⟨j1,g,E,H,c9,j6,j7,j8,j9,k0,k1,k2,k3,k4,k5,k6,k7,k8,k9,m⟩;unfold fD at m;refine wif E m z (λm=>?_) λm=>?_
          ·refine wG<|pr 3 E z λa E=>bd m λz8 o6 m=>dC E H (wn z) z z z z z (c9 _ e2) U54 xZ o6 λq167 a H E=>Dd E H (wn z) z z z z m0 U37 z xZ λz9 a H E=>?_;obtain ⟨v169,v170,v171,v172,rfl,h⟩:=Iw H;clear H;have H:=h;refine have H:=H.frs [4,4,4,3,7,7,7,7] z;bd m λu173 o7 m=>xc2 E z (cf_ 13) (jC H (t6 j6) (t6 j7) (t6 j8) (t6 j9) (t6 k0) (t6 k1) mm3 mm2 mm1 m0 (t6 (c9 _ b3)) o7)<|?_;rintro _ w ⟨v175,v176,v177,v178,v179,v180,v181,v182,v183,v184,v185,v186,rfl,H⟩ a E;exact wN<|bM<|aA<|have H:=H.frs [3,3,3,7,7,7,6,7] z;X16 ⟨E.to z,H,(Y2 (Y8 (Y8 c9))),mm6,(t1 mm6),(t2 mm6),(t3 mm6),(t4 mm6),(t5 mm6),(t2 (t8 (t8 k2))),(t2 (t8 (t8 k3))),(t2 (t8 (t8 k4))),(t2 (t8 (t8 k5))),(t2 (t8 (t8 k6))),(t2 (t8 (t8 k7))),(t2 (t8 (t8 k8))),(t2 (t8 (t8 k9))),m⟩
          exact wK<|bM<|aA<|X16 ⟨E.to z,H,c9,j6,j7,j8,j9,k0,k1,k2,k3,k4,k5,k6,k7,k8,k9,m⟩
         clear E H m;rintro a w ⟨g6,g7,g8,g9,i0,i1,i2,i3,i4,i5,i6,i7,i8,i9,j0,f,E,H,o8,o9,p0,p1,p2,p3,p4,p5,p6,p7,p8,p9,q0,q1,q2,m⟩;unfold kG at m;exact wG<|pn 3 E z λa E=>⟨e7,nL e7,X17 ⟨E.to z,H,o8,o9,p0,p1,p2,p3,p4,p5,p6,p7,p8,p9,q0,q1,q2,m⟩⟩
        ·refine wX<|aT<|aT<|cL<|aA<|sp 1 E z λa E=>have H:=H.frs [7,7,7,7,7,7,6,7] z;bd m λj2 q3 m=>xc2 E z (cf_ 15) (zE H Z b0 q3)<|?_;rintro _ w ⟨d9,e0,rfl,H⟩ a E;refine al2 E H z mX λm3 w a H E=>ss 0 E H z cY (iQ H m0 mm1) λw H=>nt<|wS<|sq<|ln 5 [d5,d6] E H U25 z cY λa E=>ln 0 [d9,e0] E H U25 z cY λa E=>pr 1 E z λa E=>have H:=H.thaw (i:=4) z;bd m λu216 q4 m=>xk2 E z (cf_ 21) (Lk H (t3 c7) (t3 c8) mm1 mm2 m0 q4) λw H a E=>pn 1 E z λa E=>wif E m z (λm=>?_) λm=>?_
         ·refine sq<|pn 1 E z λa E=>wR<|aH<|o1 E z<|have H:=H.drs [0,0,0,0,0,0,0,0];?_;cases m;exact ⟨z,H.reads (Y3 j)⟩
         ·refine wK<|aA<|sp 1 E z λa E=>ln 2 [.int .i64 2,.int .i64 b.Id,.int .i64 b.Txn,.int .i64 b.Age,.bool b.Yes,d0,.string b.Prefix,.int .i64 b.Epoch,.int .i64 b.To,d1,d2,A,.int .i64 b.Watch.Session,.int .i64 b.Watch.Num,.string b.Watch.Path,.bool b.Watch.Deep] E H U37 z xZ λa E=>have H:=H.frs [4,4,4,3,7,7,7,7] z;bd m λv9 q5 m=>xc2 E z (cf_ 13) (jC (x20:=(⟨2,b.Id,b.Txn,b.Age,b.Yes,b.Pieces,b.Prefix,b.Epoch,b.To,b.Store,b.Gone,b.Watch⟩:aI)) H (t3 Z) (t3 b0) (t3 b8) (t3 b9) (t3 c0) (t3 c1) (t3 (j _ d4)) (t3 (j _ g2)) (t3 (j _ g3)) (t3 (j _ g4)) (t3 (j _ b3)) q5)<|?_;rintro _ w ⟨x0,x2,x3,x4,x5,x6,v226,v227,v228,v229,v230,v231,rfl,H⟩ a E;refine al2 E H z lB λp232 w a H E=>ss 0 E H z bR (aZ H m0 mm1 mm2 mm3 mm4 mm5) λw H=>nt<|wS<|sq<|ln 7 (aS c.1 B L M N O Q) E H U48 z bR λa E=>ln 0 (aS v9.1 x0 x2 x3 x4 x5 x6) E H U48 z bR λa E=>bd m λu233 q6 m=>xk2 E z (cf_ 22) (Li H (t7 (t8 t)) (t7 (t8 c2)) (t7 (t8 c3)) (t7 (t8 c4)) (t7 (t8 c5)) (t7 (t8 c6)) m0 mm1 mm2 mm3 mm4 mm5 q6) λw H a E=>pn 1 E z λa E=>wif E m z (λm=>?_) λm=>?_
          ·refine sq<|pn 1 E z λa E=>wR<|aH<|o1 E z<|have H:=H.drs [0,0,0,0,0,0,0,0,0];?_;cases m;exact ⟨z,H.reads (Y7 (Y8 j))⟩
          ·refine wK<|aA<|sp 2 E z λa E=>lb2 E H 6 U2 z λa E=>pr 1 E z λa E=>sv2 E z (cN E z (E.evs z) (v:=.agg #[.int .i64 3,.int .i64 0,.int .i64 b.Txn,.int .i64 0,.bool p,nS,.string (ByteArray.mk #[]),.int .i64 0,.int .i64 0,nS,nS,nS,.int .i64 0,.int .i64 0,.string (ByteArray.mk #[]),.bool false]) (by kernel_rfl)) λa E=>have H:=H.nilSl bN;have H:=H.nilSl aB;have H:=H.nilSl aC;have H:=H.nilSl kS;have H:=H.frs [8,8,8,8,4,8,8,8,8] z;bd m λm4 q7 m=>xc2 E z (cf_ 13) (jC (x20:=(⟨3,0,b.Txn,0,p,[],(ByteArray.mk #[]),0,0,(⟨[],[]⟩:aK),[],(⟨0,0,(ByteArray.mk #[]),false⟩:aP)⟩:aI)) H (t4 mm6) (t5 mm6) (t6 mm6) (t7 mm6) (t8 mm6) (t1 (t8 mm6)) mm3 mm2 mm1 m0 (t3 (t8 (t8 (j _ b3)))) q7)<|?_;rintro _ w ⟨x7,x8,x9,y0,y1,y2,v243,v244,v245,v246,v247,v248,rfl,H⟩ a E;refine al2 E H z lB λm5 w a H E=>ss 0 E H z bR (aZ H m0 mm1 mm2 mm3 mm4 mm5) λw H=>xp 1 E z λa E=>have H:=H.frs [9,9,9,9,9,9,9,9,8,9] z;bd m λj3 q8 m=>xc2 E z (cf_ 15) (zE H mm6 (t1 mm6) q8)<|?_;rintro _ w ⟨e3,e4,rfl,H⟩ a E;refine al2 E H z mX λm6 w a H E=>ss 0 E H z cY (iQ H m0 mm1) λw H=>nt<|wS<|aL (λa w=>∃ j4 q,Env 183 a [(7,pt x 0),(11,.bool y),(13,pt R 0),(17,pt m3 0),(19,pt m5 0),(20,pt m6 0),(146,.bool j4)]/\Sep w (Blk x 37 [.int .i64 2,.int .i64 b.Id,.int .i64 b.Txn,.int .i64 b.Age,.bool b.Yes,d0,.string b.Prefix,.int .i64 b.Epoch,.int .i64 b.To,d1,d2,A,.int .i64 b.Watch.Session,.int .i64 b.Watch.Num,.string b.Watch.Path,.bool b.Watch.Deep]::Blk R 48 (aS c.1 B L M N O Q)::Blk m3 25 [d9,e0]::Blk m5 48 (aS m4.1 x7 x8 x9 y0 y1 y2)::Blk m6 25 [e3,e4]::Fo) q/\(∀ r,r ∈ rs->r ∈ q)/\rSl aX B c.1.Results ∈ q/\rSl aB d9 j2.Nodes ∈ q/\rSl aC e0 j2.Turns ∈ q/\rSl aB e3 j3.Nodes ∈ q/\rSl aC e4 j3.Turns ∈ q/\gI y m4 j3 j2 b c j4=some r) ?_ ?_
           ·refine wG<|pr 1 E z λa E=>lb2 E H 2 U41 z λa E=>pr 2 E z λa E=>cs m (λe5 m=>?_) λe5 m=>?_
            ·exact pk 8 E (kc 138 z e5) z λa E=>nt<|have H:=H.drs [1,2,2,2,2,5];have H:=H.frs [0,1,2,4,4] z;⟨_,_,E.to z,H,(Y1 (Y8 (Y8 (Y8 (Y8 j))))),(t1 (t8 (t8 (t8 (t8 t))))),(t1 (t8 (t8 (t8 mm6)))),(t2 (t8 (t8 (t8 mm6)))),m0,mm1,m⟩
            refine pk 4 E (kc 138 z e5) z λa E=>cs m (λb1 m=>?_) λb1 m=>?_
            ·exact pk 4 E (kc 142 z b1) z λa E=>nt<|have H:=H.drs [1,2,2,2,2,5];have H:=H.frs [0,1,2,4,4] z;⟨_,_,E.to z,H,(Y1 (Y8 (Y8 (Y8 (Y8 j))))),(t1 (t8 (t8 (t8 (t8 t))))),(t1 (t8 (t8 (t8 mm6)))),(t2 (t8 (t8 (t8 mm6)))),m0,mm1,m⟩
            exact pk 1 E (kc 142 z b1) z λa E=>gl 142 E H 9 b1 U4 z λa E=>pk 2 E (kc 142 z b1) z λa E=>nt<|have H:=H.drs [1,2,2,2,2,5];have H:=H.frs [0,1,2,4,4] z;⟨_,_,E.to z,H,(Y1 (Y8 (Y8 (Y8 (Y8 j))))),(t1 (t8 (t8 (t8 (t8 t))))),(t1 (t8 (t8 (t8 mm6)))),(t2 (t8 (t8 (t8 mm6)))),m0,mm1,m⟩
           ·clear E H m;rintro a w ⟨j4,q,E,H,o,q9,l0,l1,l2,l3,m⟩;unfold gI at m;refine wif E m z (λm=>?_) λm=>?_
            ·refine sp 2 E z λa E=>cs m (λb2 m=>?_) λb2 m=>?_
             ·refine pk 1 E (kc 148 z b2) z λa E=>gl 148 E H 3 b2 U41 z λa E=>pk 3 E (kc 148 z b2) z λa E=>cs m (λC m=>?_) λC m=>?_
              ·refine gv 153 E C z (zQ (i:=4) (us:=[e3,e4]) E H z z z z U25 z cY) λa E=>gv 153 E C z (zQ (i:=2) (us:=[d9,e0]) E H z z z z U25 z cY) λa E=>bd m λu276 s0 m=>gc 153 E C z (cf_ 14) (M4 H l2 l3 l0 l1 s0)<|?_;rintro _ w ⟨rfl,H⟩ a E;refine pk 2 E (kc 153 z C) z λa E=>nt<|wR<|aH<|o1 E z<|have H:=H.drs [0,0,0,0,0];?_;cases m;exact ⟨z,H.reads o⟩
              refine pk 5 E (kc 153 z C) z λa E=>nt<|wR<|aH<|o1 E z<|have H:=H.drs [0,0,0,0,0];?_;cases m;exact ⟨z,H.reads o⟩
             refine pk 10 E (kc 148 z b2) z λa E=>nt<|wR<|aH<|o1 E z<|have H:=H.drs [0,0,0,0,0];?_;cases m;exact ⟨z,H.reads o⟩
            ·refine wK<|aA<|sq<|ln 2 [d9,e0] E H U25 z cY λa E=>pr 1 E z λa E=>lb2 E H 0 U26 z λa E=>bd m λu278 s1 m=>xc2 E z (cf_ 23) (Bj H l0 l1 (o _ d4) (o _ b3) s1)<|?_;rintro _ w ⟨y3,y4,v282,rfl,H⟩ a E;refine pr 5 E z λa E=>al2 E H z mX λp283 w a H E=>ss 0 E H z cY (iQ H m0 mm1) λw H=>pr 3 E z λa E=>xp 2 E z λa E=>cs m (λe6 m=>?_) λe6 m=>?_
             ·refine pk 4 E (kc 168 z e6) z λa E=>cs m (λD m=>?_) λD m=>?_
              ·refine gv 172 E D z (zQ (i:=6) (us:=[e3,e4]) E H z z z z U25 z cY) λa E=>gv 172 E D z (zQ (i:=0) (us:=[y3,y4]) E H z z z z U25 z cY) λa E=>bd m λu286 s2 m=>gc 172 E D z (cf_ 14) (M4 H (t2 l2) (t2 l3) m0 mm1 s2)<|?_;rintro _ w ⟨rfl,H⟩ a E;refine pk 2 E (kc 172 z D) z λa E=>cs m (λF m=>?_) λF m=>?_
               ·refine pk 2 E (kc 177 z F) z λa E=>gl 177 E H 3 F U40 z λa E=>have H:=H.thaw (i:=1) z;bd m λu289 s3 m=>gc 177 E F z (cf_ 16) (R6 H m0 (t3 q9) s3)<|?_;rintro _ w ⟨rfl,H⟩ a E;refine pk 2 E (kc 177 z F) z λa E=>nt<|wR<|o1 E z<|have H:=H.drs [0,0,0,0,0,0];?_;cases m;exact ⟨z,H.reads (Y3 o)⟩
               refine pk 6 E (kc 177 z F) z λa E=>nt<|wR<|o1 E z<|have H:=H.drs [0,0,0,0,0,0,0];?_;cases m;exact ⟨z,H.reads (Y2 o)⟩
              refine pk 11 E (kc 172 z D) z λa E=>nt<|wR<|o1 E z<|have H:=H.drs [0,0,0,0,0,0,0];?_;cases m;exact ⟨z,H.reads (Y2 o)⟩
             ·refine pk 15 E (kc 168 z e6) z λa E=>nt<|wR<|o1 E z<|have H:=H.drs [0,0,0,0,0,0,0];?_;cases m;exact ⟨z,H.reads (Y2 o)⟩

end Go.Cb
