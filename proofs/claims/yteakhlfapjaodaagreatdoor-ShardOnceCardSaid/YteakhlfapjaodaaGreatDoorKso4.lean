/- Functions of the program, walked: each comes to its plain function. -/
import Derived.Test.YteakhlfapjaodaaGreatDoorKso3
import Derived.Test.YteakhlfapjaodaaGreatDoorExso
import Derived.Test.YteakhlfapjaodaaGreatDoorNwso
import Derived.Test.YteakhlfapjaodaaGreatDoorSkso
set_option linter.unusedVariables false
set_option linter.unusedSimpArgs false
set_option maxRecDepth 20000
set_option maxHeartbeats 1000000
namespace Go.Cb
open Go.Proofs Go.RowKit
variable {w:World} {Fo:List Ob} {rs:List Rp}

def eI(c:List aV)(d:Int)(e:Int):Nat->Int->Option Int
  | 0,_=>none
  | i+1,b=>
    if (decide (b < (c.length:Int)))=true then ((idx c b).bind λ f=>(xG f d e).bind λ g=>if g=true then (some (b)) else (eI c d e i (IntKind.i64.wrap (b+1)))) else (some ((-1)))
def iX(b:List aV)(c:Int)(d:Int):Option Int:=
  eI b c d (((b.length:Int) - 0:Int).toNat+1) 0
theorem E3{k:Value}{d:List aV}{e f:Nat}{g i:Int}(H:Sep w (Blk e 2 [.int .i64 g]::Blk f 2 [.int .i64 i]::Fo) rs)(j:rSl bA k d ∈ rs){r:Int}(m:iX d g i=some r) :
    Cf 154 [k,.func (.func 161) #[] #[pt e 0,pt f 0]] w λ v w'=>.int .i64 r=v/\Sep w' (Blk e 2 [.int .i64 g]::Blk f 2 [.int .i64 i]::Fo) (rs):=by
 unfold iX at m
 refine ent Tryz.func154 z Tryz.ntmps154 z z λ a E=>sq<|pn 1 E z λ a E=>wS<|sp 1 E z λ a E=>lS E H j U58 z λ a E=>pr 1 E z λ a E=>nt<|wB<|bL (λ c a w=>∃ l,Jn 19 a w [(0,k),(1,.func (.func 161) #[] #[pt e 0,pt f 0]),(7,.int .i64 (d.length:Int)),(8,.int .i64 l)] (Blk e 2 [.int .i64 g]::Blk f 2 [.int .i64 i]::Fo) rs (eI d g i c l=some r)) (((d.length:Int) - 0:Int).toNat+1) ?_ ?_
 ·exact ⟨_,_,E.to z,H,Y0,m⟩
 ·clear E H m
  rintro c a w ⟨l,p,E,H,b,m⟩
  cases c with
  | zero=>exact (bF m z).elim
  | succ c=>
   unfold eI at m
   refine sq<|pn 1 E z λ a E=>wS<|wif E m z (λ m=>?_) λ m=>?_
   ·refine wK<|aA<|wS<|wB<|sp 2 E z λ a E=>xp 3 E z λ a E=>bd m λ q n m=>dP E H (wn z) z z z z z (b _ j) U58 qL n λ q13 a H E=>ldf gD E H z z z z z m0 U78 z qL λ a E=>bd m λ s o m=>bK E (wn z) z z (bO E z z z ((cf_ 161) _)) (Pu H o)<|?_
    rintro _ w ⟨rfl,H⟩ a E
    refine nt<|wif E m z (λ m=>?_) λ m=>?_
    ·refine sq<|pn 2 E z λ a E=>wR<|bM<|aH<|aH<|bM<|aH<|o1 E z<|?_
     cases m
     exact ⟨z,H.reads (Y1 b)⟩
    ·exact wK<|bR<|aA<|wG<|pn 2 E z λ a E=>⟨c,nL c,_,_,E.to z,H,(Y1 b),m⟩
   ·refine wX<|aW<|aW<|cT<|aA<|sq<|pn 1 E z λ a E=>wR<|o1 E z<|?_
    cases m
    exact ⟨z,H.reads b⟩

def gY(b:List aV)(c:Int)(d:Int):Option Bool:=
  (iX b c d).bind λ e=>some (decide (e ≥ 0))
theorem w7{f:Value}{g:List aV}{b c:Nat}{d e:Int}(H:Sep w (Blk b 2 [.int .i64 d]::Blk c 2 [.int .i64 e]::Fo) rs)(i:rSl bA f g ∈ rs){r:Bool}(m:gY g d e=some r) :
    Cf 160 [f,.func (.func 161) #[] #[pt b 0,pt c 0]] w λ v w'=>.bool r=v/\Sep w' (Blk b 2 [.int .i64 d]::Blk c 2 [.int .i64 e]::Fo) (rs):=by
 unfold gY at m
 refine ent Tryz.func160 z Tryz.ntmps160 z z λ a E=>sp 1 E z λ a E=>xp 2 E z λ a E=>bd m λ k j m=>xk2 E z (cf_ 154) (E3 H i j) λ w H a E=>pn 2 E z λ a E=>wR<|o1 E z<|?_
 cases m
 exact ⟨z,H.reads Y0⟩

def xH(b:ByteArray):Option Bool:=
  (fU b).bind λ c=>some (!c)
theorem Pv{b:ByteArray}(H:Sep w (Fo) rs){r:Bool}(m:xH b=some r) :
    Cf 159 [.string b] w λ v w'=>.bool r=v/\Sep w' (Fo) (rs):=by
 unfold xH at m
 refine ent Tryz.func159 z Tryz.ntmps159 z z λ a E=>sp 1 E z λ a E=>xp 1 E z λ a E=>bd m λ d c m=>xk2 E z (cf_ 83) (jQ H c) λ w H a E=>pn 2 E z λ a E=>wR<|o1 E z<|?_
 cases m
 exact ⟨z,H.reads Y0⟩

def eW(c:List ByteArray):Nat->Int->Option Int
  | 0,_=>none
  | e+1,b=>
    if (decide (b < (c.length:Int)))=true then ((idx c b).bind λ f=>(xH f).bind λ d=>if d=true then (some (b)) else (eW c e (IntKind.i64.wrap (b+1)))) else (some ((-1)))
def kX(b:List ByteArray):Option Int:=
  eW b (((b.length:Int) - 0:Int).toNat+1) 0
theorem L2{f:Value}{d:List ByteArray}(H:Sep w (Fo) rs)(e:rSl kS f d ∈ rs){r:Int}(m:kX d=some r) :
    Cf 153 [f,.func (.func 159) #[] #[]] w λ v w'=>.int .i64 r=v/\Sep w' (Fo) (rs):=by
 unfold kX at m
 refine ent Tryz.func153 z Tryz.ntmps153 z z λ a E=>sq<|pn 1 E z λ a E=>wS<|sp 1 E z λ a E=>lS E H e U33 z λ a E=>pr 1 E z λ a E=>nt<|wB<|bL (λ c a w=>∃ g,Jn 19 a w [(0,f),(1,.func (.func 159) #[] #[]),(7,.int .i64 (d.length:Int)),(8,.int .i64 g)] (Fo) rs (eW d c g=some r)) (((d.length:Int) - 0:Int).toNat+1) ?_ ?_
 ·exact ⟨_,_,E.to z,H,Y0,m⟩
 ·clear E H m
  rintro c a w ⟨g,k,E,H,b,m⟩
  cases c with
  | zero=>exact (bF m z).elim
  | succ c=>
   unfold eW at m
   refine sq<|pn 1 E z λ a E=>wS<|wif E m z (λ m=>?_) λ m=>?_
   ·refine wK<|aA<|wS<|wB<|sp 2 E z λ a E=>xp 3 E z λ a E=>bd m λ n j m=>dP E H (wn z) z z z z z (b _ e) U33 sz9 j λ q9 a H E=>sv2 E z (vK E H z z m0 U9 z) λ a E=>bd m λ l i m=>bK E (wn z) z z (bO E z z z ((cf_ 159) _)) (Pv H i)<|?_
    rintro _ w ⟨rfl,H⟩ a E
    refine nt<|wif E m z (λ m=>?_) λ m=>?_
    ·refine sq<|pn 2 E z λ a E=>wR<|bM<|aH<|aH<|bM<|aH<|o1 E z<|?_
     cases m
     exact ⟨z,H.reads (Y1 b)⟩
    ·exact wK<|bR<|aA<|wG<|pn 2 E z λ a E=>⟨c,nL c,_,_,E.to z,H,(Y1 b),m⟩
   ·refine wX<|aW<|aW<|cT<|aA<|sq<|pn 1 E z λ a E=>wR<|o1 E z<|?_
    cases m
    exact ⟨z,H.reads b⟩

def jE(b:List ByteArray):Option Bool:=
  (kX b).bind λ c=>some (decide (c ≥ 0))
theorem F1{b:Value}{c:List ByteArray}(H:Sep w (Fo) rs)(d:rSl kS b c ∈ rs){r:Bool}(m:jE c=some r) :
    Cf 97 [b,.func (.func 159) #[] #[]] w λ v w'=>.bool r=v/\Sep w' (Fo) (rs):=by
 unfold jE at m
 refine ent Tryz.func97 z Tryz.ntmps97 z z λ a E=>sp 1 E z λ a E=>xp 2 E z λ a E=>bd m λ f e m=>xk2 E z (cf_ 153) (L2 H d e) λ w H a E=>pn 2 E z λ a E=>wR<|o1 E z<|?_
 cases m
 exact ⟨z,H.reads Y0⟩

def gJ(c:List ByteArray)(d:ByteArray):Nat->Int->Option Int
  | 0,_=>none
  | e+1,b=>
    if (decide (b < (c.length:Int)))=true then ((idx c b).bind λ f=>if (sEq d f)=true then (some (b)) else (gJ c d e (IntKind.i64.wrap (b+1)))) else (some ((-1)))
def pA(b:List ByteArray)(c:ByteArray):Option Int:=
  gJ b c (((b.length:Int) - 0:Int).toNat+1) 0
theorem T9{g:Value}{d:List ByteArray}{e:ByteArray}(H:Sep w (Fo) rs)(f:rSl kS g d ∈ rs){r:Int}(m:pA d e=some r) :
    Cf 234 [g,.string e] w λ v w'=>.int .i64 r=v/\Sep w' (Fo) (rs):=by
 unfold pA at m
 refine ent Tryz.func234 z Tryz.ntmps234 z z λ a E=>sq<|pn 1 E z λ a E=>wS<|sp 1 E z λ a E=>lS E H f U33 z λ a E=>pr 1 E z λ a E=>nt<|wB<|bL (λ c a w=>∃ i,Jn 19 a w [(0,g),(1,.string e),(7,.int .i64 (d.length:Int)),(8,.int .i64 i)] (Fo) rs (gJ d e c i=some r)) (((d.length:Int) - 0:Int).toNat+1) ?_ ?_
 ·exact ⟨_,_,E.to z,H,Y0,m⟩
 ·clear E H m
  rintro c a w ⟨i,k,E,H,b,m⟩
  cases c with
  | zero=>exact (bF m z).elim
  | succ c=>
   unfold gJ at m
   refine sq<|pn 1 E z λ a E=>wS<|wif E m z (λ m=>?_) λ m=>?_
   ·refine wK<|aA<|wS<|wB<|sp 2 E z λ a E=>xp 3 E z λ a E=>bd m λ l j m=>dP E H (wn z) z z z z z (b _ f) U33 sz9 j λ q10 a H E=>sv2 E z (vK E H z z m0 U9 z) λ a E=>pn 1 E z λ a E=>wif E m z (λ m=>?_) λ m=>?_
    ·refine sq<|pn 2 E z λ a E=>wR<|bM<|aH<|aH<|bM<|aH<|o1 E z<|?_
     cases m
     exact ⟨z,H.reads (Y1 b)⟩
    ·exact wK<|bR<|aA<|wG<|pn 2 E z λ a E=>⟨c,nL c,_,_,E.to z,H,(Y1 b),m⟩
   ·refine wX<|aW<|aW<|cT<|aA<|sq<|pn 1 E z λ a E=>wR<|o1 E z<|?_
    cases m
    exact ⟨z,H.reads b⟩

def jA(b:List ByteArray)(c:ByteArray):Option Bool:=
  (pA b c).bind λ d=>some (decide (d ≥ 0))
theorem O6{b:Value}{c:List ByteArray}{d:ByteArray}(H:Sep w (Fo) rs)(e:rSl kS b c ∈ rs){r:Bool}(m:jA c d=some r) :
    Cf 164 [b,.string d] w λ v w'=>.bool r=v/\Sep w' (Fo) (rs):=by
 unfold jA at m
 refine ent Tryz.func164 z Tryz.ntmps164 z z λ a E=>sp 1 E z λ a E=>xp 2 E z λ a E=>bd m λ g f m=>xk2 E z (cf_ 234) (T9 H e f) λ w H a E=>pn 2 E z λ a E=>wR<|o1 E z<|?_
 cases m
 exact ⟨z,H.reads Y0⟩

def vV(rec_1:Bool->Int->Bs->Option V4)(x20:Int)(b:Bool)(c:Bs):Option V4:=
  rec_1 b (IntKind.i64.wrap (x20+1)) c
def yU(rec_1:Bool->Int->Bs->Option V4)(x20:Int)(b:aV)(d:Int)(x3:Int)(c:Bs)(e:Bool)(f:Bool):Option V4:=
  if f=true then ((ck (Tl b.Age b.Txn d x3)).bind λ j=>if (Na b.Age b.Txn d x3)=true then ((mlk (kyI .i64) c b.Txn).bind λ g=>(mpt (kyI .i64) c b.Txn (IntKind.i64.wrap ((g.getD 0)+1))).bind λ i=>vV rec_1 x20 false i) else (vV rec_1 x20 false c)) else (vV rec_1 x20 e c)
def yV(rec_2:nB->Int->Option V4)(b:Int)(c:nB):Option V4:=
  rec_2 c (IntKind.i64.wrap (b+1))
def lL(e:List ByteArray)(x3:Int)(g:Int):Nat->nB->Int->Option V4
  | 0,_,_=>none
  | i+1,b,d=>
    if (decide (d < (e.length:Int)))=true then ((idx e d).bind λ f=>(fL b f).bind λ c=>if (!c.2)=true then ((ck (0 <= c.1/\c.1 <= b.length/\b.length <= 1000000)).bind λ j=>yV (lL e x3 g i) d (b.take c.1.toNat ++ (⟨f,x3,g⟩:aV)::b.drop c.1.toNat)) else (yV (lL e x3 g i) d b)) else (some (b,[],true))
def jY(e:Int)(x3:Int)(f:List ByteArray)(c:List aV):Nat->Bool->Int->Bs->Option V4
  | 0,_,_,_=>none
  | i+1,g,x20,b=>
    if (decide (x20 < (c.length:Int)))=true then ((idx c x20).bind λ d=>if (d.Txn != x3)=true then ((jA f d.Dir).bind λ j=>yU (jY e x3 f c i) x20 d e x3 b g j) else (yU (jY e x3 f c i) x20 d e x3 b g false)) else (if (!g)=true then ((kJ b).bind λ k=>(ck (b.length <= 1000000)).bind λ l=>some (c,Nb (b.map (·.1)),false)) else ((ck (c.length <= LIM)).bind λ m=>lL f x3 e (((f.length:Int) - 0:Int).toNat+1) c 0))
def pW(d:Int)(x3:Int)(e:List ByteArray)(b:List aV)(c:Bool):Option V4:=
  if c=true then (some (([]:List aV),[],false)) else (jY d x3 e b (((b.length:Int) - 0:Int).toNat+1) true 0 [])
def s8(b:List aV)(x3:Int)(c:Int)(d:List ByteArray):Option V4:=
  (jE d).bind λ e=>(gY b x3 c).bind λ f=>(C2 b).bind λ g=>if (!g)=true then (pW c x3 d b true) else ((rQ x3).bind λ i=>if (!i)=true then (pW c x3 d b true) else ((rQ c).bind λ j=>if (!j)=true then (pW c x3 d b true) else (if e=true then (pW c x3 d b true) else (pW c x3 d b f))))
theorem Uj{y B:Value}{q:List aV}{x3 b:Int}{n:List ByteArray}(H:Sep w (Fo) rs)(s:rSl bA y q ∈ rs)(P:rSl kS B n ∈ rs){r:nB×(List Int)×Bool}(m:s8 q x3 b n=some r) :
    Cf 102 [y,.int .i64 x3,.int .i64 b,B] w λ v w'=>∃ c9 d0,.tuple #[c9,d0,.bool r.2.2]=v/\Sep w' (Row 2 (kI .i64) d0 r.2.1::Fo) (rSl bA c9 r.1::rs):=by
 unfold s8 at m
 refine ent Tryz.func102 z Tryz.ntmps102 z z λ a E=>sq<|bx E H z λ l w a H E=>bx E H z λ f w a H E=>pr 3 E z λ a E=>xp 1 E z λ a E=>bd m λ d7 b1 m=>xk2 E z (cf_ 97) (F1 H P b1) λ w H a E=>pr 1 E z λ a E=>xp 1 E z λ a E=>sv2 E z (mY E z z z) λ a E=>have H:=H.frs [0,1] z;bd m λ d8 b2 m=>xk2 E z (cf_ 160) (w7 H s b2) λ w H a E=>pn 1 E z λ a E=>wS<|aN (λ a w=>∃ Q,Jn 108 a w [(0,y),(3,B),(5,pt l 0),(6,pt f 0),(45,.bool Q)] (Blk l 2 [.int .i64 x3]::Blk f 2 [.int .i64 b]::Fo) rs (pW b x3 n q Q=some r)) ?_ ?_
 ·refine wG<|pr 1 E z λ a E=>bd m λ d9 b3 m=>xk2 E z (cf_ 162) (Rn H s b3) λ w H a E=>pr 2 E z λ a E=>cs m (λ o m=>?_) λ o m=>?_
  ·exact pk 15 E (kc 30 z o) z λ a E=>nt<|⟨_,_,E.to z,H,Y0,m⟩
  ·refine gl 30 E H 0 o U2 z λ a E=>bd m λ e0 b4 m=>gc 30 E o z (cf_ 163) (J9 H b4)<|?_
   rintro _ w ⟨rfl,H⟩ a E
   refine pk 3 E (kc 30 z o) z λ a E=>cs m (λ p m=>?_) λ p m=>?_
   ·exact pk 10 E (kc 35 z p) z λ a E=>nt<|⟨_,_,E.to z,H,Y0,m⟩
   ·refine gl 35 E H 1 p U2 z λ a E=>bd m λ e1 b5 m=>gc 35 E p z (cf_ 163) (J9 H b5)<|?_
    rintro _ w ⟨rfl,H⟩ a E
    refine pk 3 E (kc 35 z p) z λ a E=>cs m (λ J m=>?_) λ J m=>?_
    ·exact pk 5 E (kc 40 z J) z λ a E=>nt<|⟨_,_,E.to z,H,Y0,m⟩
    ·refine pk 3 E (kc 40 z J) z λ a E=>cs m (λ L m=>?_) λ L m=>?_
     ·exact pk 2 E (kc 43 z L) z λ a E=>nt<|⟨_,_,E.to z,H,Y0,m⟩
     ·exact pk 2 E (kc 43 z L) z λ a E=>nt<|⟨_,_,E.to z,H,Y0,m⟩
 ·clear E H m
  rintro a w ⟨Q,d1,E,H,M,m⟩
  unfold pW at m
  refine wif E m z (λ m=>?_) λ m=>?_
  ·refine sq<|pn 3 E z λ a E=>wR<|aH<|Ss E z z z z<|have H:=H.nilSl bA;have H:=H.nilRow 2 (kI .i64);have H:=H.drs [1,1];?_
   cases m
   exact ⟨_,_,z,H.reads (aD m0 (λ r hr=>(t1 (M r hr))))⟩
  ·refine wK<|aA<|sq<|C5 (k:=2) (K:=(kyI .i64)) (d:=(kI .i64)) (g:=false) E H (wn z) z z z λ t w a H E=>pr 1 E z λ a E=>nx<|pn 1 E z λ a E=>wS<|sp 1 E z λ a E=>lS E H (M _ s) U58 z λ a E=>pn 1 E z λ a E=>wB<|bL (λ C a w=>∃ D x20 F,Jn 108 a w [(0,y),(3,B),(5,pt l 0),(6,pt f 0),(13,.map (some t)),(14,.bool D),(47,y),(48,.int .i64 (q.length:Int)),(49,.int .i64 x20)] (Blk l 2 [.int .i64 x3]::Blk f 2 [.int .i64 b]::bX Tryz.prog 2 (kyI .i64) (kI .i64) false t F::Fo) rs (jY b x3 n q C D x20 F=some r)) (((q.length:Int) - 0:Int).toNat+1) ?_ ?_
   ·exact have H:=H.frs [0,2,2] z;X4 ⟨E.to z,H,M,m⟩
   ·clear E H m
    rintro C a w ⟨D,x20,F,d2,E,H,c,m⟩
    cases C with
    | zero=>exact (bF m z).elim
    | succ C=>
     unfold jY at m
     refine sq<|pn 1 E z λ a E=>wS<|wif E m z (λ m=>?_) λ m=>?_
     ·refine wK<|aA<|aN (λ a w=>∃ R S,Jn 108 a w [(0,y),(3,B),(5,pt l 0),(6,pt f 0),(13,.map (some t)),(14,.bool R),(47,y),(48,.int .i64 (q.length:Int)),(49,.int .i64 x20)] (Blk l 2 [.int .i64 x3]::Blk f 2 [.int .i64 b]::bX Tryz.prog 2 (kyI .i64) (kI .i64) false t S::Fo) rs (vV (jY b x3 n q C) x20 R S=some r)) ?_ ?_
      ·refine wB<|sq<|bd m λ Y b6 m=>dP E H (wn z) z z z z z (c _ s) U58 qL b6 λ q30 a H E=>ldf gD E H z z z z z m0 U78 z qL λ a E=>al2 E H z DQ λ Z w a H E=>ss 0 E H z qL z λ w H=>nt<|aN (λ a w=>∃ T,Jn 108 a w [(0,y),(3,B),(5,pt l 0),(6,pt f 0),(13,.map (some t)),(14,.bool D),(16,pt Z 0),(47,y),(48,.int .i64 (q.length:Int)),(49,.int .i64 x20),(62,.bool T)] (Blk l 2 [.int .i64 x3]::Blk f 2 [.int .i64 b]::bX Tryz.prog 2 (kyI .i64) (kI .i64) false t F::Blk Z 78 (uH Y)::Fo) rs (yU (jY b x3 n q C) x20 Y b x3 F D T=some r)) ?_ ?_
       ·refine wG<|pr 1 E z λ a E=>lb2 E H 0 U2 z λ a E=>lb2 E H 1 U2 z λ a E=>pr 2 E z λ a E=>cs m (λ j m=>?_) λ j m=>?_
        ·refine pk 2 E (kc 57 z j) z λ a E=>gl 57 E H 0 j U9 z λ a E=>bd m λ e2 b7 m=>gc 57 E j z (cf_ 164) (O6 H (t1 (c _ P)) b7)<|?_
         rintro _ w ⟨rfl,H⟩ a E
         exact pk 1 E (kc 57 z j) z λ a E=>nt<|have H:=H.frs [0,3,3,3] z;⟨_,_,E.to z,H,(Y1 c),m⟩
        ·exact pk 5 E (kc 57 z j) z λ a E=>nt<|have H:=H.frs [0,3,3,3] z;⟨_,_,E.to z,H,(Y1 c),m⟩
       ·clear E H m
        rintro a w ⟨T,d3,E,H,N,m⟩
        unfold yU at m
        refine wif E m z (λ m=>?_) λ m=>?_
        ·refine sp 1 E z λ a E=>xp 1 E z λ a E=>lb2 E H 3 U2 z λ a E=>pr 1 E z λ a E=>lb2 E H 3 U2 z λ a E=>lb2 E H 1 U2 z λ a E=>lb2 E H 0 U2 z λ a E=>bk m λ b8 m=>xc2 E z (cf_ 165) (IC H b8)<|?_
         rintro _ w ⟨rfl,H⟩ a E
         refine nt<|wif E m z (λ m=>?_) λ m=>?_
         ·exact wG<|pr 2 E z λ a E=>lb2 E H 3 U2 z λ a E=>bd m λ b0 b9 m=>sv2 E z (Th (i:=2) (K:=(kyI .i64)) (z0:=0) (u:=b0) E H z z z z (fR U2) MF Tv b9) λ a E=>pr 1 E z λ a E=>bd m λ e3 c0 m=>Wq (i:=2) (K:=(kyI .i64)) (v:=IntKind.i64.wrap ((b0.getD 0)+1)) E H (wn z) z z z z z z (fR U2) MF c0 λ w H=>wN<|bR<|aA<|have H:=H.drop 3;X3 ⟨E.to z,H,N,m⟩
         ·exact wK<|bR<|aA<|have H:=H.drop 3;X3 ⟨E.to z,H,N,m⟩
        ·exact wK<|bR<|aA<|have H:=H.drop 3;X3 ⟨E.to z,H,N,m⟩
      ·clear E H m
       rintro a w ⟨R,S,d4,E,H,c1,m⟩
       unfold vV at m
       exact wG<|pn 2 E z λ a E=>⟨C,nL C,X4 ⟨E.to z,H,c1,m⟩⟩
     ·refine wX<|aW<|aW<|cT<|aA<|wS<|sq<|pn 2 E z λ a E=>wif E m z (λ m=>?_) λ m=>?_
      ·refine sp 2 E z λ a E=>have H:=H.frs [1,1,2] z;bd m λ e4 c2 m=>xc2 E z (cf_ 167) (K1 H c2)<|?_
       rintro _ w ⟨e5,rfl,H⟩ a E
       refine bk m λ c3 m=>xc2 E z (cf_ 166) (DZ (ip:=0) (im:=1) H z z c3) λ e6 w H a E=>pn 3 E z λ a E=>wR<|aH<|Ss E z z z z<|have H:=H.drs [1,1,1,1];?_
       cases m
       exact ⟨_,_,z,H.reads (aD (c _ s) (c))⟩
      ·refine wK<|aA<|sp 1 E z λ a E=>bk m λ c4 m=>xc2 E z (cf_ 60) (nH H (c _ s) c4) λ e7 w H a E=>pn 1 E z λ a E=>wS<|sp 1 E z λ a E=>lS E H (c _ P) U33 z λ a E=>pn 1 E z λ a E=>wB<|bL (λ O a w=>∃ U V G,Jn 108 a w [(5,pt l 0),(6,pt f 0),(17,U),(84,B),(85,.int .i64 (n.length:Int)),(86,.int .i64 G)] (Blk l 2 [.int .i64 x3]::Blk f 2 [.int .i64 b]::Row 78 bA U V::Fo) rs (lL n x3 b O V G=some r)) (((n.length:Int) - 0:Int).toNat+1) ?_ ?_
       ·exact have H:=H.drop 3;have H:=H.frs [0,2,2] z;X4 ⟨E.to z,H,c,m⟩
       ·clear E H m
        rintro O a w ⟨U,V,G,d5,E,H,A,m⟩
        cases O with
        | zero=>exact (bF m z).elim
        | succ O=>
         unfold lL at m
         refine sq<|pn 1 E z λ a E=>wS<|wif E m z (λ m=>?_) λ m=>?_
         ·refine wK<|aA<|aN (λ a w=>∃ W X,Jn 108 a w [(5,pt l 0),(6,pt f 0),(17,W),(84,B),(85,.int .i64 (n.length:Int)),(86,.int .i64 G)] (Blk l 2 [.int .i64 x3]::Blk f 2 [.int .i64 b]::Row 78 bA W X::Fo) rs (yV (lL n x3 b O) G X=some r)) ?_ ?_
          ·refine wB<|sq<|bd m λ I c5 m=>dP E H (wn z) z z z z z (A _ P) U33 sz9 c5 λ q64 a H E=>sv2 E z (vK E H z z m0 U9 z) λ a E=>pr 1 E z λ a E=>xp 2 E z λ a E=>have H:=H.frs [1,1,2] z;bd m λ e8 c6 m=>xk2 E z (cf_ 168) (wZ H c6) λ w H a E=>pr 5 E z λ a E=>nx<|pn 2 E z λ a E=>wif E m z (λ m=>?_) λ m=>?_
           ·exact wG<|pr 3 E z λ a E=>lb2 E H 1 U2 z λ a E=>lb2 E H 2 U2 z λ a E=>sv2 E z (cJ E z (E.evs z) (v:=.agg #[.string I,.int .i64 x3,.int .i64 b]) (by kernel_rfl)) λ a E=>jO (e:=78) (d:=bA) (cs:=[.string I,.int .i64 x3,.int .i64 b]) (xs:=[(⟨I,x3,b⟩:aV)]) E H (wn z) z z z (E.evs z) (by kernel_rfl) z z (λ ok hr=>(Rows.single (d:=bA) (cs:=[.string I,.int .i64 x3,.int .i64 b]) (x:=(⟨I,x3,b⟩:aV)) Fv)) λ e9 w a H E=>bk m λ c7 m=>xc2 E z (cf_ 170) (Ho.insert_a (ix:=1) (iu:=0) H z z (by decide) c7) λ f0 w H a E=>pr 1 E z λ a E=>wN<|bR<|aA<|have H:=H.drop 0;have H:=H.frs [0,2,2] z;X3 ⟨E.to z,H,(Y1 A),m⟩
           ·exact wK<|bR<|aA<|have H:=H.frs [0,2,2] z;X3 ⟨E.to z,H,(Y1 A),m⟩
          ·clear E H m
           rintro a w ⟨W,X,d6,E,H,c8,m⟩
           unfold yV at m
           exact wG<|pn 2 E z λ a E=>⟨O,nL O,X4 ⟨E.to z,H,c8,m⟩⟩
         ·refine wX<|aW<|aW<|cT<|aA<|sq<|pn 4 E z λ a E=>wR<|Ss E z z z z<|have H:=H.thaw (i:=2) z;have H:=H.nilRow 2 (kI .i64);have H:=H.drs [1,1];?_
          cases m
          exact ⟨_,_,z,H.reads (aD m0 (λ r hr=>(t1 (A r hr))))⟩

def sP(f:List wV)(x20:aK)(g:nB×(List Int)×Bool)(b:Int)(c:Q1)(d:Int):Option Ua:=
  (mpt (kyI .i64) f x20.Txn (⟨false,x20.Pieces,(⟨b,d,b == 0,0,c,(⟨[],[]⟩:aR),[],[],[]⟩:aX)⟩:fS)).bind λ e=>some ((⟨b,d,b == 0,0,c,(⟨[],[]⟩:aR),[],[],[]⟩:aX),g.1,e)
def oM(c:List wV)(x20:aK)(f:List aV)(g:eY)(j:List aG)(k:List aM)(e:Int):Option Ua:=
  if (e != 0)=true then ((dH e).bind λ i=>some (i,f,c)) else ((s8 f x20.Txn x20.Age g).bind λ d=>if (!d.2.2)=true then (some ((⟨131,0,false,0,[],(⟨[],[]⟩:aR),[],[],d.2.1⟩:aX),f,c)) else ((C7 (⟨j,k⟩:aR) x20.Pieces).bind λ b=>sP c x20 d b.2.2.1 b.2.1 b.2.2.2))
def oN(b:List wV)(x20:aK)(e:List aV)(c:eY)(f:List aG)(g:List aM)(i:Int)(d:Bool):Option Ua:=
  if d=true then (oM b x20 e c f g 2) else (oM b x20 e c f g i)
def sQ(b:List wV)(x20:aK)(e:List aV)(f:List aG)(g:List aM)(x:List aF)(i:Bool)(j:Bool)(y:y6)(k:Int)(l:Int)(m:Bool)(n:Int)(o:Q1)(p:dZ)(q:dR)(s:zM)(t:Jd)(u:(List Int)):Option Ua:=
  if i=true then (if j=true then ((dH 133).bind λ v=>some (v,e,b)) else (some ((⟨k,l,m,n,o,(⟨p,q⟩:aR),s,t,u⟩:aX),e,b))) else ((s7 x20.Pieces).bind λ c=>(qE x c).bind λ d=>if (d == 0)=true then (oN b x20 e c f g d ((b.length:Int) == 128)) else (oN b x20 e c f g d false))
def rR(d:List aG)(e:List aM)(f:List aF)(g:List aV)(c:List wV)(x20:aK):Option Ua:=
  (K7 (kyI .i64) c x20.Txn U8).bind λ b=>sQ c x20 g d e f b.2 b.1.over_ b.1.pieces_ b.1.a_.Err b.1.a_.At b.1.a_.Yes b.1.a_.Epoch b.1.a_.Results b.1.a_.Store.Nodes b.1.a_.Store.Turns b.1.a_.Events b.1.a_.Mounts b.1.a_.Wounded
theorem Dy{k d:Nat}{D F J N o x y A p q s t:Value}{b1:List aG}{b2:List aM}{f0:List aF}{c3:List aV}{u:List wV}{x20:aK}(H:Sep w (Blk k 87 [D,F,J,N,p,q,s,.map (some d),t]::bX Tryz.prog 2 (kyI .i64) dB true d u::Fo) rs)(c4:rSl aB D b1 ∈ rs)(c5:rSl aC F b2 ∈ rs)(f1:rSl aO J f0 ∈ rs)(L:rSl bA N c3 ∈ rs)(M:rSl bT o x20.Pieces ∈ rs)(c6:N2 Tryz.prog ∈ rs){r:aX×nB×Ab}(m:rR b1 b2 f0 c3 u x20=some r) :
    Cf 43 [pt k 0,.agg (aL x20 o x y A).toArray] w λ v w'=>∃ f8 f9 g0 g1 g2 g3 g4,.agg (aU r.1 f8 f9 g0 g1 g2 g3).toArray=v/\Sep w' (Blk k 87 [D,F,J,g4,p,q,s,.map (some d),t]::bX Tryz.prog 2 (kyI .i64) dB true d r.2.2::Fo) (rSl aY f8 r.1.Results::rSl aB f9 r.1.Store.Nodes::rSl aC g0 r.1.Store.Turns::rSl aQ g1 r.1.Events::rSl bD g2 r.1.Mounts::rSl (kI .i64) g3 r.1.Wounded::rSl bA g4 r.2.1::rs):=by
 unfold rR at m
 refine ent Tryz.func43 z Tryz.ntmps43 z z λ a E=>sq<|bx E H z λ e w a H E=>al2 E H z kM λ C w a H E=>nt<|wS<|aN (λ a w=>∃ c7 e6 Q R S T U V c8 c9 e7 X Y Z b0 d0 d1 d2 d3 d4 d5 j,Env 103 a [(0,pt k 0),(3,pt e 0),(4,pt C 0),(5,pt c7 0),(6,.bool c8)]/\Sep w (Blk k 87 [D,F,J,N,p,q,s,.map (some d),t]::Blk e 37 (aL x20 o x y A)::Blk C 48 bJ::Blk c7 154 [.bool c9,e6,.int .i64 X,.int .i64 Y,.bool Z,.int .i64 b0,Q,R,S,T,U,V]::bX Tryz.prog 2 (kyI .i64) dB true d u::Fo) j/\(∀ r,r ∈ rs->r ∈ j)/\rSl aY Q d0 ∈ j/\rSl aB R d1 ∈ j/\rSl aC S d2 ∈ j/\rSl aQ T d3 ∈ j/\rSl bD U d4 ∈ j/\rSl (kI .i64) V d5 ∈ j/\sQ u x20 c3 b1 b2 f0 c8 c9 e7 X Y Z b0 d0 d1 d2 d3 d4 d5=some r) ?_ ?_
 ·refine bd m λ i9 b5 m=>?_
  have hI:dG [Blk e 37 (aL x20 o x y A),Blk k 87 [D,F,J,N,p,q,s,.map (some d),t]] [] { w with drawn:=w.drawn+1 }:=⟨_,_,H.kept (Kp.drawn _ w _),(aJ mm1 (aJ mm2 (bC))),(bI)⟩
  refine nX _ (.go 0 0 (.go 1 0 (.go 2 0 (.go 3 0 (.go 4 0 (.go 5 0 (.alt 6 (.go 7 0 (.go 8 0 (.go 9 0 (.go 10 1 (.go 11 1 (.go 12 2 .nil)))))) 10 (.go 6 1 (.go 7 0 (.go 8 0 (.go 9 0 (.go 11 1 (.go 12 2 .nil))))))))))))) [12] oT (by kernel_rfl) (λ _ _ _ h=>False.elim h.2) hI<|have H:=H.kept (Kp.drawn _ w (w.drawn+1));?_
  generalize ({ w with drawn:=w.drawn+1 }:World)=w at H hI ⊢
  replace hI:∃ W,dG [Blk e 37 (aL x20 o x y A),Blk k 87 [D,F,J,N,p,q,s,.map (some d),t]] [] W:=⟨_,hI⟩
  obtain ⟨W0,hI⟩:=hI
  refine om E z λ a E=>ov E z (λ w hW=>(yI E z z)) λ a E=>ov E z (λ w hW=>lY E z z (v:=pt k 7) (Tz _ _)) λ a E=>ol E mm1 U85 z λ a E=>ov E z (λ w hW=>lY E z z (v:=pt e 2) (Nm _ _)) λ a E=>ol E m0 U2 z λ a E=>nY z z ?_ ?_
  ·refine rY (i:=3) (K:=(kyI .i64)) E H (wn z) z z z z z z (fR U2) U85 Nu Ry b5 λ j0 a H E=>?_
   obtain ⟨j1,j2,j3,j4,j5,j6,j7,rfl,h⟩:=U7 H;clear H;have H:=h
   refine nt<|⟨sx H [1,2] z,om E z λ a E=>ox E z λ a E=>ox E z λ a E=>cH z<|al2 E H z Rz λ j8 w a H E=>nt<|⟨sx H [2,3] z,cH z<|ss 0 E H z Sa (L9 H mm6 mm5 mm4 mm3 mm2 mm1 m0) λ w H=>nt<|⟨sx H [2,3] z,cV z<|pn 1 E z λ a E=>eO<|?_⟩⟩⟩
   clear hI
   exact aA<|have H:=H.frs [4,1,2,3,4] z;X22 ⟨E.to z,H,(Y8 Y0),mm5,mm4,mm3,mm2,mm1,m0,m⟩
  ·refine al2 E H z Rz λ j9 w a H E=>nt<|⟨sx H [2,3] z,cH z<|rY (i:=4) (K:=(kyI .i64)) E H (wn z) z z z z z z (fR U2) U85 Nu Ry b5 λ k0 a H E=>?_⟩
   obtain ⟨k1,k2,k3,k4,k5,k6,k7,rfl,h⟩:=U7 H;clear H;have H:=h
   refine nt<|⟨sx H [2,3] z,om E z λ a E=>ox E z λ a E=>ox E z λ a E=>cH z<|ss 0 E H z Sa (L9 H mm6 mm5 mm4 mm3 mm2 mm1 m0) λ w H=>nt<|⟨sx H [2,3] z,cV z<|pn 1 E z λ a E=>eO<|?_⟩⟩
   clear hI
   exact aA<|have H:=H.frs [4,1,2,3,4] z;X22 ⟨E.to z,H,(Y8 Y0),mm5,mm4,mm3,mm2,mm1,m0,m⟩
 ·clear E H m
  rintro a w ⟨c7,e6,Q,R,S,T,U,V,c8,c9,e7,X,Y,Z,b0,d0,d1,d2,d3,d4,d5,j,E,H,l,d6,d7,d8,d9,e0,e1,m⟩
  unfold sQ at m
  refine sq<|pn 1 E z λ a E=>wif E m z (λ m=>?_) λ m=>?_
  ·refine wS<|sp 1 E z λ a E=>lb2 E H 3 U4 z λ a E=>nt<|wif E m z (λ m=>?_) λ m=>?_
   ·refine sq<|bd m λ g5 f2 m=>xc2 E z (cf_ 53) (eP H f2)<|?_
    rintro _ w ⟨g6,g7,g8,g9,i0,i1,rfl,H⟩ a E
    refine ss 2 E H z bU (aZ H m0 mm1 mm2 mm3 mm4 mm5) λ w H=>nt<|wR<|aH<|aH<|oB 2 (aU g5 g6 g7 g8 g9 i0 i1) E H U48 z bU<|have H:=H.drs [1,1,1];?_
    cases m
    exact X7 ⟨z,H.rdx [0,1,2,3,4,5] z (aD (t6 (l _ L)) (λ r hr=>(t6 (l r hr))))⟩
   ·refine wK<|aA<|sp 1 E z λ a E=>ln 3 [.int .i64 X,.int .i64 Y,.bool Z,.int .i64 b0,Q,R,S,T,U,V] E H U48 z bU λ a E=>ss 2 E H z bU (aZ H d6 d7 d8 d9 e0 e1) λ w H=>nt<|wR<|aH<|oB 2 [.int .i64 X,.int .i64 Y,.bool Z,.int .i64 b0,Q,R,S,T,U,V] E H U48 z bU<|have H:=H.drs [1,1,1];?_
    cases m
    exact X7 ⟨z,H.reads (aD d6 (aD d7 (aD d8 (aD d9 (aD e0 (aD e1 (aD (l _ L) (l))))))))⟩
  ·refine wK<|aA<|sp 1 E z λ a E=>lb2 E H 1 U26 z λ a E=>bd m λ b6 f3 m=>xc2 E z (cf_ 96) (Ia H (l _ M) f3)<|?_
   rintro _ w ⟨b7,rfl,H⟩ a E
   refine pr 1 E z λ a E=>xp 2 E z λ a E=>have H:=H.thaw (i:=0) z;bd m λ e8 f4 m=>xk2 E z (cf_ 100) (R7 H (t1 (l _ f1)) m0 f4) λ w H a E=>pn 1 E z λ a E=>aN (λ a w=>∃ e2 O,Env 103 a [(0,pt k 0),(3,pt e 0),(4,pt C 0),(7,b7),(8,.int .i64 e2)]/\Sep w (Blk k 87 [D,F,J,N,p,q,s,.map (some d),t]::Blk e 37 (aL x20 o x y A)::Blk C 48 bJ::bX Tryz.prog 2 (kyI .i64) dB true d u::Fo) O/\(∀ r,r ∈ rs->r ∈ O)/\rSl kS b7 b6 ∈ O/\oM u x20 c3 b6 b1 b2 e2=some r) ?_ ?_
   ·refine aN (λ a w=>∃ b3 G,Env 103 a [(0,pt k 0),(3,pt e 0),(4,pt C 0),(7,b7),(8,.int .i64 e8),(47,.bool b3)]/\Sep w (Blk k 87 [D,F,J,N,p,q,s,.map (some d),t]::Blk e 37 (aL x20 o x y A)::Blk C 48 bJ::bX Tryz.prog 2 (kyI .i64) dB true d u::Fo) G/\(∀ r,r ∈ rs->r ∈ G)/\rSl kS b7 b6 ∈ G/\oN u x20 c3 b6 b1 b2 e8 b3=some r) ?_ ?_
    ·refine wG<|pr 3 E z λ a E=>cs m (λ n m=>?_) λ n m=>?_
     ·exact pk 3 E (kc 40 z n) z λ a E=>gl 40 E H 0 n U85 z λ a E=>gv 40 E n z (W1 (i:=4) E H z z z U85) λ a E=>pk 2 E (kc 40 z n) z λ a E=>nt<|have H:=H.drop 3;⟨_,_,E.to z,H,(Y1 l),m0,m⟩
     ·exact pk 7 E (kc 40 z n) z λ a E=>nt<|have H:=H.drop 3;⟨_,_,E.to z,H,(Y1 l),m0,m⟩
    ·clear E H m
     rintro a w ⟨b3,G,E,H,b8,b9,m⟩
     unfold oN at m
     refine wif E m z (λ m=>?_) λ m=>?_
     ·exact wG<|pn 1 E z λ a E=>⟨_,_,E.to z,H,b8,b9,m⟩
     ·exact wK<|aA<|⟨_,_,E.to z,H,b8,b9,m⟩
   ·clear E H m
    rintro a w ⟨e2,O,E,H,c,f5,m⟩
    unfold oM at m
    refine wS<|sq<|pn 2 E z λ a E=>wif E m z (λ m=>?_) λ m=>?_
    ·refine sp 1 E z λ a E=>bd m λ i2 f6 m=>xc2 E z (cf_ 53) (eP H f6)<|?_
     rintro _ w ⟨i3,i4,i5,i6,i7,i8,rfl,H⟩ a E
     refine ss 2 E H z bU (aZ H m0 mm1 mm2 mm3 mm4 mm5) λ w H=>nt<|wR<|aH<|oB 2 (aU i2 i3 i4 i5 i6 i7 i8) E H U48 z bU<|have H:=H.drs [1,1];?_
     cases m
     exact X7 ⟨z,H.rdx [0,1,2,3,4,5] z (aD (t6 (c _ L)) (λ r hr=>(t6 (c r hr))))⟩
    ·refine wK<|aA<|wS<|dz [0,0,0,0,0,0,0,0,0,1,0,0,0,0,1,1,2] [0,1] H λ w W0 hI H=>fn 3 E z λ a E=>fb2 E m0 U58 z λ a E=>fn 1 E z λ a E=>fb2 E mm1 U2 z λ a E=>fn 1 E z λ a E=>fb2 E mm1 U2 z λ a E=>fn 1 E z λ a E=>bQ z<|bd m λ c0 f7 m=>xc2 E z (cf_ 102) (Uj H (c _ L) f5 f7)<|?_
     rintro _ w ⟨e9,m1,rfl,H⟩ a E
     refine nt<|⟨sx H [1,2] z,fn 4 E z λ a E=>bQ z<|pn 1 E z λ a E=>⟨sx H [1,2] z,bQ z<|pn 1 E z λ a E=>⟨sx H [1,2] z,bH z<|pn 1 E z λ a E=>bG<|?_⟩⟩⟩
     clear hI
     refine aA<|wS<|sq<|pn 2 E z λ a E=>wif E m z (λ m=>?_) λ m=>?_
     ·refine sp 1 E z λ a E=>?_
      obtain ⟨q99,e3,rfl⟩:=H.rowform (i:=0) z
      refine sv2 E z (cJ E z (E.evs z) (v:=.agg #[.int .i64 131,.int .i64 0,.bool false,.int .i64 0,nS,nS,nS,nS,nS,(.slice q99 c0.2.1.length e3)]) (by kernel_rfl)) λ a E=>ss 3 E H z bU z λ w H=>nt<|wR<|aH<|oB 3 [.int .i64 131,.int .i64 0,.bool false,.int .i64 0,nS,nS,nS,nS,nS,(.slice q99 c0.2.1.length e3)] E H U48 z bU<|have H:=H.thaw (i:=0) z;have H:=H.nilSl aY;have H:=H.nilSl aB;have H:=H.nilSl aC;have H:=H.nilSl aQ;have H:=H.nilSl bD;have H:=H.drs [1,1];?_
      cases m
      exact X7 ⟨z,H.rdx [4,3,2,1,0,5] z (aD (t7 (c _ L)) (λ r hr=>(t7 (c r hr))))⟩
     ·refine wK<|aA<|aN (λ a w=>∃ b4 b f g I,Env 103 a [(0,pt k 0),(3,pt e 0),(4,pt C 0),(8,.int .i64 b),(9,e9),(13,b4),(14,.int .i64 g)]/\Sep w (Blk k 87 [D,F,J,N,p,q,s,.map (some d),t]::Blk e 37 (aL x20 o x y A)::Blk C 48 bJ::Row 93 aY b4 f::bX Tryz.prog 2 (kyI .i64) dB true d u::Fo) I/\(∀ r,r ∈ rs->r ∈ I)/\rSl bA e9 c0.1 ∈ I/\sP u x20 c0 b f g=some r) ?_ ?_
      ·refine bd m λ k8 c1 m=>?_
       have hI:dG [Blk k 87 [D,F,J,N,p,q,s,.map (some d),t],Blk e 37 (aL x20 o x y A)] [] { w with drawn:=w.drawn+1 }:=⟨_,_,H.kept (Kp.drawn _ w _),(aJ mm1 (aJ mm2 (bC))),(bI)⟩
       refine nX _ (.go 0 0 (.go 1 0 (.go 2 0 (.go 3 0 (.go 4 0 (.go 5 0 (.alt 6 (.go 7 0 (.go 8 0 (.go 9 0 (.go 10 0 (.go 11 0 (.go 12 1 (.go 13 1 (.go 14 1 (.go 15 1 (.go 16 2 .nil)))))))))) 12 (.go 6 1 (.go 7 0 (.go 8 0 (.go 9 0 (.go 10 0 (.go 11 0 (.go 13 1 (.go 14 1 (.go 15 1 (.go 16 2 .nil))))))))))))))))) [16] oT (by kernel_rfl) (λ _ _ _ h=>False.elim h.2) hI<|have H:=H.kept (Kp.drawn _ w (w.drawn+1));?_
       generalize ({ w with drawn:=w.drawn+1 }:World)=w at H hI ⊢
       replace hI:∃ W,dG [Blk k 87 [D,F,J,N,p,q,s,.map (some d),t],Blk e 37 (aL x20 o x y A)] [] W:=⟨_,hI⟩
       obtain ⟨W0,hI⟩:=hI
       refine om E z λ a E=>ov E z (λ w hW=>(yI E z z)) λ a E=>ov E z (λ w hW=>lY E z z (v:=pt k 0) (Nq _ _)) λ a E=>ov E z (λ w hW=>kK E z z (P3 (us:=[D,F]) m0 z U25 z dF w hW)) λ a E=>ov E z (λ w hW=>lY E z z (v:=pt e 5) (AR _ _)) λ a E=>ol E mm1 U26 z λ a E=>nY z z ?_ ?_
       ·refine xc2 E z (cf_ 23) (Ct (x1:=(⟨b1,b2⟩:aR)) H (t1 (c _ c4)) (t1 (c _ c5)) (t1 (c _ M)) (t1 (c _ c6)) c1)<|?_
        rintro _ w ⟨k9,l0,l1,rfl,H⟩ a E
        refine nt<|⟨sx H [2,3] z,om E z λ a E=>ox E z λ a E=>ox E z λ a E=>ox E z λ a E=>ox E z λ a E=>cH z<|al2 E H z oC λ l2 w a H E=>nt<|⟨sx H [3,4] z,cH z<|ss 0 E H z dF (mI H m0 mm1) λ w H=>nt<|⟨sx H [3,4] z,cH z<|pn 1 E z λ a E=>⟨sx H [3,4] z,cH z<|pn 1 E z λ a E=>⟨sx H [3,4] z,cV z<|pn 1 E z λ a E=>eO<|?_⟩⟩⟩⟩⟩
        clear hI
        exact aA<|have H:=H.drs [0,1];have H:=H.frs [4,1,4,4,4] z;X5 ⟨E.to z,H,(Y3 c),mm2,m⟩
       ·refine al2 E H z oC λ l3 w a H E=>nt<|⟨sx H [2,3] z,cH z<|xc2 E z (cf_ 23) (Ct (x1:=(⟨b1,b2⟩:aR)) H (t1 (c _ c4)) (t1 (c _ c5)) (t1 (c _ M)) (t1 (c _ c6)) c1)<|?_⟩
        rintro _ w ⟨l4,l5,l6,rfl,H⟩ a E
        refine nt<|⟨sx H [3,4] z,om E z λ a E=>ox E z λ a E=>ox E z λ a E=>ox E z λ a E=>ox E z λ a E=>cH z<|ss 1 E H z dF (mI H m0 mm1) λ w H=>nt<|⟨sx H [3,4] z,cH z<|pn 1 E z λ a E=>⟨sx H [3,4] z,cH z<|pn 1 E z λ a E=>⟨sx H [3,4] z,cV z<|pn 1 E z λ a E=>eO<|?_⟩⟩⟩⟩
        clear hI
        exact aA<|have H:=H.drs [1,1];have H:=H.frs [4,1,4,4,4] z;X5 ⟨E.to z,H,(Y3 c),mm2,m⟩
      ·clear E H m
       rintro a w ⟨b4,b,f,g,I,E,H,P,c2,m⟩
       unfold sP at m
       refine sp 5 E z λ a E=>?_
       obtain ⟨q108,B,rfl⟩:=H.rowform (i:=3) z
       refine sv2 E z (cJ E z (E.evs z) (v:=.agg #[.int .i64 b,.int .i64 g,.bool (b == 0),.int .i64 0,(.slice q108 f.length B),nS,nS,nS,nS,nS]) (by kernel_rfl)) λ a E=>al2 E H z kM λ l7 w a H E=>ss 0 E H z bU z λ w H=>xp 4 E z λ a E=>?_
       obtain ⟨q111,l8,rfl⟩:=H.slform c2
       refine ss 1 E H z MB z λ w H=>nt<|wS<|dz [0,0,0,0,0,0,0,0,0,0,2] [0,1,2] H λ w W0 hI H=>fn 3 E z λ a E=>fb2 E mm1 U85 z λ a E=>fn 1 E z λ a E=>fb2 E mm2 U2 z λ a E=>fn 1 E z λ a E=>fb2 E mm2 U26 z λ a E=>fbn E [.int .i64 b,.int .i64 g,.bool (b == 0),.int .i64 0,(.slice q108 f.length B),nS,nS,nS,nS,nS] z (wn z) z z z z m0 z U48 z bU λ a E=>?_
       obtain ⟨q113,e4,rfl⟩:=H.slform (P _ M)
       refine fv E z (λ w hW=>(cJ E z (E.evs z) (v:=.agg #[.bool false,(.slice q113 x20.Pieces.length e4),.int .i64 b,.int .i64 g,.bool (b == 0),.int .i64 0,(.slice q108 f.length B),nS,nS,nS,nS,nS]) (by kernel_rfl))) λ a E=>bH z<|have H:=H.thaw (i:=4) z;bd m λ l9 e5 m=>S8 (i:=4) (K:=(kyI .i64)) (v:=(⟨false,x20.Pieces,(⟨b,g,b == 0,0,f,(⟨[],[]⟩:aR),[],[],[]⟩:aX)⟩:fS)) (cs:=[.bool false,(.slice q113 x20.Pieces.length e4),.int .i64 b,.int .i64 g,.bool (b == 0),.int .i64 0,(.slice q108 f.length B),nS,nS,nS,nS,nS]) E H (wn z) z z z z z z (fR U2) U85 e5 (λ ok hr=>(T6 (hr _ (t1 (P _ M))) (hr _ m0) (Sl.nil _ _ _) (Sl.nil _ _ _) (Sl.nil _ _ _) (Sl.nil _ _ _) (Sl.nil _ _ _))) λ w H=>nt<|bG<|?_
       clear hI
       refine aA<|sq<|ln 0 [.int .i64 b,.int .i64 g,.bool (b == 0),.int .i64 0,(.slice q108 f.length B),nS,nS,nS,nS,nS] E H U48 z bU λ a E=>ss 3 E H z bU z λ w H=>nt<|wR<|oB 3 [.int .i64 b,.int .i64 g,.bool (b == 0),.int .i64 0,(.slice q108 f.length B),nS,nS,nS,nS,nS] E H U48 z bU<|have H:=H.nilSl aB;have H:=H.nilSl aC;have H:=H.nilSl aQ;have H:=H.nilSl bD;have H:=H.nilSl (kI .i64);have H:=H.drs [0,1,1];?_
       cases m
       exact X7 ⟨z,H.rdx [5,4,3,2,1,0] z (aD (t6 c2) (λ r hr=>(t6 (P r hr))))⟩

def qG(i:List aG)(j:List aM)(m:List aF)(k:List aV)(c:List aP)(d:List aE)(e:List kV)(f:List wV)(g:List kV)(x20:aK)(t:Bool):Option Yt:=
  if t=true then ((dH 1).bind λ s=>some (s,i,j,m,k,c,d,e,f,g)) else (if (x20.Kind == 2)=true then ((rR i j m k f x20).bind λ n=>some (n.1,i,j,m,n.2.1,c,d,e,n.2.2,g)) else (if (x20.Kind == 3)=true then ((sI i j k c d f x20).bind λ b=>some (b.1,b.2.1,b.2.2.1,m,b.2.2.2.1,b.2.2.2.2.1,b.2.2.2.2.2.1,e,b.2.2.2.2.2.2,g)) else (if (x20.Kind == 4)=true then ((sG g x20).bind λ p=>some (p.1,i,j,m,k,c,d,e,f,p.2)) else (if (x20.Kind == 5)=true then ((sK i j m k x20).bind λ q=>some (q.1,i,j,q.2,k,c,d,e,f,g)) else (if (x20.Kind == 6)=true then ((rM i j m k x20).bind λ l=>some (l.1,l.2.1,l.2.2.1,l.2.2.2,k,c,d,e,f,g)) else (if (x20.Kind == 7)=true then ((vD i j m x20).bind λ o=>some ((⟨0,0,false,0,[],(⟨[],[]⟩:aR),[],[],[]⟩:aX),o.1,o.2.1,o.2.2,k,c,d,e,f,g)) else none))))))
def iY(n:List aG)(o:List aM)(i:List aF)(j:List aV)(b:List aP)(c:List aE)(d:List kV)(e:List wV)(f:List kV)(x20:aK)(p:Bool):Option Yt:=
  if p=true then (if (x20.Kind == 1)=true then ((oZ n o i j b c d x20).bind λ g=>some (g.1,g.2.1,g.2.2.1,i,j,g.2.2.2.1,g.2.2.2.2.1,g.2.2.2.2.2,e,f)) else (if (x20.Kind == 8)=true then ((oY b c d x20).bind λ k=>some (k.1,n,o,i,j,k.2.1,k.2.2.1,k.2.2.2,e,f)) else (if (x20.Kind == 9)=true then ((oX b c d x20).bind λ l=>some (l.1,n,o,i,j,l.2.1,l.2.2.1,l.2.2.2,e,f)) else (if (x20.Kind == 10)=true then ((rO b c d x20).bind λ m=>some (m.1,n,o,i,j,m.2.1,m.2.2.1,m.2.2.2,e,f)) else none)))) else (if (decide (x20.Kind ≥ 5))=true then (qG n o i j b c d e f x20 (sEq x20.Prefix (ByteArray.mk #[]))) else (qG n o i j b c d e f x20 false))
def gS(g:List aG)(i:List aM)(j:List aF)(k:List aV)(b:List aP)(c:List aE)(d:List kV)(e:List wV)(f:List kV)(x20:aK)(l:Bool):Option Yt:=
  if l=true then ((dH 1).bind λ m=>some (m,g,i,j,k,b,c,d,e,f)) else (if (x20.Kind == 1)=true then (iY g i j k b c d e f x20 (x20.Kind == 1)) else (iY g i j k b c d e f x20 (decide (x20.Kind ≥ 8))))
def bZ(i:List aG)(j:List aM)(k:List aF)(l:List aV)(c:List aP)(d:List aE)(e:List kV)(f:List wV)(g:List kV)(x20:aK):Option Yt:=
  (gE x20).bind λ b=>if (!b)=true then (gS i j k l c d e f g x20 (!b)) else (gS i j k l c d e f g x20 (decide (x20.Kind > 10)))
theorem kD{I t u x:Nat}{V W X Y J K n o p q:Value}{Z:List aG}{b0:List aM}{b1:List aF}{b2:List aV}{L:List aP}{M:List aE}{A B:List kV}{C:List wV}{x20:aK}(H:Sep w (Blk I 87 [V,W,X,Y,J,K,.map (some t),.map (some u),.map (some x)]::bX Tryz.prog 2 (kyI .i64) bB true t A::bX Tryz.prog 2 (kyI .i64) dB true u C::bX Tryz.prog 2 (kyI .i64) bB true x B::Fo) rs)(e:rSl aB V Z ∈ rs)(f:rSl aC W b0 ∈ rs)(g:rSl aO X b1 ∈ rs)(d:rSl bA Y b2 ∈ rs)(k:rSl aS J L ∈ rs)(l:rSl aI K M ∈ rs)(N:rSl bT n x20.Pieces ∈ rs)(b3:rSl aB o x20.Store.Nodes ∈ rs)(b4:rSl aC p x20.Store.Turns ∈ rs)(b5:rSl kS q x20.Gone ∈ rs)(O:N2 Tryz.prog ∈ rs){r:aX×dZ×dR×hZ×nB×fT×eA×sB×Ab×sB}(m:bZ Z b0 b1 b2 L M A C B x20=some r) :
    Cf 13 [pt I 0,.agg (aL x20 n o p q).toArray] w λ v w'=>∃ j3 j4 j5 j6 j7 j8 j9 d1 d2 d3 d4 d5,.agg (aU r.1 j3 j4 j5 j6 j7 j8).toArray=v/\Sep w' (Blk I 87 [j9,d1,d2,d3,d4,d5,.map (some t),.map (some u),.map (some x)]::bX Tryz.prog 2 (kyI .i64) bB true t r.2.2.2.2.2.2.2.1::bX Tryz.prog 2 (kyI .i64) dB true u r.2.2.2.2.2.2.2.2.1::bX Tryz.prog 2 (kyI .i64) bB true x r.2.2.2.2.2.2.2.2.2::Fo) (rSl aY j3 r.1.Results::rSl aB j4 r.1.Store.Nodes::rSl aC j5 r.1.Store.Turns::rSl aQ j6 r.1.Events::rSl bD j7 r.1.Mounts::rSl (kI .i64) j8 r.1.Wounded::rSl aB j9 r.2.1::rSl aC d1 r.2.2.1::rSl aO d2 r.2.2.2.1::rSl bA d3 r.2.2.2.2.1::rSl aS d4 r.2.2.2.2.2.1::rSl aI d5 r.2.2.2.2.2.2.1::rs):=by
 unfold bZ at m
 refine ent Tryz.func13 z Tryz.ntmps13 z z λ a E=>sq<|bx E H z λ D w a H E=>al2 E H z kM λ F w a H E=>nx<|sv2 E z (cJ E z (E.evs z) (v:=.agg #[.nilFunc,.func (.func 42) #[] #[],.func (.func 43) #[] #[],.func (.func 44) #[] #[],.func (.func 45) #[] #[],.func (.func 46) #[] #[],.func (.func 47) #[] #[],.func (.func 48) #[] #[],.func (.func 49) #[] #[],.func (.func 50) #[] #[],.func (.func 51) #[] #[]]) (by kernel_rfl)) λ a E=>al2 E H z PD λ G w a H E=>ss 0 E H z PE z λ w H=>nt<|wS<|wB<|aN (λ a w=>∃ b6,Jn 46 a w [(0,pt I 0),(3,pt D 0),(4,pt F 0),(5,pt G 0),(7,.bool b6)] (Blk I 87 [V,W,X,Y,J,K,.map (some t),.map (some u),.map (some x)]::Blk D 37 (aL x20 n o p q)::Blk F 48 bJ::Blk G 101 [.nilFunc,.func (.func 42) #[] #[],.func (.func 43) #[] #[],.func (.func 44) #[] #[],.func (.func 45) #[] #[],.func (.func 46) #[] #[],.func (.func 47) #[] #[],.func (.func 48) #[] #[],.func (.func 49) #[] #[],.func (.func 50) #[] #[],.func (.func 51) #[] #[]]::bX Tryz.prog 2 (kyI .i64) bB true t A::bX Tryz.prog 2 (kyI .i64) dB true u C::bX Tryz.prog 2 (kyI .i64) bB true x B::Fo) rs (gS Z b0 b1 b2 L M A C B x20 b6=some r)) ?_ ?_
 ·refine sq<|ln 2 (aL x20 n o p q) E H U37 z yZ λ a E=>bd m λ n7 c3 m=>xk2 E z (cf_ 52) (Oh H N b3 b4 b5 c3) λ w H a E=>pn 2 E z λ a E=>wif E m z (λ m=>?_) λ m=>?_
  ·exact wK<|aA<|have H:=H.frs [6,6,6,3,4,5,6] z;⟨_,_,E.to z,H,Y0,m⟩
  ·exact wG<|pr 1 E z λ a E=>lb2 E H 2 U3 z λ a E=>pn 2 E z λ a E=>have H:=H.frs [6,6,6,3,4,5,6] z;⟨_,_,E.to z,H,Y0,m⟩
 ·clear E H m
  rintro a w ⟨b6,n8,E,H,s,m⟩
  unfold gS at m
  refine wif E m z (λ m=>?_) λ m=>?_
  ·refine sq<|bd m λ k0 d6 m=>xc2 E z (cf_ 53) (eP H d6)<|?_
   rintro _ w ⟨k1,k2,k3,k4,k5,k6,rfl,H⟩ a E
   refine ss 2 E H z bU (aZ H m0 mm1 mm2 mm3 mm4 mm5) λ w H=>nt<|wR<|bM<|aH<|oB 2 (aU k0 k1 k2 k3 k4 k5 k6) E H U48 z bU<|have H:=H.drs [1,1,1];?_
   cases m
   exact X12 ⟨z,H.rdx [0,1,2,3,4,5] z (aD (t6 (s _ e)) (aD (t6 (s _ f)) (aD (t6 (s _ g)) (aD (t6 (s _ d)) (aD (t6 (s _ k)) (aD (t6 (s _ l)) (λ r hr=>(t6 (s r hr)))))))))⟩
  ·refine aN (λ a w=>∃ b7,Jn 46 a w [(0,pt I 0),(3,pt D 0),(4,pt F 0),(5,pt G 0),(15,.bool b7)] (Blk I 87 [V,W,X,Y,J,K,.map (some t),.map (some u),.map (some x)]::Blk D 37 (aL x20 n o p q)::Blk F 48 bJ::Blk G 101 [.nilFunc,.func (.func 42) #[] #[],.func (.func 43) #[] #[],.func (.func 44) #[] #[],.func (.func 45) #[] #[],.func (.func 46) #[] #[],.func (.func 47) #[] #[],.func (.func 48) #[] #[],.func (.func 49) #[] #[],.func (.func 50) #[] #[],.func (.func 51) #[] #[]]::bX Tryz.prog 2 (kyI .i64) bB true t A::bX Tryz.prog 2 (kyI .i64) dB true u C::bX Tryz.prog 2 (kyI .i64) bB true x B::Fo) rs (iY Z b0 b1 b2 L M A C B x20 b7=some r)) ?_ ?_
   ·refine sp 1 E z λ a E=>lb2 E H 1 U3 z λ a E=>pn 2 E z λ a E=>wif E m z (λ m=>?_) λ m=>?_
    ·exact wK<|aA<|⟨_,_,E.to z,H,s,m⟩
    ·exact wG<|pr 1 E z λ a E=>lb2 E H 1 U3 z λ a E=>pn 2 E z λ a E=>⟨_,_,E.to z,H,s,m⟩
   ·clear E H m
    rintro a w ⟨b7,n9,E,H,c,m⟩
    unfold iY at m
    refine wif E m z (λ m=>?_) λ m=>?_
    ·refine wS<|dz [0,0,0,0,0,0,1,2] [1,3] H λ w W0 hI H=>fn 1 E z λ a E=>fbn E (aL x20 n o p q) z (wn z) z z z z m0 z U37 z yZ λ a E=>fn 1 E z λ a E=>fb2 E m0 U3 z λ a E=>cs m (λ b8 m=>?_) λ b8 m=>?_
     ·refine fv E z (λ w hW=>vL (j:=1) E z z z b8 z Cc V1) λ a E=>fb2 E mm1 Cd z λ a E=>bQ z<|have H:=H.frs [6,6,5,5,5,6,6] z;bd m λ k7 d7 m=>xc2 E z (cf_ 54) (Fc H (c _ e) (c _ f) (c _ g) (c _ d) (c _ k) (c _ l) (c _ N) (c _ O) d7)<|?_
      rintro _ w ⟨k8,k9,l0,l1,l2,l3,p4,p5,p6,p7,rfl,H⟩ a E
      refine nt<|⟨sx H [2,4] z,bH z<|ss 3 E H z bU (aZ H m0 mm1 mm2 mm3 mm4 mm5) λ w H=>nt<|bG<|?_⟩
      clear hI
      refine aA<|wR<|bM<|aH<|oB 3 (aU k7.1 k8 k9 l0 l1 l2 l3) E H U48 z bU<|have H:=H.drs [2,2,2];?_
      cases m
      exact X12 ⟨z,H.rdx [0,1,2,3,4,5,6] z (aD (t1 mm6) (aD (t2 (t8 (c _ g))) (aD (t2 (t8 (c _ d))) (aD (t2 mm6) (aD (t3 mm6) (λ r hr=>(t2 (t8 (c r hr)))))))))⟩
     ·refine cs m (λ b9 m=>?_) λ b9 m=>?_
      ·refine fv E z (λ w hW=>vL (j:=8) E z z z b9 z Cc V1) λ a E=>fb2 E mm1 Cd z λ a E=>bQ z<|have H:=H.frs [6,6,5,5,5,6,6] z;bd m λ l4 d8 m=>xc2 E z (cf_ 54) (Fb H (c _ k) (c _ l) d8)<|?_
       rintro _ w ⟨l5,l6,l7,l8,l9,m1,p8,p9,rfl,H⟩ a E
       refine nt<|⟨sx H [2,4] z,bH z<|ss 3 E H z bU (aZ H m0 mm1 mm2 mm3 mm4 mm5) λ w H=>nt<|bG<|?_⟩
       clear hI
       refine aA<|wR<|bM<|aH<|oB 3 (aU l4.1 l5 l6 l7 l8 l9 m1) E H U48 z bU<|have H:=H.drs [2,2,2];?_
       cases m
       exact X12 ⟨z,H.rdx [0,1,2,3,4,5] z (aD (t8 (c _ e)) (aD (t8 (c _ f)) (aD (t8 (c _ g)) (aD (t8 (c _ d)) (aD mm6 (aD (t1 mm6) (λ r hr=>(t8 (c r hr)))))))))⟩
      ·refine cs m (λ c0 m=>?_) λ c0 m=>?_
       ·refine fv E z (λ w hW=>vL (j:=9) E z z z c0 z Cc V1) λ a E=>fb2 E mm1 Cd z λ a E=>bQ z<|have H:=H.frs [6,6,5,5,5,6,6] z;bd m λ m2 d9 m=>xc2 E z (cf_ 54) (Fa H (c _ k) (c _ l) d9)<|?_
        rintro _ w ⟨m3,m4,m5,m6,m7,m8,q0,q1,rfl,H⟩ a E
        refine nt<|⟨sx H [2,4] z,bH z<|ss 3 E H z bU (aZ H m0 mm1 mm2 mm3 mm4 mm5) λ w H=>nt<|bG<|?_⟩
        clear hI
        refine aA<|wR<|bM<|aH<|oB 3 (aU m2.1 m3 m4 m5 m6 m7 m8) E H U48 z bU<|have H:=H.drs [2,2,2];?_
        cases m
        exact X12 ⟨z,H.rdx [0,1,2,3,4,5] z (aD (t8 (c _ e)) (aD (t8 (c _ f)) (aD (t8 (c _ g)) (aD (t8 (c _ d)) (aD mm6 (aD (t1 mm6) (λ r hr=>(t8 (c r hr)))))))))⟩
       ·refine cs m (λ c1 m=>?_) λ c1 m=>?_
        ·refine fv E z (λ w hW=>vL (j:=10) E z z z c1 z Cc V1) λ a E=>fb2 E mm1 Cd z λ a E=>bQ z<|have H:=H.frs [6,6,5,5,5,6,6] z;bd m λ m9 e0 m=>xc2 E z (cf_ 54) (Hy H (c _ k) (c _ l) e0)<|?_
         rintro _ w ⟨n0,n1,n2,n3,n4,n5,q2,q3,rfl,H⟩ a E
         refine nt<|⟨sx H [2,4] z,bH z<|ss 3 E H z bU (aZ H m0 mm1 mm2 mm3 mm4 mm5) λ w H=>nt<|bG<|?_⟩
         clear hI
         refine aA<|wR<|bM<|aH<|oB 3 (aU m9.1 n0 n1 n2 n3 n4 n5) E H U48 z bU<|have H:=H.drs [2,2,2];?_
         cases m
         exact X12 ⟨z,H.rdx [0,1,2,3,4,5] z (aD (t8 (c _ e)) (aD (t8 (c _ f)) (aD (t8 (c _ g)) (aD (t8 (c _ d)) (aD mm6 (aD (t1 mm6) (λ r hr=>(t8 (c r hr)))))))))⟩
        ·exact (bF m z).elim
    ·refine aN (λ a w=>∃ c2,Jn 46 a w [(0,pt I 0),(3,pt D 0),(4,pt F 0),(5,pt G 0),(29,.bool c2)] (Blk I 87 [V,W,X,Y,J,K,.map (some t),.map (some u),.map (some x)]::Blk D 37 (aL x20 n o p q)::Blk F 48 bJ::Blk G 101 [.nilFunc,.func (.func 42) #[] #[],.func (.func 43) #[] #[],.func (.func 44) #[] #[],.func (.func 45) #[] #[],.func (.func 46) #[] #[],.func (.func 47) #[] #[],.func (.func 48) #[] #[],.func (.func 49) #[] #[],.func (.func 50) #[] #[],.func (.func 51) #[] #[]]::bX Tryz.prog 2 (kyI .i64) bB true t A::bX Tryz.prog 2 (kyI .i64) dB true u C::bX Tryz.prog 2 (kyI .i64) bB true x B::Fo) rs (qG Z b0 b1 b2 L M A C B x20 c2=some r)) ?_ ?_
     ·refine wG<|pr 1 E z λ a E=>lb2 E H 1 U3 z λ a E=>pr 2 E z λ a E=>cs m (λ y m=>?_) λ y m=>?_
      ·exact pk 1 E (kc 33 z y) z λ a E=>gl 33 E H 1 y U9 z λ a E=>pk 3 E (kc 33 z y) z λ a E=>nt<|⟨_,_,E.to z,H,c,m⟩
      ·exact pk 5 E (kc 33 z y) z λ a E=>nt<|⟨_,_,E.to z,H,c,m⟩
     ·clear E H m
      rintro a w ⟨c2,n6,E,H,b,m⟩
      unfold qG at m
      refine wif E m z (λ m=>?_) λ m=>?_
      ·refine sq<|bd m λ e1 c4 m=>xc2 E z (cf_ 53) (eP H c4)<|?_
       rintro _ w ⟨e2,e3,e4,e5,e6,e7,rfl,H⟩ a E
       refine ss 2 E H z bU (aZ H m0 mm1 mm2 mm3 mm4 mm5) λ w H=>nt<|wR<|bM<|aH<|oB 2 (aU e1 e2 e3 e4 e5 e6 e7) E H U48 z bU<|have H:=H.drs [1,1,1];?_
       cases m
       exact X12 ⟨z,H.rdx [0,1,2,3,4,5] z (aD (t6 (b _ e)) (aD (t6 (b _ f)) (aD (t6 (b _ g)) (aD (t6 (b _ d)) (aD (t6 (b _ k)) (aD (t6 (b _ l)) (λ r hr=>(t6 (b r hr)))))))))⟩
      ·refine wK<|bR<|aA<|wS<|dz [0,0,0,0,0,0,1,2] [1,3] H λ w W0 hI H=>fn 1 E z λ a E=>fb2 E m0 U3 z λ a E=>cs m (λ P m=>?_) λ P m=>?_
       ·refine fv E z (λ w hW=>vL (j:=2) E z z z P z Cc V1) λ a E=>fb2 E mm1 Cd z λ a E=>fn 1 E z λ a E=>fbn E (aL x20 n o p q) z (wn z) z z z z m0 z U37 z yZ λ a E=>bQ z<|have H:=H.frs [6,5,5,5,5,6,6] z;bd m λ e8 c5 m=>bK E (wn z) z z (bO E z z z ((cf_ 43) _)) (Dy H (b _ e) (b _ f) (b _ g) (b _ d) (b _ N) (b _ O) c5)<|?_
        rintro _ w ⟨e9,f0,f1,f2,f3,f4,o0,rfl,H⟩ a E
        refine nt<|⟨sx H [2,4] z,bH z<|ss 3 E H z bU (aZ H m0 mm1 mm2 mm3 mm4 mm5) λ w H=>nt<|bG<|?_⟩
        clear hI
        refine aA<|wR<|oB 3 (aU e8.1 e9 f0 f1 f2 f3 f4) E H U48 z bU<|have H:=H.drs [2,2,2];have H:=H.frs [3,2,3,3] z;?_
        cases m
        exact X12 ⟨z,H.rdx [0,1,2,3,4,5] z (aD (t7 (b _ e)) (aD (t7 (b _ f)) (aD (t7 (b _ g)) (aD mm6 (aD (t7 (b _ k)) (aD (t7 (b _ l)) (λ r hr=>(t7 (b r hr)))))))))⟩
       ·refine cs m (λ Q m=>?_) λ Q m=>?_
        ·refine fv E z (λ w hW=>vL (j:=3) E z z z Q z Cc V1) λ a E=>fb2 E mm1 Cd z λ a E=>fn 1 E z λ a E=>fbn E (aL x20 n o p q) z (wn z) z z z z m0 z U37 z yZ λ a E=>bQ z<|have H:=H.frs [6,5,5,5,5,6,6] z;bd m λ f5 c6 m=>bK E (wn z) z z (bO E z z z ((cf_ 44) _)) (Ew H (b _ e) (b _ f) (b _ d) (b _ k) (b _ l) (b _ O) c6)<|?_
         rintro _ w ⟨f6,f7,f8,f9,g0,g1,o1,o2,o3,o4,o5,rfl,H⟩ a E
         refine nt<|⟨sx H [2,4] z,bH z<|ss 3 E H z bU (aZ H m0 mm1 mm2 mm3 mm4 mm5) λ w H=>nt<|bG<|?_⟩
         clear hI
         refine aA<|wR<|oB 3 (aU f5.1 f6 f7 f8 f9 g0 g1) E H U48 z bU<|have H:=H.drs [2,2,2];have H:=H.frs [3,2,3,3] z;?_
         cases m
         exact X12 ⟨z,H.rdx [0,1,2,3,4,5,6] z (aD (t1 mm6) (aD (t3 (t8 (b _ g))) (aD (t2 mm6) (aD (t3 mm6) (aD (t4 mm6) (λ r hr=>(t3 (t8 (b r hr)))))))))⟩
        ·refine cs m (λ R m=>?_) λ R m=>?_
         ·refine fv E z (λ w hW=>vL (j:=4) E z z z R z Cc V1) λ a E=>fb2 E mm1 Cd z λ a E=>fn 1 E z λ a E=>fbn E (aL x20 n o p q) z (wn z) z z z z m0 z U37 z yZ λ a E=>bQ z<|have H:=H.frs [5,5,5,5,5,6,6] z;bd m λ g2 c7 m=>bK E (wn z) z z (bO E z z z ((cf_ 45) _)) (Eu H c7)<|?_
          rintro _ w ⟨g3,g4,g5,g6,g7,g8,rfl,H⟩ a E
          refine nt<|⟨sx H [2,4] z,bH z<|ss 3 E H z bU (aZ H m0 mm1 mm2 mm3 mm4 mm5) λ w H=>nt<|bG<|?_⟩
          clear hI
          refine aA<|wR<|oB 3 (aU g2.1 g3 g4 g5 g6 g7 g8) E H U48 z bU<|have H:=H.drs [2,2,2];have H:=H.frs [1,3,3,3] z;?_
          cases m
          exact X12 ⟨z,H.rdx [0,1,2,3,4,5] z (aD (t6 (b _ e)) (aD (t6 (b _ f)) (aD (t6 (b _ g)) (aD (t6 (b _ d)) (aD (t6 (b _ k)) (aD (t6 (b _ l)) (λ r hr=>(t6 (b r hr)))))))))⟩
         ·refine cs m (λ S m=>?_) λ S m=>?_
          ·refine fv E z (λ w hW=>vL (j:=5) E z z z S z Cc V1) λ a E=>fb2 E mm1 Cd z λ a E=>fn 1 E z λ a E=>fbn E (aL x20 n o p q) z (wn z) z z z z m0 z U37 z yZ λ a E=>bQ z<|bd m λ g9 c8 m=>bK E (wn z) z z (bO E z z z ((cf_ 46) _)) (Ez H (b _ e) (b _ f) (b _ g) (b _ d) c8)<|?_
           rintro _ w ⟨i0,i1,i2,i3,i4,i5,o6,rfl,H⟩ a E
           refine nt<|⟨sx H [1,3] z,bH z<|ss 2 E H z bU (aZ H m0 mm1 mm2 mm3 mm4 mm5) λ w H=>nt<|bG<|?_⟩
           clear hI
           refine aA<|wR<|oB 2 (aU g9.1 i0 i1 i2 i3 i4 i5) E H U48 z bU<|have H:=H.drs [1,1,1];?_
           cases m
           exact X12 ⟨z,H.rdx [0,1,2,3,4,5] z (aD (t7 (b _ e)) (aD (t7 (b _ f)) (aD mm6 (aD (t7 (b _ d)) (aD (t7 (b _ k)) (aD (t7 (b _ l)) (λ r hr=>(t7 (b r hr)))))))))⟩
          ·refine cs m (λ T m=>?_) λ T m=>?_
           ·refine fv E z (λ w hW=>vL (j:=6) E z z z T z Cc V1) λ a E=>fb2 E mm1 Cd z λ a E=>fn 1 E z λ a E=>fbn E (aL x20 n o p q) z (wn z) z z z z m0 z U37 z yZ λ a E=>bQ z<|bd m λ i6 c9 m=>bK E (wn z) z z (bO E z z z ((cf_ 47) _)) (Du H (b _ e) (b _ f) (b _ g) (b _ d) (b _ b3) (b _ b4) (b _ b5) c9)<|?_
            rintro _ w ⟨i7,i8,i9,j0,j1,j2,o7,o8,o9,rfl,H⟩ a E
            refine nt<|⟨sx H [1,3] z,bH z<|ss 2 E H z bU (aZ H m0 mm1 mm2 mm3 mm4 mm5) λ w H=>nt<|bG<|?_⟩
            clear hI
            refine aA<|wR<|oB 2 (aU i6.1 i7 i8 i9 j0 j1 j2) E H U48 z bU<|have H:=H.drs [1,1,1];?_
            cases m
            exact X12 ⟨z,H.rdx [0,1,2,3,4,5,6] z (aD (t1 mm6) (aD (t2 mm6) (aD (t1 (t8 (b _ d))) (aD (t1 (t8 (b _ k))) (aD (t1 (t8 (b _ l))) (λ r hr=>(t1 (t8 (b r hr)))))))))⟩
           ·refine cs m (λ U m=>?_) λ U m=>?_
            ·refine fv E z (λ w hW=>vL (j:=7) E z z z U z Cc V1) λ a E=>fb2 E mm1 Cd z λ a E=>fn 1 E z λ a E=>fbn E (aL x20 n o p q) z (wn z) z z z z m0 z U37 z yZ λ a E=>bQ z<|bd m λ p0 d0 m=>bK E (wn z) z z (bO E z z z ((cf_ 48) _)) (Hv H (b _ e) (b _ f) (b _ g) d0)<|?_
             rintro _ w ⟨p1,p2,p3,rfl,H⟩ a E
             refine nt<|⟨sx H [1,3] z,bH z<|ss 2 E H z bU z λ w H=>nt<|bG<|?_⟩
             clear hI
             refine aA<|wR<|Eg E z (pR (i:=2) (us:=bJ) H z z z U48 z bU)<|have H:=H.nilSl aY;have H:=H.nilSl aB;have H:=H.nilSl aC;have H:=H.nilSl aQ;have H:=H.nilSl bD;have H:=H.nilSl (kI .i64);have H:=H.drs [1,1,1];?_
             cases m
             exact X12 ⟨z,H.rdx [5,4,3,2,1,0,6] z (aD (t1 mm6) (aD (t2 mm6) (aD (t1 (t8 (b _ d))) (aD (t1 (t8 (b _ k))) (aD (t1 (t8 (b _ l))) (λ r hr=>(t1 (t8 (b r hr)))))))))⟩
            ·exact (bF m z).elim

def mG(b:ByteArray):Option y6:=
  (Et ([(⟨1,b,(ByteArray.mk #[]),0,0,false⟩:eQ)]:List eQ)).bind λ c=>some (c)
theorem sR{b:ByteArray}(H:Sep w (Fo) rs){r:y6}(m:mG b=some r) :
    Cf 36 [.string b] w λ v w'=>∃ c,c=v/\Sep w' (Row 99 bT c r::Fo) (rs):=by
 unfold mG at m
 refine ent Tryz.func36 z Tryz.ntmps36 z z λ a E=>sp 1 E z λ a E=>xp 1 E z λ a E=>sv2 E z (cJ E z (E.evs z) (v:=.agg #[.int .i64 1,.string b,.string (ByteArray.mk #[]),.int .i64 0,.int .i64 0,.bool false]) (by kernel_rfl)) λ a E=>jO (e:=134) (d:=M9) (cs:=[.int .i64 1,.string b,.string (ByteArray.mk #[]),.int .i64 0,.int .i64 0,.bool false]) (xs:=[(⟨1,b,(ByteArray.mk #[]),0,0,false⟩:eQ)]) E H (wn z) z z z (E.evs z) (by kernel_rfl) z z (λ ok hr=>(Rows.single (d:=M9) (cs:=[.int .i64 1,.string b,.string (ByteArray.mk #[]),.int .i64 0,.int .i64 0,.bool false]) (x:=(⟨1,b,(ByteArray.mk #[]),0,0,false⟩:eQ)) Ks)) λ g w a H E=>have H:=H.thaw (i:=0) z;bd m λ j f m=>xc2 E z (cf_ 77) (Yv H m0 f)<|?_
 rintro _ w ⟨k,rfl,H⟩ a E
 refine pn 1 E z λ a E=>wR<|o1 E z<|?_
 cases m
 exact ⟨_,z,H.reads (Y1 Y0)⟩

def s9(x1:aR)(c:List aF)(b:Bool):Option (Option Es):=
  if b=true then (some none) else (some (some (x1.Nodes,x1.Turns,c)))
def xB(x1:aR)(b:List aF):Option (Option Es):=
  (sD x1).bind λ c=>if (!c)=true then (s9 x1 b true) else ((oO b).bind λ d=>s9 x1 b (!d))
theorem Cv{x1:aR}{l n u:Value}{t:List aF}(H:Sep w (Fo) rs)(o:rSl aB l x1.Nodes ∈ rs)(p:rSl aC n x1.Turns ∈ rs)(q:rSl aO u t ∈ rs){r:Option Es}(m:xB x1 t=some r) :
    Cf 9 [.agg #[l,n],u] w λ v w'=>(r=none/\.pointer none=v/\Sep w' (Fo) rs)∨∃ y,r=some y/\∃ e B C D f i j,pt e 0=v/\Sep w' (Blk e 87 [B,C,D,nS,nS,nS,.map (some f),.map (some i),.map (some j)]::bX Tryz.prog 2 (kyI .i64) bB true f []::bX Tryz.prog 2 (kyI .i64) dB true i []::bX Tryz.prog 2 (kyI .i64) bB true j []::Fo) (rSl aB B y.1::rSl aC C y.2.1::rSl aO D y.2.2::rs):=by
 unfold xB at m
 refine ent Tryz.func9 z Tryz.ntmps9 z z λ a E=>sq<|bx E H z λ F w a H E=>pn 1 E z λ a E=>wS<|aN (λ a w=>∃ s,Jn 20 a w [(1,u),(2,pt F 0),(12,.bool s)] (Blk F 25 [l,n]::Fo) rs (s9 x1 t s=some r)) ?_ ?_
 ·refine wG<|ln 0 [l,n] E H U25 z dF λ a E=>bd m λ P x m=>xk2 E z (cf_ 37) (Q4 H o p x) λ w H a E=>pr 2 E z λ a E=>cs m (λ c m=>?_) λ c m=>?_
  ·exact pk 4 E (kc 8 z c) z λ a E=>nt<|⟨_,_,E.to z,H,Y0,m⟩
  ·refine pk 1 E (kc 8 z c) z λ a E=>bd m λ Q A m=>gc 8 E c z (cf_ 38) (B2 H q A)<|?_
   rintro _ w ⟨rfl,H⟩ a E
   exact pk 2 E (kc 8 z c) z λ a E=>nt<|⟨_,_,E.to z,H,Y0,m⟩
 ·clear E H m
  rintro a w ⟨s,O,E,H,b,m⟩
  unfold s9 at m
  refine wif E m z (λ m=>?_) λ m=>?_
  ·refine sq<|pn 1 E z λ a E=>wR<|aH<|o1 E z<|have H:=H.drop 0;?_
   cases m
   exact .inl ⟨z,z,H.reads (b)⟩
  ·refine wK<|aA<|sq<|ln 0 [l,n] E H U25 z dF λ a E=>pr 1 E z λ a E=>C5 (k:=2) (K:=(kyI .i64)) (d:=bB) (g:=true) E H (wn z) z z z λ G w a H E=>C5 (k:=2) (K:=(kyI .i64)) (d:=dB) (g:=true) E H (wn z) z z z λ I w a H E=>C5 (k:=2) (K:=(kyI .i64)) (d:=bB) (g:=true) E H (wn z) z z z λ J w a H E=>?_
   obtain ⟨q16,L,rfl⟩:=H.slform (b _ o)
   obtain ⟨q18,M,rfl⟩:=H.slform (b _ p)
   obtain ⟨q20,N,rfl⟩:=H.slform (b _ q)
   refine sv2 E z (cJ E z (E.evs z) (v:=.agg #[(.slice q16 x1.Nodes.length L),(.slice q18 x1.Turns.length M),(.slice q20 t.length N),nS,nS,nS,.map (some G),.map (some I),.map (some J)]) (by kernel_rfl)) λ a E=>bx E H z λ R w a H E=>pn 1 E z λ a E=>wR<|o1 E z<|have H:=H.drop 4;have H:=H.frs [1,2,3,3] z;?_
   cases m
   exact .inr ⟨_,z,X7 ⟨z,H.reads (aD (b _ o) (aD (b _ p) (aD (b _ q) (b))))⟩⟩

def W6:Option (Option Es):=
  (xB (⟨([(⟨(ByteArray.mk #[47]),(ByteArray.mk #[]),0,0,0⟩:aG)]:List aG),[]⟩:aR) ([(⟨(ByteArray.mk #[47]),1,1⟩:aF)]:List aF)).bind λ c=>Lh c (some none) λ b=>some (some (b.1,b.2.1,b.2.2))
theorem Ic(H:Sep w (Fo) rs){r:Option Es}(m:W6=some r) :
    Cf 35 [] w λ v w'=>(r=none/\.pointer none=v/\Sep w' (Fo) rs)∨∃ y,r=some y/\∃ b j k l c f g,pt b 0=v/\Sep w' (Blk b 87 [j,k,l,nS,nS,nS,.map (some c),.map (some f),.map (some g)]::bX Tryz.prog 2 (kyI .i64) bB true c []::bX Tryz.prog 2 (kyI .i64) dB true f []::bX Tryz.prog 2 (kyI .i64) bB true g []::Fo) (rSl aB j y.1::rSl aC k y.2.1::rSl aO l y.2.2::rs):=by
 unfold W6 at m
 refine ent Tryz.func35 z Tryz.ntmps35 z z λ a E=>sp 1 E z λ a E=>nx<|sv2 E z (cJ E z (E.evs z) (v:=.agg #[.string (ByteArray.mk #[47]),.string (ByteArray.mk #[]),.int .i64 0,.int .i64 0,.int .i64 0]) (by kernel_rfl)) λ a E=>jO (e:=107) (d:=aB) (cs:=[.string (ByteArray.mk #[47]),.string (ByteArray.mk #[]),.int .i64 0,.int .i64 0,.int .i64 0]) (xs:=[(⟨(ByteArray.mk #[47]),(ByteArray.mk #[]),0,0,0⟩:aG)]) E H (wn z) z z z (E.evs z) (by kernel_rfl) z z (λ ok hr=>(Rows.single (d:=aB) (cs:=[.string (ByteArray.mk #[47]),.string (ByteArray.mk #[]),.int .i64 0,.int .i64 0,.int .i64 0]) (x:=(⟨(ByteArray.mk #[47]),(ByteArray.mk #[]),0,0,0⟩:aG)) A4)) λ u w a H E=>?_
 obtain ⟨q2,x3,rfl⟩:=H.rowform (i:=0) z
 refine sv2 E z (cJ E z (E.evs z) (v:=.agg #[(.slice q2 ([(⟨(ByteArray.mk #[47]),(ByteArray.mk #[]),0,0,0⟩:aG)]:List aG).length x3),nS]) (by kernel_rfl)) λ a E=>sv2 E z (cJ E z (E.evs z) (v:=.agg #[.string (ByteArray.mk #[47]),.int .i64 1,.int .i64 1]) (by kernel_rfl)) λ a E=>jO (e:=31) (d:=aO) (cs:=[.string (ByteArray.mk #[47]),.int .i64 1,.int .i64 1]) (xs:=[(⟨(ByteArray.mk #[47]),1,1⟩:aF)]) E H (wn z) z z z (E.evs z) (by kernel_rfl) z z (λ ok hr=>(Rows.single (d:=aO) (cs:=[.string (ByteArray.mk #[47]),.int .i64 1,.int .i64 1]) (x:=(⟨(ByteArray.mk #[47]),1,1⟩:aF)) zR)) λ A w a H E=>have H:=H.thaw (i:=1) z;have H:=H.nilSl aC;have H:=H.thaw (i:=0) z;bd m λ B n m=>xc2 E z (cf_ 9) (Cv (x1:=(⟨([(⟨(ByteArray.mk #[47]),(ByteArray.mk #[]),0,0,0⟩:aG)]:List aG),[]⟩:aR)) H mm2 mm1 m0 n)<|?_
 rintro _ w (⟨rfl,rfl,H⟩ | ⟨o,rfl,C,D,F,p,q,s,t,rfl,H⟩) a E
 ·replace m:=Mv m
  refine pn 1 E z λ a E=>wR<|o1 E z<|?_
  cases m
  exact .inl ⟨z,z,H.reads (λ r hr=>(t3 hr))⟩
 ·replace m:=Mw m
  refine pn 1 E z λ a E=>wR<|o1 E z<|?_
  cases m
  exact .inr ⟨_,z,X7 ⟨z,H.rdx [0,1,2] z (λ r hr=>(t6 hr))⟩⟩

def E4(b:List aV):Option nB:=
  (ck (b.length <= LIM)).bind λ c=>some (b)
theorem Gn{k:Nat}{l b c d e f g i j:Value}{p:List aV}(H:Sep w (Blk k 87 [b,c,d,l,e,f,g,i,j]::Fo) rs)(n:rSl bA l p ∈ rs){r:nB}(m:E4 p=some r) :
    Cf 20 [pt k 0] w λ v w'=>∃ q,q=v/\Sep w' (Row 78 bA q r::Blk k 87 [b,c,d,l,e,f,g,i,j]::Fo) (rs):=by
 unfold E4 at m
 refine ent Tryz.func20 z Tryz.ntmps20 z z λ a E=>sp 1 E z λ a E=>xp 3 E z λ a E=>lb2 E H 0 U58 z λ a E=>bk m λ o m=>xc2 E z (cf_ 60) (nH H n o) λ s w H a E=>pr 1 E z λ a E=>nt<|wR<|o1 E z<|?_
 cases m
 exact ⟨_,z,H.reads Y0⟩

def z7(b:List aF):Option hZ:=
  (ck (b.length <= LIM)).bind λ c=>some (b)
theorem Fd{k:Nat}{l b c d e f g i j:Value}{p:List aF}(H:Sep w (Blk k 87 [b,c,l,d,e,f,g,i,j]::Fo) rs)(n:rSl aO l p ∈ rs){r:hZ}(m:z7 p=some r) :
    Cf 25 [pt k 0] w λ v w'=>∃ q,q=v/\Sep w' (Row 31 aO q r::Blk k 87 [b,c,l,d,e,f,g,i,j]::Fo) (rs):=by
 unfold z7 at m
 refine ent Tryz.func25 z Tryz.ntmps25 z z λ a E=>sp 1 E z λ a E=>xp 3 E z λ a E=>lb2 E H 0 U32 z λ a E=>bk m λ o m=>xc2 E z (cf_ 66) (sV H n o) λ s w H a E=>pr 1 E z λ a E=>nt<|wR<|o1 E z<|?_
 cases m
 exact ⟨_,z,H.reads Y0⟩

def mX(b:List aG)(c:List aM):Option aR:=
  (ck (b.length <= LIM)).bind λ d=>(ck (c.length <= LIM)).bind λ e=>some ((⟨b,c⟩:aR))
theorem E5{p:Nat}{q s d e f g j k l:Value}{b:List aG}{c:List aM}(H:Sep w (Blk p 87 [q,s,d,e,f,g,j,k,l]::Fo) rs)(t:rSl aB q b ∈ rs)(u:rSl aC s c ∈ rs){r:aR}(m:mX b c=some r) :
    Cf 15 [pt p 0] w λ v w'=>∃ A B,.agg #[A,B]=v/\Sep w' (Blk p 87 [q,s,d,e,f,g,j,k,l]::Fo) (rSl aB A r.Nodes::rSl aC B r.Turns::rs):=by
 unfold mX at m
 refine ent Tryz.func15 z Tryz.ntmps15 z z λ a E=>sq<|al2 E H z oC λ C w a H E=>nt<|wS<|dw [(0,0),(1,0),(2,0),(3,0),(4,0),(6,0),(7,0),(8,0),(9,0),(10,0),(5,1),(11,1),(12,0),(13,2)] [1] [] H (by kernel_rfl) (λ _ _ _ h=>False.elim h.2) λ w W0 hI H=>fn 4 E z λ a E=>fb2 E m0 U22 z λ a E=>fn 4 E z λ a E=>fb2 E m0 U23 z λ a E=>bQ z<|bk m λ x m=>xc2 E z (cf_ 56) (uF H t x) λ D w H a E=>nt<|⟨sx H [2] z,bQ z<|bk m λ y m=>xc2 E z (cf_ 57) (uG H u y) λ F w H a E=>nt<|⟨sx H [3] z,?_⟩⟩
 obtain ⟨q36,n,rfl⟩:=H.rowform (i:=1) z
 obtain ⟨q38,o,rfl⟩:=H.rowform (i:=0) z
 refine fv E z (λ w hW=>(cJ E z (E.evs z) (v:=.agg #[(.slice q36 b.length n),(.slice q38 c.length o)]) (by kernel_rfl))) λ a E=>bH z<|ss 2 E H z dF z λ w H=>nt<|bG<|?_
 clear hI
 refine aA<|wR<|oB 2 [(.slice q36 b.length n),(.slice q38 c.length o)] E H U25 z dF<|have H:=H.thaw (i:=1) z;have H:=H.thaw (i:=0) z;have H:=H.drop 0;?_
 cases m
 exact ⟨_,_,z,H.rdx [1,0] z (λ r hr=>(t2 hr))⟩

def G7:Option Bool:=
  W6.bind λ u=>Lh u (some (false)) λ j=>(mG (ByteArray.mk #[47,97])).bind λ p=>(bZ j.1 j.2.1 j.2.2 ([]:List aV) ([]:List aP) ([]:List aE) [] [] [] (⟨1,1,0,0,false,p,(ByteArray.mk #[]),0,0,(⟨[],[]⟩:aR),[],(⟨0,0,(ByteArray.mk #[]),false⟩:aP)⟩:aK)).bind λ d=>(mG (ByteArray.mk #[47,97])).bind λ q=>(bZ d.2.1 d.2.2.1 d.2.2.2.1 d.2.2.2.2.1 d.2.2.2.2.2.1 d.2.2.2.2.2.2.1 d.2.2.2.2.2.2.2.1 d.2.2.2.2.2.2.2.2.1 d.2.2.2.2.2.2.2.2.2 (⟨1,1,0,0,false,q,(ByteArray.mk #[]),0,0,(⟨[],[]⟩:aR),[],(⟨0,0,(ByteArray.mk #[]),false⟩:aP)⟩:aK)).bind λ c=>(mG (ByteArray.mk #[47,97,47,98])).bind λ s=>(bZ c.2.1 c.2.2.1 c.2.2.2.1 c.2.2.2.2.1 c.2.2.2.2.2.1 c.2.2.2.2.2.2.1 c.2.2.2.2.2.2.2.1 c.2.2.2.2.2.2.2.2.1 c.2.2.2.2.2.2.2.2.2 (⟨2,0,5,1,false,s,(ByteArray.mk #[]),0,0,(⟨[],[]⟩:aR),[],(⟨0,0,(ByteArray.mk #[]),false⟩:aP)⟩:aK)).bind λ e=>(mG (ByteArray.mk #[47,97,47,99])).bind λ t=>(bZ e.2.1 e.2.2.1 e.2.2.2.1 e.2.2.2.2.1 e.2.2.2.2.2.1 e.2.2.2.2.2.2.1 e.2.2.2.2.2.2.2.1 e.2.2.2.2.2.2.2.2.1 e.2.2.2.2.2.2.2.2.2 (⟨1,2,0,0,false,t,(ByteArray.mk #[]),0,0,(⟨[],[]⟩:aR),[],(⟨0,0,(ByteArray.mk #[]),false⟩:aP)⟩:aK)).bind λ f=>(bZ f.2.1 f.2.2.1 f.2.2.2.1 f.2.2.2.2.1 f.2.2.2.2.2.1 f.2.2.2.2.2.2.1 f.2.2.2.2.2.2.2.1 f.2.2.2.2.2.2.2.2.1 f.2.2.2.2.2.2.2.2.2 (⟨3,0,5,0,true,[],(ByteArray.mk #[]),0,0,(⟨[],[]⟩:aR),[],(⟨0,0,(ByteArray.mk #[]),false⟩:aP)⟩:aK)).bind λ g=>(bZ g.2.1 g.2.2.1 g.2.2.2.1 g.2.2.2.2.1 g.2.2.2.2.2.1 g.2.2.2.2.2.2.1 g.2.2.2.2.2.2.2.1 g.2.2.2.2.2.2.2.2.1 g.2.2.2.2.2.2.2.2.2 (⟨5,0,0,0,false,[],(ByteArray.mk #[47,97]),1,0,(⟨[],[]⟩:aR),[],(⟨0,0,(ByteArray.mk #[]),false⟩:aP)⟩:aK)).bind λ b=>(mG (ByteArray.mk #[47,97,47,100])).bind λ k=>(bZ b.2.1 b.2.2.1 b.2.2.2.1 b.2.2.2.2.1 b.2.2.2.2.2.1 b.2.2.2.2.2.2.1 b.2.2.2.2.2.2.2.1 b.2.2.2.2.2.2.2.2.1 b.2.2.2.2.2.2.2.2.2 (⟨1,3,0,0,false,k,(ByteArray.mk #[]),0,0,(⟨[],[]⟩:aR),[],(⟨0,0,(ByteArray.mk #[]),false⟩:aP)⟩:aK)).bind λ i=>if (d.1.Err == 0)=true then (if (c.1.Err == 0)=true then (if ((c.1.Results.length:Int) == 2)=true then (if e.1.Yes=true then (if (f.1.Err == 131)=true then (if (g.1.Err == 0)=true then ((mX i.2.1 i.2.2.1).bind λ l=>if ((l.Nodes.length:Int) == 3)=true then (if (b.1.Epoch == 1)=true then (if ((b.1.Store.Nodes.length:Int) == 1)=true then (if (i.1.Err == 131)=true then ((z7 i.2.2.2.1).bind λ m=>if ((m.length:Int) == 2)=true then ((E4 i.2.2.2.2.1).bind λ n=>if ((n.length:Int) == 0)=true then ((xB (⟨[],[]⟩:aR) ([(⟨(ByteArray.mk #[]),0,0⟩:aF)]:List aF)).bind λ o=>Lh o (some (true)) λ v=>some (false)) else (some (false))) else (some (false))) else (some (false))) else (some (false))) else (some (false))) else (some (false))) else (some (false))) else (some (false))) else (some (false))) else (some (false))) else (some (false))) else (some (false))
theorem Ie(H:Sep w (Fo) rs)(G:N2 Tryz.prog ∈ rs){r:Bool}(m:G7=some r) :
    Cf 8 [] w λ v w'=>.bool r=v/\Sep w' (Fo) (rs):=by
 unfold G7 at m
 refine ent Tryz.func8 z Tryz.ntmps8 z z λ a E=>sp 1 E z λ a E=>nx<|bd m λ p1 m6 m=>xc2 E z (cf_ 35) (Ic H m6)<|?_
 rintro _ w (⟨rfl,rfl,H⟩ | ⟨I,rfl,i8,m7,m8,m9,U,V,F,rfl,H⟩) a E
 ·replace m:=Mv m
  refine pn 1 E z λ a E=>wS<|sp 1 E z λ a E=>sv2 E z (xJ E z z z (v:=.bool true) (by kernel_rfl)) λ a E=>nt<|wp_cond_true (E.eval z)<|sq<|pn 1 E z λ a E=>wR<|aH<|o1 E z<|?_
  cases m
  exact ⟨z,H.reads Y0⟩
 ·replace m:=Mw m
  refine pn 1 E z λ a E=>wS<|sp 1 E z λ a E=>sv2 E z (xJ E z z z (v:=.bool false) (by kernel_rfl)) λ a E=>nt<|wp_cond_false (E.eval z)<|wK<|aA<|sp 1 E z λ a E=>bd m λ J k3 m=>xc2 E z (cf_ 36) (sR H k3)<|?_
  rintro _ w ⟨o7,rfl,H⟩ a E
  obtain ⟨q15,c5,rfl⟩:=H.rowform (i:=0) z
  refine sv2 E z (cJ E z (E.evs z) (v:=.agg #[.int .i64 1,.int .i64 1,.int .i64 0,.int .i64 0,.bool false,(.slice q15 J.length c5),.string (ByteArray.mk #[]),.int .i64 0,.int .i64 0,nS,nS,nS,.int .i64 0,.int .i64 0,.string (ByteArray.mk #[]),.bool false]) (by kernel_rfl)) λ a E=>have H:=H.thaw (i:=0) z;have H:=H.nilSl aB;have H:=H.nilSl aC;have H:=H.nilSl kS;have H:=H.nilSl bA;have H:=H.nilSl aS;have H:=H.nilSl aI;bd m λ b k4 m=>xc2 E z (cf_ 13) (kD (x20:=(⟨1,1,0,0,false,J,(ByteArray.mk #[]),0,0,(⟨[],[]⟩:aR),[],(⟨0,0,(ByteArray.mk #[]),false⟩:aP)⟩:aK)) H (t1 mm6) (t2 mm6) (t3 mm6) mm2 mm1 m0 mm6 mm5 mm4 mm3 (t2 (t8 G)) k4)<|?_
  rintro _ w ⟨K,L,M,N,O,P,c6,c7,c8,c9,d0,d1,rfl,H⟩ a E
  refine al2 E H z kM λ c4 w a H E=>ss 0 E H z bU (aZ H m0 mm1 mm2 mm3 mm4 mm5) λ w H=>?_
  replace H:Sep w (Blk c4 48 (aU b.1 K L M N O P)::Blk i8 87 [c6,c7,c8,c9,d0,d1,.map (some U),.map (some V),.map (some F)]::bX Tryz.prog 2 (kyI .i64) bB true U b.2.2.2.2.2.2.2.1::bX Tryz.prog 2 (kyI .i64) dB true V b.2.2.2.2.2.2.2.2.1::bX Tryz.prog 2 (kyI .i64) bB true F b.2.2.2.2.2.2.2.2.2::Fo) _:=H
  refine xp 1 E z λ a E=>bd m λ Q k5 m=>xc2 E z (cf_ 36) (sR H k5)<|?_
  rintro _ w ⟨o8,rfl,H⟩ a E
  obtain ⟨q35,d2,rfl⟩:=H.rowform (i:=0) z
  refine sv2 E z (cJ E z (E.evs z) (v:=.agg #[.int .i64 1,.int .i64 1,.int .i64 0,.int .i64 0,.bool false,(.slice q35 Q.length d2),.string (ByteArray.mk #[]),.int .i64 0,.int .i64 0,nS,nS,nS,.int .i64 0,.int .i64 0,.string (ByteArray.mk #[]),.bool false]) (by kernel_rfl)) λ a E=>have H:=H.thaw (i:=0) z;have H:=H.nilSl aB;have H:=H.nilSl aC;have H:=H.nilSl kS;have H:=H.frs [0,4,4,4,4] z;bd m λ f k6 m=>xc2 E z (cf_ 13) (kD (x20:=(⟨1,1,0,0,false,Q,(ByteArray.mk #[]),0,0,(⟨[],[]⟩:aR),[],(⟨0,0,(ByteArray.mk #[]),false⟩:aP)⟩:aK)) H (t4 mm6) (t5 mm6) (t6 mm6) (t7 mm6) (t8 mm6) (t1 (t8 mm6)) mm3 mm2 mm1 m0 (t2 (t8 (t8 (t8 G)))) k6)<|?_
  rintro _ w ⟨W,X,Y,Z,b0,b1,j6,j7,j8,j9,k0,k1,rfl,H⟩ a E
  refine al2 E H z kM λ d3 w a H E=>ss 0 E H z bU (aZ H m0 mm1 mm2 mm3 mm4 mm5) λ w H=>xp 1 E z λ a E=>bd m λ R k7 m=>xc2 E z (cf_ 36) (sR H k7)<|?_
  rintro _ w ⟨o9,rfl,H⟩ a E
  obtain ⟨q55,d4,rfl⟩:=H.rowform (i:=0) z
  refine sv2 E z (cJ E z (E.evs z) (v:=.agg #[.int .i64 2,.int .i64 0,.int .i64 5,.int .i64 1,.bool false,(.slice q55 R.length d4),.string (ByteArray.mk #[]),.int .i64 0,.int .i64 0,nS,nS,nS,.int .i64 0,.int .i64 0,.string (ByteArray.mk #[]),.bool false]) (by kernel_rfl)) λ a E=>have H:=H.thaw (i:=0) z;have H:=H.nilSl aB;have H:=H.nilSl aC;have H:=H.nilSl kS;have H:=H.frs [5,1,5,5,5,5] z;bd m λ c k8 m=>xc2 E z (cf_ 13) (kD (x20:=(⟨2,0,5,1,false,R,(ByteArray.mk #[]),0,0,(⟨[],[]⟩:aR),[],(⟨0,0,(ByteArray.mk #[]),false⟩:aP)⟩:aK)) H (t4 mm6) (t5 mm6) (t6 mm6) (t7 mm6) (t8 mm6) (t1 (t8 mm6)) mm3 mm2 mm1 m0 (t2 (t8 (t8 (t8 (t8 (t8 G)))))) k8)<|?_
  rintro _ w ⟨b2,b3,b4,b5,b6,b7,d5,d6,d7,d8,d9,e0,rfl,H⟩ a E
  refine al2 E H z kM λ e1 w a H E=>ss 0 E H z bU (aZ H m0 mm1 mm2 mm3 mm4 mm5) λ w H=>xp 1 E z λ a E=>bd m λ S k9 m=>xc2 E z (cf_ 36) (sR H k9)<|?_
  rintro _ w ⟨p0,rfl,H⟩ a E
  obtain ⟨q75,e2,rfl⟩:=H.rowform (i:=0) z
  refine sv2 E z (cJ E z (E.evs z) (v:=.agg #[.int .i64 1,.int .i64 2,.int .i64 0,.int .i64 0,.bool false,(.slice q75 S.length e2),.string (ByteArray.mk #[]),.int .i64 0,.int .i64 0,nS,nS,nS,.int .i64 0,.int .i64 0,.string (ByteArray.mk #[]),.bool false]) (by kernel_rfl)) λ a E=>have H:=H.thaw (i:=0) z;have H:=H.nilSl aB;have H:=H.nilSl aC;have H:=H.nilSl kS;have H:=H.frs [6,6,2,6,6,6,6] z;?_
  replace H:Sep w (Blk i8 87 [d5,d6,d7,d8,d9,e0,.map (some U),.map (some V),.map (some F)]::bX Tryz.prog 2 (kyI .i64) bB true U c.2.2.2.2.2.2.2.1::bX Tryz.prog 2 (kyI .i64) dB true V c.2.2.2.2.2.2.2.2.1::bX Tryz.prog 2 (kyI .i64) bB true F c.2.2.2.2.2.2.2.2.2::Blk e1 48 (aU c.1 b2 b3 b4 b5 b6 b7)::Blk d3 48 (aU f.1 W X Y Z b0 b1)::Blk c4 48 (aU b.1 K L M N O P)::Fo) (rSl kS (nS) ([]:List ByteArray)::rSl aC (nS) ([]:List aM)::rSl aB (nS) ([]:List aG)::rSl bT (.slice q75 S.length e2) S::rSl aY b2 c.1.Results::rSl aB b3 c.1.Store.Nodes::rSl aC b4 c.1.Store.Turns::rSl aQ b5 c.1.Events::rSl bD b6 c.1.Mounts::rSl (kI .i64) b7 c.1.Wounded::rSl aB d5 c.2.1::rSl aC d6 c.2.2.1::rSl aO d7 c.2.2.2.1::rSl bA d8 c.2.2.2.2.1::rSl aS d9 c.2.2.2.2.2.1::rSl aI e0 c.2.2.2.2.2.2.1::rSl kS (nS) ([]:List ByteArray)::rSl aC (nS) ([]:List aM)::rSl aB (nS) ([]:List aG)::rSl bT (.slice q55 R.length d4) R::rSl aY W f.1.Results::rSl aB X f.1.Store.Nodes::rSl aC Y f.1.Store.Turns::rSl aQ Z f.1.Events::rSl bD b0 f.1.Mounts::rSl (kI .i64) b1 f.1.Wounded::rSl aB j6 f.2.1::rSl aC j7 f.2.2.1::rSl aO j8 f.2.2.2.1::rSl bA j9 f.2.2.2.2.1::rSl aS k0 f.2.2.2.2.2.1::rSl aI k1 f.2.2.2.2.2.2.1::rSl kS (nS) ([]:List ByteArray)::rSl aC (nS) ([]:List aM)::rSl aB (nS) ([]:List aG)::rSl bT (.slice q35 Q.length d2) Q::rSl aY K b.1.Results::rSl aB L b.1.Store.Nodes::rSl aC M b.1.Store.Turns::rSl aQ N b.1.Events::rSl bD O b.1.Mounts::rSl (kI .i64) P b.1.Wounded::rSl aB c6 b.2.1::rSl aC c7 b.2.2.1::rSl aO c8 b.2.2.2.1::rSl bA c9 b.2.2.2.2.1::rSl aS d0 b.2.2.2.2.2.1::rSl aI d1 b.2.2.2.2.2.2.1::rSl aI (nS) ([]:List aE)::rSl aS (nS) ([]:List aP)::rSl bA (nS) ([]:List aV)::rSl kS (nS) ([]:List ByteArray)::rSl aC (nS) ([]:List aM)::rSl aB (nS) ([]:List aG)::rSl bT (.slice q15 J.length c5) J::rSl aB m7 I.1::rSl aC m8 I.2.1::rSl aO m9 I.2.2::rs):=H
  refine bd m λ l l0 m=>xc2 E z (cf_ 13) (kD (x20:=(⟨1,2,0,0,false,S,(ByteArray.mk #[]),0,0,(⟨[],[]⟩:aR),[],(⟨0,0,(ByteArray.mk #[]),false⟩:aP)⟩:aK)) H (t4 mm6) (t5 mm6) (t6 mm6) (t7 mm6) (t8 mm6) (t1 (t8 mm6)) mm3 mm2 mm1 m0 (t2 (t8 (t8 (t8 (t8 (t8 (t8 (t8 G)))))))) l0)<|?_
  rintro _ w ⟨e3,e4,e5,e6,e7,e8,n0,n1,n2,n3,n4,n5,rfl,H⟩ a E
  refine al2 E H z kM λ k2 w a H E=>ss 0 E H z bU (aZ H m0 mm1 mm2 mm3 mm4 mm5) λ w H=>xp 1 E z λ a E=>sv2 E z (cJ E z (E.evs z) (v:=.agg #[.int .i64 3,.int .i64 0,.int .i64 5,.int .i64 0,.bool true,nS,.string (ByteArray.mk #[]),.int .i64 0,.int .i64 0,nS,nS,nS,.int .i64 0,.int .i64 0,.string (ByteArray.mk #[]),.bool false]) (by kernel_rfl)) λ a E=>have H:=H.nilSl bT;have H:=H.nilSl aB;have H:=H.nilSl aC;have H:=H.nilSl kS;have H:=H.frs [7,7,7,3,7,7,7,7] z;bd m λ n l1 m=>xc2 E z (cf_ 13) (kD (x20:=(⟨3,0,5,0,true,[],(ByteArray.mk #[]),0,0,(⟨[],[]⟩:aR),[],(⟨0,0,(ByteArray.mk #[]),false⟩:aP)⟩:aK)) H (t4 mm6) (t5 mm6) (t6 mm6) (t7 mm6) (t8 mm6) (t1 (t8 mm6)) mm3 mm2 mm1 m0 (t2 (t8 (t8 (t8 (t8 (t8 (t8 (t8 (t8 (t8 G)))))))))) l1)<|?_
  rintro _ w ⟨e9,f0,f1,f2,f3,f4,l2,l3,l4,l5,l6,l7,rfl,H⟩ a E
  refine al2 E H z kM λ f5 w a H E=>ss 0 E H z bU (aZ H m0 mm1 mm2 mm3 mm4 mm5) λ w H=>xp 1 E z λ a E=>sv2 E z (cJ E z (E.evs z) (v:=.agg #[.int .i64 5,.int .i64 0,.int .i64 0,.int .i64 0,.bool false,nS,.string (ByteArray.mk #[47,97]),.int .i64 1,.int .i64 0,nS,nS,nS,.int .i64 0,.int .i64 0,.string (ByteArray.mk #[]),.bool false]) (by kernel_rfl)) λ a E=>have H:=H.nilSl bT;have H:=H.nilSl aB;have H:=H.nilSl aC;have H:=H.nilSl kS;have H:=H.frs [8,8,8,8,4,8,8,8,8] z;bd m λ g i9 m=>xc2 E z (cf_ 13) (kD (x20:=(⟨5,0,0,0,false,[],(ByteArray.mk #[47,97]),1,0,(⟨[],[]⟩:aR),[],(⟨0,0,(ByteArray.mk #[]),false⟩:aP)⟩:aK)) H (t4 mm6) (t5 mm6) (t6 mm6) (t7 mm6) (t8 mm6) (t1 (t8 mm6)) mm3 mm2 mm1 m0 (t2 (t8 (t8 (t8 (t8 (t8 (t8 (t8 (t8 (t8 (t8 (t8 G)))))))))))) i9)<|?_
  rintro _ w ⟨b8,b9,c0,c1,c2,c3,f6,f7,f8,f9,g0,g1,rfl,H⟩ a E
  refine al2 E H z kM λ g2 w a H E=>ss 0 E H z bU (aZ H m0 mm1 mm2 mm3 mm4 mm5) λ w H=>?_
  replace H:Sep w (Blk g2 48 (aU g.1 b8 b9 c0 c1 c2 c3)::Blk i8 87 [f6,f7,f8,f9,g0,g1,.map (some U),.map (some V),.map (some F)]::bX Tryz.prog 2 (kyI .i64) bB true U g.2.2.2.2.2.2.2.1::bX Tryz.prog 2 (kyI .i64) dB true V g.2.2.2.2.2.2.2.2.1::bX Tryz.prog 2 (kyI .i64) bB true F g.2.2.2.2.2.2.2.2.2::Blk f5 48 (aU n.1 e9 f0 f1 f2 f3 f4)::Blk k2 48 (aU l.1 e3 e4 e5 e6 e7 e8)::Blk e1 48 (aU c.1 b2 b3 b4 b5 b6 b7)::Blk d3 48 (aU f.1 W X Y Z b0 b1)::Blk c4 48 (aU b.1 K L M N O P)::Fo) _:=H
  refine xp 1 E z λ a E=>bd m λ T j0 m=>xc2 E z (cf_ 36) (sR H j0)<|?_
  rintro _ w ⟨n6,rfl,H⟩ a E
  obtain ⟨q125,g3,rfl⟩:=H.rowform (i:=0) z
  refine sv2 E z (cJ E z (E.evs z) (v:=.agg #[.int .i64 1,.int .i64 3,.int .i64 0,.int .i64 0,.bool false,(.slice q125 T.length g3),.string (ByteArray.mk #[]),.int .i64 0,.int .i64 0,nS,nS,nS,.int .i64 0,.int .i64 0,.string (ByteArray.mk #[]),.bool false]) (by kernel_rfl)) λ a E=>have H:=H.thaw (i:=0) z;have H:=H.nilSl aB;have H:=H.nilSl aC;have H:=H.nilSl kS;have H:=H.frs [9,9,9,9,9,5,9,9,9,9] z;bd m λ j j1 m=>xc2 E z (cf_ 13) (kD (x20:=(⟨1,3,0,0,false,T,(ByteArray.mk #[]),0,0,(⟨[],[]⟩:aR),[],(⟨0,0,(ByteArray.mk #[]),false⟩:aP)⟩:aK)) H (t4 mm6) (t5 mm6) (t6 mm6) (t7 mm6) (t8 mm6) (t1 (t8 mm6)) mm3 mm2 mm1 m0 (t2 (t8 (t8 (t8 (t8 (t8 (t8 (t8 (t8 (t8 (t8 (t8 (t8 (t8 G)))))))))))))) j1)<|?_
  rintro _ w ⟨g4,g5,g6,g7,g8,g9,i0,i1,i2,i3,i4,i5,rfl,H⟩ a E
  refine al2 E H z kM λ l8 w a H E=>ss 0 E H z bU (aZ H m0 mm1 mm2 mm3 mm4 mm5) λ w H=>xp 1 E z λ a E=>lb2 E H 10 U41 z λ a E=>pr 2 E z λ a E=>cs m (λ u m=>?_) λ u m=>?_
  ·refine pk 1 E (kc 41 z u) z λ a E=>gl 41 E H 9 u U41 z λ a E=>pk 3 E (kc 41 z u) z λ a E=>cs m (λ p m=>?_) λ p m=>?_
   ·refine pk 1 E (kc 46 z p) z λ a E=>gl 46 E H 9 p U40 z λ a E=>gv 46 E p z (tG E H z z (t2 (t8 (t8 (t8 (t8 (t8 (t8 (t8 (t8 (t8 mm6)))))))))) U40) λ a E=>pk 3 E (kc 46 z p) z λ a E=>cs m (λ y m=>?_) λ y m=>?_
    ·refine pk 1 E (kc 52 z y) z λ a E=>gl 52 E H 8 y U4 z λ a E=>pk 2 E (kc 52 z y) z λ a E=>cs m (λ A m=>?_) λ A m=>?_
     ·refine pk 1 E (kc 56 z A) z λ a E=>gl 56 E H 7 A U41 z λ a E=>pk 3 E (kc 56 z A) z λ a E=>cs m (λ B m=>?_) λ B m=>?_
      ·refine pk 1 E (kc 61 z B) z λ a E=>gl 61 E H 6 B U41 z λ a E=>pk 3 E (kc 61 z B) z λ a E=>cs m (λ o m=>?_) λ o m=>?_
       ·refine pk 1 E (kc 66 z o) z λ a E=>have H:=H.frs [10,10,10,10,10,10,10,10,10,9,10] z;bd m λ i6 j2 m=>gc 66 E o z (cf_ 15) (E5 H mm6 (t1 mm6) j2)<|?_
        rintro _ w ⟨i7,l9,rfl,H⟩ a E
        refine gv 66 E o z (GA E z z (v:=i7) (by kernel_rfl)) λ a E=>gv 66 E o z (tG E H z z m0 U22) λ a E=>pk 3 E (kc 66 z o) z λ a E=>cs m (λ C m=>?_) λ C m=>?_
        ·refine pk 1 E (kc 73 z C) z λ a E=>gl 73 E H 5 C U2 z λ a E=>pk 3 E (kc 73 z C) z λ a E=>cs m (λ q m=>?_) λ q m=>?_
         ·refine pk 2 E (kc 78 z q) z λ a E=>gl 78 E H 5 q U22 z λ a E=>gv 78 E q z (tG E H z z (t5 (t8 mm6)) U22) λ a E=>pk 3 E (kc 78 z q) z λ a E=>cs m (λ D m=>?_) λ D m=>?_
          ·refine pk 1 E (kc 85 z D) z λ a E=>gl 85 E H 1 D U41 z λ a E=>pk 3 E (kc 85 z D) z λ a E=>cs m (λ s m=>?_) λ s m=>?_
           ·refine pk 1 E (kc 90 z s) z λ a E=>bd m λ m1 j3 m=>gc 90 E s z (cf_ 25) (Fd H (t4 mm6) j3)<|?_
            rintro _ w ⟨m2,rfl,H⟩ a E
            refine gv 90 E s z (mZ (i:=0) E H z z z U32) λ a E=>pk 3 E (kc 90 z s) z λ a E=>cs m (λ t m=>?_) λ t m=>?_
            ·refine pk 1 E (kc 96 z t) z λ a E=>have H:=H.frs [11,11,11,11,11,11,11,11,11,11,10,11] z;bd m λ m3 j4 m=>gc 96 E t z (cf_ 20) (Gn H (t5 mm6) j4)<|?_
             rintro _ w ⟨m4,rfl,H⟩ a E
             refine gv 96 E t z (mZ (i:=0) E H z z z U58) λ a E=>pk 3 E (kc 96 z t) z λ a E=>cs m (λ k m=>?_) λ k m=>?_
             ·refine gv 102 E k z (cJ E z (E.evs z) (v:=.agg #[nS,nS]) (by kernel_rfl)) λ a E=>gv 102 E k z (cJ E z (E.evs z) (v:=.agg Vw.toArray) (by kernel_rfl)) λ a E=>jO (e:=31) (d:=aO) (cs:=[.string (ByteArray.mk #[]),.int .i64 0,.int .i64 0]) (xs:=[(⟨(ByteArray.mk #[]),0,0⟩:aF)]) E H (ws' (d:=102) E z z z z k) z z z (E.evs z) (by kernel_rfl) z z (λ ok hr=>(Rows.single (d:=aO) (cs:=[.string (ByteArray.mk #[]),.int .i64 0,.int .i64 0]) (x:=(⟨(ByteArray.mk #[]),0,0⟩:aF)) zR)) λ m5 w a H E=>have H:=H.nilSl aB;have H:=H.nilSl aC;have H:=H.thaw (i:=0) z;?_
              replace H:Sep w (Row 78 bA m4 m3::Blk i8 87 [i0,i1,i2,i3,i4,i5,.map (some U),.map (some V),.map (some F)]::Row 31 aO m2 m1::Blk l8 48 (aU j.1 g4 g5 g6 g7 g8 g9)::bX Tryz.prog 2 (kyI .i64) bB true U j.2.2.2.2.2.2.2.1::bX Tryz.prog 2 (kyI .i64) dB true V j.2.2.2.2.2.2.2.2.1::bX Tryz.prog 2 (kyI .i64) bB true F j.2.2.2.2.2.2.2.2.2::Blk g2 48 (aU g.1 b8 b9 c0 c1 c2 c3)::Blk f5 48 (aU n.1 e9 f0 f1 f2 f3 f4)::Blk k2 48 (aU l.1 e3 e4 e5 e6 e7 e8)::Blk e1 48 (aU c.1 b2 b3 b4 b5 b6 b7)::Blk d3 48 (aU f.1 W X Y Z b0 b1)::Blk c4 48 (aU b.1 K L M N O P)::Fo) (rSl aO m5 ([(⟨(ByteArray.mk #[]),0,0⟩:aF)]:List aF)::rSl aC (nS) ([]:List aM)::rSl aB (nS) ([]:List aG)::rSl aB i7 i6.Nodes::rSl aC l9 i6.Turns::rSl aY g4 j.1.Results::rSl aB g5 j.1.Store.Nodes::rSl aC g6 j.1.Store.Turns::rSl aQ g7 j.1.Events::rSl bD g8 j.1.Mounts::rSl (kI .i64) g9 j.1.Wounded::rSl aB i0 j.2.1::rSl aC i1 j.2.2.1::rSl aO i2 j.2.2.2.1::rSl bA i3 j.2.2.2.2.1::rSl aS i4 j.2.2.2.2.2.1::rSl aI i5 j.2.2.2.2.2.2.1::rSl kS (nS) ([]:List ByteArray)::rSl aC (nS) ([]:List aM)::rSl aB (nS) ([]:List aG)::rSl bT (.slice q125 T.length g3) T::rSl aY b8 g.1.Results::rSl aB b9 g.1.Store.Nodes::rSl aC c0 g.1.Store.Turns::rSl aQ c1 g.1.Events::rSl bD c2 g.1.Mounts::rSl (kI .i64) c3 g.1.Wounded::rSl aB f6 g.2.1::rSl aC f7 g.2.2.1::rSl aO f8 g.2.2.2.1::rSl bA f9 g.2.2.2.2.1::rSl aS g0 g.2.2.2.2.2.1::rSl aI g1 g.2.2.2.2.2.2.1::rSl kS (nS) ([]:List ByteArray)::rSl aC (nS) ([]:List aM)::rSl aB (nS) ([]:List aG)::rSl bT (nS) ([]:List cR)::rSl aY e9 n.1.Results::rSl aB f0 n.1.Store.Nodes::rSl aC f1 n.1.Store.Turns::rSl aQ f2 n.1.Events::rSl bD f3 n.1.Mounts::rSl (kI .i64) f4 n.1.Wounded::rSl aB l2 n.2.1::rSl aC l3 n.2.2.1::rSl aO l4 n.2.2.2.1::rSl bA l5 n.2.2.2.2.1::rSl aS l6 n.2.2.2.2.2.1::rSl aI l7 n.2.2.2.2.2.2.1::rSl kS (nS) ([]:List ByteArray)::rSl aC (nS) ([]:List aM)::rSl aB (nS) ([]:List aG)::rSl bT (nS) ([]:List cR)::rSl aY e3 l.1.Results::rSl aB e4 l.1.Store.Nodes::rSl aC e5 l.1.Store.Turns::rSl aQ e6 l.1.Events::rSl bD e7 l.1.Mounts::rSl (kI .i64) e8 l.1.Wounded::rSl aB n0 l.2.1::rSl aC n1 l.2.2.1::rSl aO n2 l.2.2.2.1::rSl bA n3 l.2.2.2.2.1::rSl aS n4 l.2.2.2.2.2.1::rSl aI n5 l.2.2.2.2.2.2.1::rSl kS (nS) ([]:List ByteArray)::rSl aC (nS) ([]:List aM)::rSl aB (nS) ([]:List aG)::rSl bT (.slice q75 S.length e2) S::rSl aY b2 c.1.Results::rSl aB b3 c.1.Store.Nodes::rSl aC b4 c.1.Store.Turns::rSl aQ b5 c.1.Events::rSl bD b6 c.1.Mounts::rSl (kI .i64) b7 c.1.Wounded::rSl aB d5 c.2.1::rSl aC d6 c.2.2.1::rSl aO d7 c.2.2.2.1::rSl bA d8 c.2.2.2.2.1::rSl aS d9 c.2.2.2.2.2.1::rSl aI e0 c.2.2.2.2.2.2.1::rSl kS (nS) ([]:List ByteArray)::rSl aC (nS) ([]:List aM)::rSl aB (nS) ([]:List aG)::rSl bT (.slice q55 R.length d4) R::rSl aY W f.1.Results::rSl aB X f.1.Store.Nodes::rSl aC Y f.1.Store.Turns::rSl aQ Z f.1.Events::rSl bD b0 f.1.Mounts::rSl (kI .i64) b1 f.1.Wounded::rSl aB j6 f.2.1::rSl aC j7 f.2.2.1::rSl aO j8 f.2.2.2.1::rSl bA j9 f.2.2.2.2.1::rSl aS k0 f.2.2.2.2.2.1::rSl aI k1 f.2.2.2.2.2.2.1::rSl kS (nS) ([]:List ByteArray)::rSl aC (nS) ([]:List aM)::rSl aB (nS) ([]:List aG)::rSl bT (.slice q35 Q.length d2) Q::rSl aY K b.1.Results::rSl aB L b.1.Store.Nodes::rSl aC M b.1.Store.Turns::rSl aQ N b.1.Events::rSl bD O b.1.Mounts::rSl (kI .i64) P b.1.Wounded::rSl aB c6 b.2.1::rSl aC c7 b.2.2.1::rSl aO c8 b.2.2.2.1::rSl bA c9 b.2.2.2.2.1::rSl aS d0 b.2.2.2.2.2.1::rSl aI d1 b.2.2.2.2.2.2.1::rSl aI (nS) ([]:List aE)::rSl aS (nS) ([]:List aP)::rSl bA (nS) ([]:List aV)::rSl kS (nS) ([]:List ByteArray)::rSl aC (nS) ([]:List aM)::rSl aB (nS) ([]:List aG)::rSl bT (.slice q15 J.length c5) J::rSl aB m7 I.1::rSl aC m8 I.2.1::rSl aO m9 I.2.2::rs):=H
              refine bd m λ n7 j5 m=>gc 102 E k z (cf_ 9) (Cv (x1:=(⟨[],[]⟩:aR)) H mm2 mm1 m0 j5)<|?_
              rintro _ w (⟨rfl,rfl,H⟩ | ⟨n8,rfl,n9,o0,o2,o3,o4,o5,o6,rfl,H⟩) a E
              ·replace m:=Mv m
               refine gv 102 E k z (xJ E z z z (v:=.bool true) (by kernel_rfl)) λ a E=>pk 2 E (kc 102 z k) z λ a E=>nt<|wR<|o1 E z<|have H:=H.drs [0,0,0,0,0,0,0,0,0,0,0,0,0];?_
               cases m
               exact ⟨z,H.reads (Y3 (Y8 (Y8 (Y8 (Y8 (Y8 (Y8 (Y8 (Y8 (Y8 (Y8 (Y8 (Y8 (Y8 (Y8 (Y8 Y0))))))))))))))))⟩
              ·replace m:=Mw m
               refine gv 102 E k z (xJ E z z z (v:=.bool false) (by kernel_rfl)) λ a E=>pk 2 E (kc 102 z k) z λ a E=>nt<|wR<|o1 E z<|have H:=H.drs [0,0,0,0,0,0,0,0,0,0,0,0,0,0,0,0,0];?_
               cases m
               exact ⟨z,H.reads (Y6 (Y8 (Y8 (Y8 (Y8 (Y8 (Y8 (Y8 (Y8 (Y8 (Y8 (Y8 (Y8 (Y8 (Y8 (Y8 Y0))))))))))))))))⟩
             ·refine pk 7 E (kc 102 z k) z λ a E=>nt<|wR<|o1 E z<|have H:=H.drs [0,0,0,0,0,0,0,0,0,0,0,0,0];?_
              cases m
              exact ⟨z,H.reads (Y8 (Y8 (Y8 (Y8 (Y8 (Y8 (Y8 (Y8 (Y8 (Y8 (Y8 (Y8 (Y8 (Y8 (Y8 Y0)))))))))))))))⟩
            ·refine pk 13 E (kc 96 z t) z λ a E=>nt<|wR<|o1 E z<|have H:=H.drs [0,0,0,0,0,0,0,0,0,0,0,0];?_
             cases m
             exact ⟨z,H.reads (Y8 (Y8 (Y8 (Y8 (Y8 (Y8 (Y8 (Y8 (Y8 (Y8 (Y8 (Y8 (Y8 (Y8 (Y8 Y0)))))))))))))))⟩
           ·refine pk 19 E (kc 90 z s) z λ a E=>nt<|wR<|o1 E z<|have H:=H.drs [0,0,0,0,0,0,0,0,0,0,0];?_
            cases m
            exact ⟨z,H.reads (Y8 (Y8 (Y8 (Y8 (Y8 (Y8 (Y8 (Y8 (Y8 (Y8 (Y8 (Y8 (Y8 (Y8 (Y8 Y0)))))))))))))))⟩
          ·refine pk 24 E (kc 85 z D) z λ a E=>nt<|wR<|o1 E z<|have H:=H.drs [0,0,0,0,0,0,0,0,0,0,0];?_
           cases m
           exact ⟨z,H.reads (Y8 (Y8 (Y8 (Y8 (Y8 (Y8 (Y8 (Y8 (Y8 (Y8 (Y8 (Y8 (Y8 (Y8 (Y8 Y0)))))))))))))))⟩
         ·refine pk 31 E (kc 78 z q) z λ a E=>nt<|wR<|o1 E z<|have H:=H.drs [0,0,0,0,0,0,0,0,0,0,0];?_
          cases m
          exact ⟨z,H.reads (Y8 (Y8 (Y8 (Y8 (Y8 (Y8 (Y8 (Y8 (Y8 (Y8 (Y8 (Y8 (Y8 (Y8 (Y8 Y0)))))))))))))))⟩
        ·refine pk 36 E (kc 73 z C) z λ a E=>nt<|wR<|o1 E z<|have H:=H.drs [0,0,0,0,0,0,0,0,0,0,0];?_
         cases m
         exact ⟨z,H.reads (Y8 (Y8 (Y8 (Y8 (Y8 (Y8 (Y8 (Y8 (Y8 (Y8 (Y8 (Y8 (Y8 (Y8 (Y8 Y0)))))))))))))))⟩
       ·refine pk 43 E (kc 66 z o) z λ a E=>nt<|wR<|o1 E z<|have H:=H.drs [0,0,0,0,0,0,0,0,0,0,0];?_
        cases m
        exact ⟨z,H.reads (Y6 (Y8 (Y8 (Y8 (Y8 (Y8 (Y8 (Y8 (Y8 (Y8 (Y8 (Y8 (Y8 (Y8 (Y8 Y0)))))))))))))))⟩
      ·refine pk 48 E (kc 61 z B) z λ a E=>nt<|wR<|o1 E z<|have H:=H.drs [0,0,0,0,0,0,0,0,0,0,0];?_
       cases m
       exact ⟨z,H.reads (Y6 (Y8 (Y8 (Y8 (Y8 (Y8 (Y8 (Y8 (Y8 (Y8 (Y8 (Y8 (Y8 (Y8 (Y8 Y0)))))))))))))))⟩
     ·refine pk 53 E (kc 56 z A) z λ a E=>nt<|wR<|o1 E z<|have H:=H.drs [0,0,0,0,0,0,0,0,0,0,0];?_
      cases m
      exact ⟨z,H.reads (Y6 (Y8 (Y8 (Y8 (Y8 (Y8 (Y8 (Y8 (Y8 (Y8 (Y8 (Y8 (Y8 (Y8 (Y8 Y0)))))))))))))))⟩
    ·refine pk 57 E (kc 52 z y) z λ a E=>nt<|wR<|o1 E z<|have H:=H.drs [0,0,0,0,0,0,0,0,0,0,0];?_
     cases m
     exact ⟨z,H.reads (Y6 (Y8 (Y8 (Y8 (Y8 (Y8 (Y8 (Y8 (Y8 (Y8 (Y8 (Y8 (Y8 (Y8 (Y8 Y0)))))))))))))))⟩
   ·refine pk 63 E (kc 46 z p) z λ a E=>nt<|wR<|o1 E z<|have H:=H.drs [0,0,0,0,0,0,0,0,0,0,0];?_
    cases m
    exact ⟨z,H.reads (Y6 (Y8 (Y8 (Y8 (Y8 (Y8 (Y8 (Y8 (Y8 (Y8 (Y8 (Y8 (Y8 (Y8 (Y8 Y0)))))))))))))))⟩
  ·refine pk 68 E (kc 41 z u) z λ a E=>nt<|wR<|o1 E z<|have H:=H.drs [0,0,0,0,0,0,0,0,0,0,0];?_
   cases m
   exact ⟨z,H.reads (Y6 (Y8 (Y8 (Y8 (Y8 (Y8 (Y8 (Y8 (Y8 (Y8 (Y8 (Y8 (Y8 (Y8 (Y8 Y0)))))))))))))))⟩

def mR(x1:aK)(b:Int):Option Bool:=
  if (decide (b ≥ 3000))=true then (some (true)) else (if (decide ((x1.Prefix.size:Int) > 3000))=true then (some (true)) else (if (decide ((x1.Watch.Path.size:Int) > 3000))=true then (some (true)) else ((nE x1.Pieces).bind λ c=>if c=true then (some (true)) else ((qC x1.Store).bind λ d=>some (d)))))
def mS(x1:aK):Nat->Int->Int->Option Bool
  | 0,_,_=>none
  | e+1,b,c=>
    if (decide (c < (x1.Gone.length:Int)))=true then (if (decide (b < 3000))=true then ((idx x1.Gone c).bind λ d=>mS x1 e (IntKind.i64.wrap (b+(min (d.size:Int) 3000))) (IntKind.i64.wrap (c+1))) else (mR x1 b)) else (mR x1 b)
def qH(x1:aK):Option Bool:=
  mS x1 3002 (x1.Gone.length:Int) 0
theorem R8{x1:aK}{x n o y:Value}(H:Sep w (Fo) rs)(D:rSl bT x x1.Pieces ∈ rs)(F:rSl aB n x1.Store.Nodes ∈ rs)(G:rSl aC o x1.Store.Turns ∈ rs)(p:rSl kS y x1.Gone ∈ rs){r:Bool}(m:qH x1=some r) :
    Cf 11 [.agg (aL x1 x n o y).toArray] w λ v w'=>.bool r=v/\Sep w' (Fo) (rs):=by
 unfold qH at m
 refine ent Tryz.func11 z Tryz.ntmps11 z z λ a E=>sq<|bx E H z λ k w a H E=>pr 1 E z λ a E=>xp 1 E z λ a E=>lb2 E H 0 U33 z λ a E=>lS E H p U33 z λ a E=>pr 1 E z λ a E=>nt<|aN (λ a w=>∃ q,Jn 53 a w [(1,pt k 0),(3,.int .i64 q)] (Blk k 37 (aL x1 x n o y)::Fo) rs (mR x1 q=some r)) ?_ ?_
 ·refine sq<|pn 1 E z λ a E=>wB<|bL (λ l a w=>∃ s u,Jn 53 a w [(1,pt k 0),(3,.int .i64 s),(4,.int .i64 u)] (Blk k 37 (aL x1 x n o y)::Fo) rs (mS x1 l s u=some r)) (3002) ?_ ?_
  ·exact X3 ⟨E.to z,H,Y0,m⟩
  ·clear E H m
   rintro l a w ⟨s,u,I,E,H,e,m⟩
   cases l with
   | zero=>exact (bF m z).elim
   | succ l=>
    unfold mS at m
    refine wS<|sp 2 E z λ a E=>lb2 E H 0 U33 z λ a E=>lS E H (e _ p) U33 z λ a E=>pr 2 E z λ a E=>cs m (λ j m=>?_) λ j m=>?_
    ·refine pk 3 E (kc 13 z j) z λ a E=>nt<|wif E m z (λ m=>?_) λ m=>?_
     ·exact wK<|aA<|wS<|wB<|wG<|pr 2 E z λ a E=>lb2 E H 0 U33 z λ a E=>pr 1 E z λ a E=>bd m λ K A m=>dP E H (wn z) z z z z z (e _ p) U33 sz9 A λ q29 a H E=>sv2 E z (vK E H z z m0 U9 z) λ a E=>pr 1 E z λ a E=>sv2 E z (Mn (t:=0) E z z z) λ a E=>pr 2 E z λ a E=>wN<|bR<|aA<|wG<|pn 3 E z λ a E=>⟨l,nL l,X3 ⟨E.to z,H,(Y1 e),m⟩⟩
     ·exact wX<|aW<|aW<|cT<|aA<|⟨_,_,E.to z,H,e,m⟩
    ·exact pk 3 E (kc 13 z j) z λ a E=>nt<|wp_cond_false (E.eval z)<|wX<|aW<|aW<|cT<|aA<|⟨_,_,E.to z,H,e,m⟩
 ·clear E H m
  rintro a w ⟨q,J,E,H,b,m⟩
  unfold mR at m
  refine sp 3 E z λ a E=>cs m (λ f m=>?_) λ f m=>?_
  ·refine pk 23 E (kc 30 z f) z λ a E=>nt<|wR<|o1 E z<|have H:=H.drop 0;?_
   cases m
   exact ⟨z,H.reads b⟩
  ·refine pk 1 E (kc 30 z f) z λ a E=>gl 30 E H 0 f U9 z λ a E=>pk 4 E (kc 30 z f) z λ a E=>cs m (λ g m=>?_) λ g m=>?_
   ·refine pk 17 E (kc 36 z g) z λ a E=>nt<|wR<|o1 E z<|have H:=H.drop 0;?_
    cases m
    exact ⟨z,H.reads b⟩
   ·refine pk 2 E (kc 36 z g) z λ a E=>gl 36 E H 0 g U9 z λ a E=>pk 4 E (kc 36 z g) z λ a E=>cs m (λ c m=>?_) λ c m=>?_
    ·refine pk 10 E (kc 43 z c) z λ a E=>nt<|wR<|o1 E z<|have H:=H.drop 0;?_
     cases m
     exact ⟨z,H.reads b⟩
    ·refine pk 1 E (kc 43 z c) z λ a E=>gl 43 E H 0 c U26 z λ a E=>bd m λ L B m=>gc 43 E c z (cf_ 40) (Ac H (b _ D) B)<|?_
     rintro _ w ⟨rfl,H⟩ a E
     refine pk 2 E (kc 43 z c) z λ a E=>cs m (λ d m=>?_) λ d m=>?_
     ·refine pk 5 E (kc 48 z d) z λ a E=>nt<|wR<|o1 E z<|have H:=H.drop 0;?_
      cases m
      exact ⟨z,H.reads b⟩
     ·refine pk 1 E (kc 48 z d) z λ a E=>gv 48 E d z (L3 (i:=0) (us:=[n,o]) E H z z z z U25 z dF) λ a E=>bd m λ M C m=>gc 48 E d z (cf_ 10) (R6 H (b _ F) (b _ G) C)<|?_
      rintro _ w ⟨rfl,H⟩ a E
      refine pk 2 E (kc 48 z d) z λ a E=>nt<|wR<|o1 E z<|have H:=H.drop 0;?_
      cases m
      exact ⟨z,H.reads b⟩

def qS(rec_1:Int->Int->Option Bool)(d:Int)(e:aK)(b:aK)(f:Int)(c:Bool):Option Bool:=
  if c=true then (some (true)) else (rec_1 (IntKind.i64.wrap ((IntKind.i64.wrap ((IntKind.i64.wrap (d+1))+(IntKind.i64.wrap (2 * (e.Pieces.length:Int)))))+(b.Store.Nodes.length:Int))) (IntKind.i64.wrap (f+1)))
def gI(b:List aK):Nat->Int->Int->Option Bool
  | 0,_,_=>none
  | g+1,e,c=>
    if (decide (c < (b.length:Int)))=true then ((idx b c).bind λ f=>(idx b c).bind λ d=>(idx b c).bind λ i=>(qH i).bind λ j=>if j=true then (qS (gI b g) e f d c true) else (qS (gI b g) e f d c (decide ((IntKind.i64.wrap ((IntKind.i64.wrap ((IntKind.i64.wrap (e+1))+(IntKind.i64.wrap (2 * (f.Pieces.length:Int)))))+(d.Store.Nodes.length:Int))) > 600)))) else (some (false))
def tQ(b:List aK):Option Bool:=
  if (decide ((b.length:Int) > 60))=true then (some (true)) else (gI b (((b.length:Int) - 0:Int).toNat+1) 0 0)
theorem Gp{n:Value}{f:List aK}(H:Sep w (Fo) rs)(e:rSl wC n f ∈ rs){r:Bool}(m:tQ f=some r) :
    Cf 18 [n] w λ v w'=>.bool r=v/\Sep w' (Fo) (rs):=by
 unfold tQ at m
 refine ent Tryz.func18 z Tryz.ntmps18 z z λ a E=>sq<|pn 1 E z λ a E=>wS<|sp 1 E z λ a E=>lS E H e U54 z λ a E=>pr 1 E z λ a E=>nt<|wif E m z (λ m=>?_) λ m=>?_
 ·refine sq<|pn 1 E z λ a E=>wR<|aH<|o1 E z<|?_
  cases m
  exact ⟨z,H.reads Y0⟩
 ·refine wK<|aA<|sq<|pn 1 E z λ a E=>wS<|sq<|pn 1 E z λ a E=>wB<|bL (λ c a w=>∃ g i,Jn 41 a w [(0,n),(3,.int .i64 g),(4,.int .i64 i)] (Fo) rs (gI f c g i=some r)) (((f.length:Int) - 0:Int).toNat+1) ?_ ?_
  ·exact X3 ⟨E.to z,H,Y0,m⟩
  ·clear E H m
   rintro c a w ⟨g,i,M,E,H,b,m⟩
   cases c with
   | zero=>exact (bF m z).elim
   | succ c=>
    unfold gI at m
    refine wS<|sp 2 E z λ a E=>lS E H (b _ e) U54 z λ a E=>pn 1 E z λ a E=>wif E m z (λ m=>?_) λ m=>?_
    ·refine wK<|aA<|wS<|wB<|wS<|?_
     obtain ⟨Z,H⟩:=H.raw (b _ e)
     refine dw [(0,0),(1,0),(2,0),(3,0),(4,0),(5,0),(6,0),(7,0),(8,0),(9,0),(10,0),(11,0),(12,0),(13,0),(14,0),(15,0),(16,0),(17,0),(18,2)] [] [0] H (by kernel_rfl) (λ _ _ _ h=>False.elim h.2) λ w W0 hI H=>fn 4 E z λ a E=>bd m λ K p m=>?_
     obtain ⟨q11,N,q,s⟩:=fB (P:=Tryz.prog) (k:=.i64) hI (fA (.head _)) U54 yZ p
     refine fv E z (λ w hW=>gO E z z z (q w)) λ a E=>?_
     have t:=pF s (λ _ _ _ h=>Jy h)
     refine fn 1 E z λ a E=>?_
     obtain ⟨O,u,x⟩:=Mq (P:=Tryz.prog) hI t U26 z
     refine fv E z (λ w hW=>kK E z z (u w hW)) λ a E=>fv E z (λ w hW=>Zv E z z (Zu (DR.ir x) U26 w hW)) λ a E=>fn 4 E z λ a E=>bd m λ o y m=>?_
     obtain ⟨q21,Q,A,B⟩:=fB (P:=Tryz.prog) (k:=.i64) hI (fA (.head _)) U54 yZ y
     refine fv E z (λ w hW=>gO E z z z (A w)) λ a E=>?_
     have C:=pF B (λ _ _ _ h=>Jz h)
     refine fn 1 E z λ a E=>?_
     have D:=pF C (λ _ _ _ h=>Nj h)
     refine fn 1 E z λ a E=>?_
     obtain ⟨R,F,G⟩:=Mq (P:=Tryz.prog) hI D U22 z
     refine fv E z (λ w hW=>kK E z z (F w hW)) λ a E=>fv E z (λ w hW=>Zv E z z (Zu (DR.ir G) U22 w hW)) λ a E=>fn 1 E z λ a E=>bH z<|pn 1 E z λ a E=>bG<|?_
     clear hI
     refine aA<|aN (λ a w=>∃ j,Jn 41 a w [(0,n),(3,.int .i64 (IntKind.i64.wrap ((IntKind.i64.wrap ((IntKind.i64.wrap (g+1))+(IntKind.i64.wrap (2 * (K.Pieces.length:Int)))))+(o.Store.Nodes.length:Int)))),(4,.int .i64 i),(40,.bool j)] (Fo) rs (qS (gI f c) g K o i j=some r)) ?_ ?_
     ·refine wG<|pr 2 E z λ a E=>bd m λ S I m=>dP E H (wn z) z z z z z (t1 (b _ e)) U54 yZ I λ q35 a H E=>Am E H (wn z) z z z z m0 U37 z yZ λ T a H E=>?_
      obtain ⟨U,V,W,X,rfl,h⟩:=Fx H;clear H;have H:=h
      refine bd m λ Y J m=>xk2 E z (cf_ 11) (R8 H mm3 mm2 mm1 m0 J) λ w H a E=>pr 1 E z λ a E=>cs m (λ d m=>?_) λ d m=>?_
      ·exact pk 3 E (kc 37 z d) z λ a E=>nt<|⟨_,_,E.to z,H,(Y7 b),m⟩
      ·exact pk 3 E (kc 37 z d) z λ a E=>nt<|⟨_,_,E.to z,H,(Y7 b),m⟩
     ·clear E H m
      rintro a w ⟨j,L,E,H,l,m⟩
      unfold qS at m
      refine wif E m z (λ m=>?_) λ m=>?_
      ·refine sq<|pn 1 E z λ a E=>wR<|bM<|aH<|aH<|bM<|aH<|o1 E z<|?_
       cases m
       exact ⟨z,H.reads l⟩
      ·exact wK<|bR<|aA<|wG<|pn 3 E z λ a E=>⟨c,nL c,X3 ⟨E.to z,H,l,m⟩⟩
    ·refine wX<|aW<|aW<|cT<|aA<|sq<|pn 1 E z λ a E=>wR<|o1 E z<|?_
     cases m
     exact ⟨z,H.reads b⟩

def qT(b:Int):Option Bool:=
  some (decide (b ≥ 3000))
def mT(c:List aF):Nat->Int->Int->Option Bool
  | 0,_,_=>none
  | f+1,b,d=>
    if (decide (d < (c.length:Int)))=true then (if (decide (b < 3000))=true then ((idx c d).bind λ e=>mT c f (IntKind.i64.wrap (b+(min (e.Prefix.size:Int) 3000))) (IntKind.i64.wrap (d+1))) else (qT b)) else (qT b)
def tR(b:List aF):Option Bool:=
  mT b 3002 (b.length:Int) 0
theorem Gq{f:Value}{g:List aF}(H:Sep w (Fo) rs)(e:rSl aO f g ∈ rs){r:Bool}(m:tR g=some r) :
    Cf 17 [f] w λ v w'=>.bool r=v/\Sep w' (Fo) (rs):=by
 unfold tR at m
 refine ent Tryz.func17 z Tryz.ntmps17 z z λ a E=>sp 1 E z λ a E=>xp 1 E z λ a E=>lS E H e U32 z λ a E=>pn 1 E z λ a E=>aN (λ a w=>∃ i,Jn 28 a w [(3,.int .i64 i)] (Fo) rs (qT i=some r)) ?_ ?_
 ·refine sq<|pn 1 E z λ a E=>wB<|bL (λ d a w=>∃ j k,Jn 28 a w [(0,f),(3,.int .i64 j),(4,.int .i64 k)] (Fo) rs (mT g d j k=some r)) (3002) ?_ ?_
  ·exact X3 ⟨E.to z,H,Y0,m⟩
  ·clear E H m
   rintro d a w ⟨j,k,p,E,H,b,m⟩
   cases d with
   | zero=>exact (bF m z).elim
   | succ d=>
    unfold mT at m
    refine wS<|sp 2 E z λ a E=>lS E H (b _ e) U32 z λ a E=>pr 2 E z λ a E=>cs m (λ c m=>?_) λ c m=>?_
    ·refine pk 3 E (kc 11 z c) z λ a E=>nt<|wif E m z (λ m=>?_) λ m=>?_
     ·exact wK<|aA<|wS<|wB<|wG<|pr 3 E z λ a E=>bd m λ n l m=>dP E H (wn z) z z z z z (b _ e) U32 kA l λ q14 a H E=>have H:=H.derive1 m0 (rAt kS (q14.add 0) n.Prefix) (λ ok h=>Nh h);pr 1 E z λ a E=>sv2 E z (vK E H z z m0 U9 z) λ a E=>pr 1 E z λ a E=>sv2 E z (Mn (t:=0) E z z z) λ a E=>pr 2 E z λ a E=>wN<|bR<|aA<|wG<|pn 3 E z λ a E=>⟨d,nL d,X3 ⟨E.to z,H,(Y2 b),m⟩⟩
     ·exact wX<|aW<|aW<|cT<|aA<|⟨_,_,E.to z,H,b,m⟩
    ·exact pk 3 E (kc 11 z c) z λ a E=>nt<|wp_cond_false (E.eval z)<|wX<|aW<|aW<|cT<|aA<|⟨_,_,E.to z,H,b,m⟩
 ·clear E H m
  rintro a w ⟨i,q,E,H,o,m⟩
  unfold qT at m
  refine sq<|pn 3 E z λ a E=>wR<|o1 E z<|?_
  cases m
  exact ⟨z,H.reads o⟩

def iK(d:eA)(e:fT):Nat->Int->eA->Option aT
  | 0,_,_=>none
  | i+1,b,c=>
    if (decide (b < (d.length:Int)))=true then ((idx c b).bind λ f=>(ck (f.Events.length <= LIM)).bind λ j=>(idx c b).bind λ g=>iK d e i (IntKind.i64.wrap (b+1)) (c.set b.toNat ({ g with Events:=f.Events }:aE))) else (some ((⟨e,c⟩:aT)))
def sS(c:fT)(b:eA):Option aT:=
  iK b c (((b.length:Int) - 0:Int).toNat+1) 0 b
def lG(b:List aP)(c:List aE):Option aT:=
  (ck (b.length <= LIM)).bind λ d=>(ck (c.length <= LIM)).bind λ e=>sS b c
theorem O4{b:Nat}{c e f g j l n o p:Value}{y:List aP}{A:List aE}(H:Sep w (Blk b 87 [f,g,j,l,c,e,n,o,p]::Fo) rs)(M:rSl aS c y ∈ rs)(C:rSl aI e A ∈ rs){r:aT}(m:lG y A=some r) :
    Cf 32 [pt b 0] w λ v w'=>∃ b2 b3,.agg #[b2,b3]=v/\Sep w' (Blk b 87 [f,g,j,l,c,e,n,o,p]::Fo) (rSl aS b2 r.Watches::rSl aI b3 r.Sessions::rs):=by
 unfold lG at m
 refine ent Tryz.func32 z Tryz.ntmps32 z z λ a E=>sq<|al2 E H z P9 λ I w a H E=>nt<|aN (λ a w=>∃ B q s t u,Jn 38 a w [(2,pt I 0),(3,pt B 0)] (Blk I 73 [nS,nS]::Blk B 73 [q,s]::Blk b 87 [f,g,j,l,c,e,n,o,p]::Row 35 aS q t::Row 126 aI s u::Fo) rs (sS t u=some r)) ?_ ?_
 ·refine bk m λ N m=>bk m λ D m=>?_
  have hI:dG [Blk b 87 [f,g,j,l,c,e,n,o,p]] [] { w with drawn:=w.drawn+1 }:=⟨_,_,H.kept (Kp.drawn _ w _),(aJ mm1 (bC)),(bI)⟩
  refine nX _ (.go 0 0 (.go 1 0 (.go 2 0 (.go 3 0 (.go 4 0 (.go 6 0 (.go 7 0 (.go 8 0 (.go 9 0 (.go 10 0 (.alt 5 (.alt 11 (.go 12 0 (.go 13 1 (.go 14 2 .nil))) 13 (.go 11 1 (.go 12 0 (.go 14 2 .nil)))) 13 (.go 5 1 (.go 11 1 (.go 12 0 (.go 14 2 .nil))))))))))))))) [14] oT (by kernel_rfl) (λ _ _ _ h=>False.elim h.2) hI<|have H:=H.kept (Kp.drawn _ w (w.drawn+1));?_
  generalize ({ w with drawn:=w.drawn+1 }:World)=w at H hI ⊢
  replace hI:∃ W,dG [Blk b 87 [f,g,j,l,c,e,n,o,p]] [] W:=⟨_,hI⟩
  obtain ⟨W0,hI⟩:=hI
  refine om E z λ a E=>ov E z (λ w hW=>(yI E z z)) λ a E=>ov E z (λ w hW=>lY E z z (v:=pt b 4) (Hj _ _)) λ a E=>ov E z (λ w hW=>lY E z z (v:=pt b 4) (Tu _ _)) λ a E=>ol E m0 U70 z λ a E=>om E z λ a E=>ov E z (λ w hW=>(yI E z z)) λ a E=>ov E z (λ w hW=>lY E z z (v:=pt b 4) (Hj _ _)) λ a E=>ov E z (λ w hW=>lY E z z (v:=pt b 5) (Tw _ _)) λ a E=>ol E m0 U71 z λ a E=>nY z z ?_ ?_
  ·refine xc2 E z (cf_ 74) (eM H M N) λ c6 w H a E=>nt<|⟨sx H [2] z,nY z z ?_ ?_⟩
   ·refine xc2 E z (cf_ 75) (dI H C D) λ c7 w H a E=>nt<|⟨sx H [3] z,?_⟩
    obtain ⟨q98,b4,rfl⟩:=H.rowform (i:=1) z
    obtain ⟨q100,U,rfl⟩:=H.rowform (i:=0) z
    refine ov E z (λ w hW=>(cJ E z (E.evs z) (v:=.agg #[(.slice q98 y.length b4),(.slice q100 A.length U)]) (by kernel_rfl))) λ a E=>cH z<|al2 E H z P9 λ b8 w a H E=>nt<|⟨sx H [4] z,cV z<|ss 0 E H z fM z λ w H=>nt<|eO<|?_⟩
    clear hI
    exact aA<|have H:=H.frs [1,2,4,3,4] z;X6 ⟨E.to z,H,Y0,m⟩
   ·refine al2 E H z P9 λ b9 w a H E=>nt<|⟨sx H [3] z,cH z<|xc2 E z (cf_ 75) (dI H C D) λ c0 w H a E=>nt<|⟨sx H [4] z,?_⟩⟩
    obtain ⟨q107,V,rfl⟩:=H.rowform (i:=2) z
    obtain ⟨q109,X,rfl⟩:=H.rowform (i:=0) z
    refine ov E z (λ w hW=>(cJ E z (E.evs z) (v:=.agg #[(.slice q107 y.length V),(.slice q109 A.length X)]) (by kernel_rfl))) λ a E=>cV z<|ss 1 E H z fM z λ w H=>nt<|eO<|?_
    clear hI
    exact aA<|have H:=H.frs [0,2,4,3,4] z;X6 ⟨E.to z,H,Y0,m⟩
  ·refine al2 E H z P9 λ c1 w a H E=>nt<|⟨sx H [2] z,cH z<|xc2 E z (cf_ 74) (eM H M N) λ c2 w H a E=>nt<|⟨sx H [3] z,cH z<|xc2 E z (cf_ 75) (dI H C D) λ c3 w H a E=>nt<|⟨sx H [4] z,?_⟩⟩⟩
   obtain ⟨q118,Y,rfl⟩:=H.rowform (i:=1) z
   obtain ⟨q120,Z,rfl⟩:=H.rowform (i:=0) z
   refine ov E z (λ w hW=>(cJ E z (E.evs z) (v:=.agg #[(.slice q118 y.length Y),(.slice q120 A.length Z)]) (by kernel_rfl))) λ a E=>cV z<|ss 2 E H z fM z λ w H=>nt<|eO<|?_
   clear hI
   exact aA<|have H:=H.frs [0,1,4,3,4] z;X6 ⟨E.to z,H,Y0,m⟩
 ·clear E H m
  rintro a w ⟨B,q,s,t,u,c4,E,H,b0,m⟩
  unfold sS at m
  refine wS<|sp 1 E z λ a E=>lb2 E H 1 U71 z λ a E=>sv2 E z (mZ (i:=4) E H z z z U71) λ a E=>pn 1 E z λ a E=>wB<|bL (λ L a w=>∃ O J,Jn 38 a w [(2,pt I 0),(3,pt B 0),(20,.int .i64 (u.length:Int)),(21,.int .i64 O)] (Blk I 73 [nS,nS]::Blk B 73 [q,s]::Blk b 87 [f,g,j,l,c,e,n,o,p]::Row 35 aS q t::Row 126 aI s J::Fo) rs (iK u t L O J=some r)) (((u.length:Int) - 0:Int).toNat+1) ?_ ?_
  ·exact X3 ⟨E.to z,H,b0,m⟩
  ·clear E H m
   rintro L a w ⟨O,J,c5,E,H,P,m⟩
   cases L with
   | zero=>exact (bF m z).elim
   | succ L=>
    unfold iK at m
    refine sq<|pn 1 E z λ a E=>wS<|wif E m z (λ m=>?_) λ m=>?_
    ·refine wK<|aA<|wS<|wB<|sq<|pn 2 E z λ a E=>dz [0,0,0,0,0,0,0,0,1,1,2,2,2] [1] H λ w W0 hI H=>fn 1 E z λ a E=>fb2 E m0 U71 z λ a E=>fn 2 E z λ a E=>fb2 E m0 U71 z λ a E=>fn 1 E z λ a E=>bd m λ K F m=>?_
     obtain ⟨c8,c9,Q⟩:=H.rowformNE (i:=4) z F
     refine fv E z (λ w hW=>dE (d:=aI) E Q z z z z U71 rU F) λ a E=>fn 1 E z λ a E=>bQ z<|F3 (i:=4) (k:=2) E H Q (wn z) z z z z z F z U44 z λ d0 a H E=>?_
     obtain ⟨_,hcs⟩:=H.rd (.head _)
     obtain ⟨S,rfl,-⟩:=dK hcs
     clear hcs
     refine have H:=H.derive1 m0 (rSl aQ S K.Events) (λ ok h=>hP h);?_
     replace E:Env 38 a ((32,S)::_):=E
     refine nt<|⟨sx H [1] z,bQ z<|bk m λ b1 m=>xc2 E z (cf_ 76) (eL H m0 b1) λ d1 w H a E=>nt<|⟨sx H [2] z,bH z<|bd m λ T G m=>?_⟩⟩
     obtain ⟨d2,d3,R⟩:=H.rowformNE (i:=5) z G
     refine sv2 E z (dE (d:=aI) E R z z z z U71 rU G) λ a E=>nt<|bH z<|pn 1 E z λ a E=>bH z<|?_
     obtain ⟨q56,b5,rfl⟩:=H.rowform (i:=0) z
     refine have H:=H.thaw (i:=0) z;I3 (i:=4) (k:=2) (us:=[(.slice q56 K.Events.length b5)]) (y':=({ T with Events:=K.Events }:aE)) E H R (wn z) z z z z z z G z Ty z (λ ok cs hr h=>by obtain ⟨d4,rfl,g1⟩:=dK h;exact mA (x:=({ T with Events:=K.Events }:aE)) (hr _ m0)) λ w H=>nt<|bG<|?_
     clear hI
     exact bR<|aA<|wG<|pn 2 E z λ a E=>⟨L,nL L,X3 ⟨E.to z,H,(Y3 P),m⟩⟩
    ·refine wX<|aW<|aW<|cT<|aA<|sq<|ln 1 [q,s] E H U73 z fM λ a E=>?_
     obtain ⟨q58,b6,rfl⟩:=H.rowform (i:=3) z
     obtain ⟨q60,b7,rfl⟩:=H.rowform (i:=4) z
     refine ss 0 E H z fM z λ w H=>nt<|wR<|oB 0 [(.slice q58 t.length b6),(.slice q60 J.length b7)] E H U73 z fM<|have H:=H.thaw (i:=3) z;have H:=H.thaw (i:=3) z;have H:=H.drs [0,0];?_
     cases m
     exact ⟨_,_,z,H.rdx [1,0] z (λ r hr=>(t2 (P r hr)))⟩

def gL(e:List bP)(f:List bP):Nat->Int->Option Bool
  | 0,_=>none
  | g+1,d=>
    if (decide (d < (e.length:Int)))=true then ((idx e d).bind λ b=>(idx f d).bind λ c=>if (!((b.Num == c.Num) && ((b.Kind == c.Kind) && ((sEq b.Path c.Path) && (b.Watch == c.Watch)))))=true then (some (false)) else (gL e f g (IntKind.i64.wrap (d+1)))) else (some (true))
def lH(b:List bP)(c:List bP):Option Bool:=
  if ((b.length:Int) != (c.length:Int))=true then (some (false)) else (gL b c (((b.length:Int) - 0:Int).toNat+1) 0)
theorem G8{j l:Value}{g n:List bP}(H:Sep w (Fo) rs)(f:rSl aQ j g ∈ rs)(i:rSl aQ l n ∈ rs){r:Bool}(m:lH g n=some r) :
    Cf 62 [j,l] w λ v w'=>.bool r=v/\Sep w' (Fo) (rs):=by
 unfold lH at m
 refine ent Tryz.func62 z Tryz.ntmps62 z z λ a E=>sq<|pn 1 E z λ a E=>wS<|sp 1 E z λ a E=>lS E H f U44 z λ a E=>pr 1 E z λ a E=>lS E H i U44 z λ a E=>pn 1 E z λ a E=>wif E m z (λ m=>?_) λ m=>?_
 ·refine sq<|pn 1 E z λ a E=>wR<|aH<|o1 E z<|?_
  cases m
  exact ⟨z,H.reads Y0⟩
 ·refine wK<|aA<|wS<|sq<|pn 1 E z λ a E=>wB<|bL (λ e a w=>∃ o,Jn 26 a w [(0,j),(1,l),(5,.int .i64 o)] (Fo) rs (gL g n e o=some r)) (((g.length:Int) - 0:Int).toNat+1) ?_ ?_
  ·exact ⟨_,_,E.to z,H,Y0,m⟩
  ·clear E H m
   rintro e a w ⟨o,y,E,H,d,m⟩
   cases e with
   | zero=>exact (bF m z).elim
   | succ e=>
    unfold gL at m
    refine wS<|sp 2 E z λ a E=>lS E H (d _ f) U44 z λ a E=>pn 1 E z λ a E=>wif E m z (λ m=>?_) λ m=>?_
    ·refine wK<|aA<|wS<|wB<|wS<|?_
     obtain ⟨A,H⟩:=H.raw (d _ f)
     obtain ⟨B,H⟩:=H.raw (t1 (d _ i))
     refine dw [(0,0),(1,0),(2,0),(3,0),(4,0),(5,0),(6,0),(7,0),(8,0)] [] [1,0] H (by kernel_rfl) (λ _ _ _ h=>False.elim h.2) λ w W0 hI H=>fn 2 E z λ a E=>bd m λ b p m=>?_
     obtain ⟨q14,C,q,s⟩:=fB (P:=Tryz.prog) (k:=.i64) hI (fA (.head _)) U44 vN p
     refine fv E z (λ w hW=>gO E z z z (q w)) λ a E=>fv E z (λ w hW=>kK E z z (yJ (cs:=[.int .i64 b.Num,.int .i64 b.Kind,.string b.Path,.int .i64 b.Watch]) (DR.ir (w9 s)) (λ _ _ _ h=>M7 h) Ek z vN w hW)) λ a E=>fn 2 E z λ a E=>bd m λ c t m=>?_
     obtain ⟨q20,D,u,x⟩:=fB (P:=Tryz.prog) (k:=.i64) hI (fA (.tail _ (.head _))) U44 vN t
     refine fv E z (λ w hW=>gO E z z z (u w)) λ a E=>fv E z (λ w hW=>kK E z z (yJ (cs:=[.int .i64 c.Num,.int .i64 c.Kind,.string c.Path,.int .i64 c.Watch]) (DR.ir (w9 x)) (λ _ _ _ h=>M7 h) Ek z vN w hW)) λ a E=>fv E z (λ w hW=>(xJ E z z z (v:=.bool (!((b.Num == c.Num) && ((b.Kind == c.Kind) && ((sEq b.Path c.Path) && (b.Watch == c.Watch)))))) (Gu MR (V8 Ek MQ (rX (by rfl) (by kernel_rfl) (by kernel_rfl) (A3 U2) (rX (by rfl) (by kernel_rfl) (by kernel_rfl) (A3 U3) (rX (by rfl) (by kernel_rfl) (by kernel_rfl) (O1 U9) (Ao (by rfl) (by kernel_rfl) (by kernel_rfl) (A3 U2))))))))) λ a E=>bG<|?_
     clear hI
     refine aA<|wif E m z (λ m=>?_) λ m=>?_
     ·refine sq<|pn 1 E z λ a E=>wR<|bM<|aH<|aH<|bM<|aH<|o1 E z<|?_
      cases m
      exact ⟨z,H.reads (Y2 d)⟩
     ·exact wK<|bR<|aA<|wG<|pn 3 E z λ a E=>⟨e,nL e,_,_,E.to z,H,(Y2 d),m⟩
    ·refine wX<|aW<|aW<|cT<|aA<|sq<|pn 1 E z λ a E=>wR<|o1 E z<|?_
     cases m
     exact ⟨z,H.reads d⟩

def hJ(c:List Int)(d:List Int):Nat->Int->Option Bool
  | 0,_=>none
  | g+1,b=>
    if (decide (b < (c.length:Int)))=true then ((idx c b).bind λ e=>(idx d b).bind λ f=>if (e != f)=true then (some (false)) else (hJ c d g (IntKind.i64.wrap (b+1)))) else (some (true))
def qU(b:List Int)(c:List Int):Option Bool:=
  if ((b.length:Int) != (c.length:Int))=true then (some (false)) else (hJ b c (((b.length:Int) - 0:Int).toNat+1) 0)
theorem Cw{g i:Value}{e j:List Int}(H:Sep w (Fo) rs)(d:rSl (kI .i64) g e ∈ rs)(f:rSl (kI .i64) i j ∈ rs){r:Bool}(m:qU e j=some r) :
    Cf 63 [g,i] w λ v w'=>.bool r=v/\Sep w' (Fo) (rs):=by
 unfold qU at m
 refine ent Tryz.func63 z Tryz.ntmps63 z z λ a E=>sq<|pn 1 E z λ a E=>wS<|sp 1 E z λ a E=>lS E H d U46 z λ a E=>pr 1 E z λ a E=>lS E H f U46 z λ a E=>pn 1 E z λ a E=>wif E m z (λ m=>?_) λ m=>?_
 ·refine sq<|pn 1 E z λ a E=>wR<|aH<|o1 E z<|?_
  cases m
  exact ⟨z,H.reads Y0⟩
 ·refine wK<|aA<|wS<|sq<|pn 1 E z λ a E=>wB<|bL (λ c a w=>∃ l,Jn 26 a w [(0,g),(1,i),(5,.int .i64 l)] (Fo) rs (hJ e j c l=some r)) (((e.length:Int) - 0:Int).toNat+1) ?_ ?_
  ·exact ⟨_,_,E.to z,H,Y0,m⟩
  ·clear E H m
   rintro c a w ⟨l,u,E,H,b,m⟩
   cases c with
   | zero=>exact (bF m z).elim
   | succ c=>
    unfold hJ at m
    refine wS<|sp 2 E z λ a E=>lS E H (b _ d) U46 z λ a E=>pn 1 E z λ a E=>wif E m z (λ m=>?_) λ m=>?_
    ·refine wK<|aA<|wS<|wB<|wS<|?_
     obtain ⟨x,H⟩:=H.raw (b _ d)
     obtain ⟨y,H⟩:=H.raw (t1 (b _ f))
     refine dw [(0,0),(1,0),(2,0),(3,0),(4,0),(5,0),(6,0),(7,0),(8,0)] [] [1,0] H (by kernel_rfl) (λ _ _ _ h=>False.elim h.2) λ w W0 hI H=>fn 2 E z λ a E=>bd m λ A n m=>?_
     obtain ⟨q14,B,o,p⟩:=fB (P:=Tryz.prog) (k:=.i64) hI (fA (.head _)) U46 sz2 n
     refine fv E z (λ w hW=>gO E z z z (o w)) λ a E=>fa E z (wn z) z z z z p U2 z λ a E=>fn 2 E z λ a E=>bd m λ C q m=>?_
     obtain ⟨q20,D,s,t⟩:=fB (P:=Tryz.prog) (k:=.i64) hI (fA (.tail _ (.head _))) U46 sz2 q
     refine fv E z (λ w hW=>gO E z z z (s w)) λ a E=>fa E z (wn z) z z z z t U2 z λ a E=>fn 1 E z λ a E=>bG<|?_
     clear hI
     refine aA<|wif E m z (λ m=>?_) λ m=>?_
     ·refine sq<|pn 1 E z λ a E=>wR<|bM<|aH<|aH<|bM<|aH<|o1 E z<|?_
      cases m
      exact ⟨z,H.reads (Y2 b)⟩
     ·exact wK<|bR<|aA<|wG<|pn 3 E z λ a E=>⟨c,nL c,_,_,E.to z,H,(Y2 b),m⟩
    ·refine wX<|aW<|aW<|cT<|aA<|sq<|pn 1 E z λ a E=>wR<|o1 E z<|?_
     cases m
     exact ⟨z,H.reads b⟩

def rS(x1:aX)(e:aX):Nat->Int->Option Bool
  | 0,_=>none
  | k+1,b=>
    if (decide (b < (x1.Mounts.length:Int)))=true then ((idx x1.Mounts b).bind λ c=>(idx e.Mounts b).bind λ d=>if (!((sEq c.Prefix d.Prefix) && ((c.Group == d.Group) && ((c.Epoch == d.Epoch) && (c.To == d.To)))))=true then (some (false)) else (rS x1 e k (IntKind.i64.wrap (b+1)))) else ((qR x1.Results e.Results).bind λ f=>if f=true then ((oE x1.Store e.Store).bind λ g=>if g=true then ((lH x1.Events e.Events).bind λ i=>if i=true then ((qU x1.Wounded e.Wounded).bind λ j=>some (j)) else (some (false))) else (some (false))) else (some (false)))
def iZ(x1:aX)(c:aX)(b:Bool):Option Bool:=
  if b=true then (some (false)) else (rS x1 c (((x1.Mounts.length:Int) - 0:Int).toNat+1) 0)
def vG(x1:aX)(b:aX):Option Bool:=
  if (x1.Err != b.Err)=true then (iZ x1 b true) else (if (x1.At != b.At)=true then (iZ x1 b true) else (if (x1.Yes != b.Yes)=true then (iZ x1 b true) else (if (x1.Epoch != b.Epoch)=true then (iZ x1 b true) else (iZ x1 b ((x1.Mounts.length:Int) != (b.Mounts.length:Int))))))
theorem Ig{x1 n:aX}{L D F M N O Q q s u x y:Value}(H:Sep w (Fo) rs)(R:rSl aY L x1.Results ∈ rs)(S:rSl aB D x1.Store.Nodes ∈ rs)(T:rSl aC F x1.Store.Turns ∈ rs)(U:rSl aQ M x1.Events ∈ rs)(t:rSl bD N x1.Mounts ∈ rs)(V:rSl (kI .i64) O x1.Wounded ∈ rs)(W:rSl aY Q n.Results ∈ rs)(X:rSl aB q n.Store.Nodes ∈ rs)(Y:rSl aC s n.Store.Turns ∈ rs)(Z:rSl aQ u n.Events ∈ rs)(G:rSl bD x n.Mounts ∈ rs)(b0:rSl (kI .i64) y n.Wounded ∈ rs){r:Bool}(m:vG x1 n=some r) :
    Cf 22 [.agg (aU x1 L D F M N O).toArray,.agg (aU n Q q s u x y).toArray] w λ v w'=>.bool r=v/\Sep w' (Fo) (rs):=by
 unfold vG at m
 refine ent Tryz.func22 z Tryz.ntmps22 z z λ a E=>sq<|bx E H z λ A w a H E=>bx E H z λ B w a H E=>pn 1 E z λ a E=>wS<|aN (λ a w=>∃ I,Jn 85 a w [(2,pt A 0),(3,pt B 0),(40,.bool I)] (Blk A 48 (aU x1 L D F M N O)::Blk B 48 (aU n Q q s u x y)::Fo) rs (iZ x1 n I=some r)) ?_ ?_
 ·refine wG<|pr 1 E z λ a E=>lb2 E H 1 U41 z λ a E=>pr 1 E z λ a E=>lb2 E H 0 U41 z λ a E=>pr 2 E z λ a E=>cs m (λ j m=>?_) λ j m=>?_
  ·exact pk 29 E (kc 11 z j) z λ a E=>nt<|have H:=H.frs [0,1] z;⟨_,_,E.to z,H,Y0,m⟩
  ·refine pk 1 E (kc 11 z j) z λ a E=>gl 11 E H 1 j U3 z λ a E=>pk 1 E (kc 11 z j) z λ a E=>gl 11 E H 0 j U3 z λ a E=>pk 3 E (kc 11 z j) z λ a E=>cs m (λ d m=>?_) λ d m=>?_
   ·exact pk 22 E (kc 18 z d) z λ a E=>nt<|have H:=H.frs [0,1] z;⟨_,_,E.to z,H,Y0,m⟩
   ·refine pk 1 E (kc 18 z d) z λ a E=>gl 18 E H 1 d U4 z λ a E=>pk 1 E (kc 18 z d) z λ a E=>gl 18 E H 0 d U4 z λ a E=>gv 18 E d z (xJ E z z z (v:=.bool (x1.Yes != n.Yes)) (by kernel_rfl)) λ a E=>pk 2 E (kc 18 z d) z λ a E=>cs m (λ l m=>?_) λ l m=>?_
    ·exact pk 15 E (kc 25 z l) z λ a E=>nt<|have H:=H.frs [0,1] z;⟨_,_,E.to z,H,Y0,m⟩
    ·refine pk 1 E (kc 25 z l) z λ a E=>gl 25 E H 1 l U2 z λ a E=>pk 1 E (kc 25 z l) z λ a E=>gl 25 E H 0 l U2 z λ a E=>pk 3 E (kc 25 z l) z λ a E=>cs m (λ c m=>?_) λ c m=>?_
     ·exact pk 8 E (kc 32 z c) z λ a E=>nt<|have H:=H.frs [0,1] z;⟨_,_,E.to z,H,Y0,m⟩
     ·exact pk 1 E (kc 32 z c) z λ a E=>gl 32 E H 1 c U45 z λ a E=>gv 32 E c z (tG E H z z t U45) λ a E=>pk 1 E (kc 32 z c) z λ a E=>gl 32 E H 0 c U45 z λ a E=>gv 32 E c z (tG E H z z G U45) λ a E=>pk 2 E (kc 32 z c) z λ a E=>nt<|have H:=H.frs [0,1] z;⟨_,_,E.to z,H,Y0,m⟩
 ·clear E H m
  rintro a w ⟨I,c1,E,H,J,m⟩
  unfold iZ at m
  refine wif E m z (λ m=>?_) λ m=>?_
  ·refine sq<|pn 1 E z λ a E=>wR<|aH<|o1 E z<|have H:=H.drs [0,0];?_
   cases m
   exact ⟨z,H.reads J⟩
  ·refine wK<|aA<|wS<|sq<|pn 1 E z λ a E=>wB<|bL (λ C a w=>∃ K,Jn 85 a w [(2,pt A 0),(3,pt B 0),(5,.int .i64 K)] (Blk A 48 (aU x1 L D F M N O)::Blk B 48 (aU n Q q s u x y)::Fo) rs (rS x1 n C K=some r)) (((x1.Mounts.length:Int) - 0:Int).toNat+1) ?_ ?_
   ·exact ⟨_,_,E.to z,H,J,m⟩
   ·clear E H m
    rintro C a w ⟨K,c2,E,H,b,m⟩
    cases C with
    | zero=>exact (bF m z).elim
    | succ C=>
     unfold rS at m
     refine wS<|sp 2 E z λ a E=>lb2 E H 0 U45 z λ a E=>lS E H (b _ t) U45 z λ a E=>pn 1 E z λ a E=>wif E m z (λ m=>?_) λ m=>?_
     ·refine wK<|aA<|wS<|wB<|wS<|?_
      obtain ⟨c3,H⟩:=H.raw (b _ t)
      obtain ⟨c4,H⟩:=H.raw (t1 (b _ G))
      refine dw [(0,0),(1,0),(2,0),(3,0),(4,0),(5,0),(6,0),(7,0),(8,0),(9,0),(10,0)] [0,1] [1,0] H (by kernel_rfl) (λ _ _ _ h=>False.elim h.2) λ w W0 hI H=>fn 1 E z λ a E=>fb2 E m0 U45 z λ a E=>fn 1 E z λ a E=>bd m λ o b1 m=>?_
      obtain ⟨q39,c5,b2,b3⟩:=fB (P:=Tryz.prog) (k:=.i64) hI (fA (.head _)) U45 Sb b1
      refine fv E z (λ w hW=>gO E z z z (b2 w)) λ a E=>fv E z (λ w hW=>kK E z z (yJ (cs:=[.string o.Prefix,.int .i64 o.Group,.int .i64 o.Epoch,.int .i64 o.To]) (DR.ir (w9 b3)) (λ _ _ _ h=>Au h) DS z Sb w hW)) λ a E=>fn 1 E z λ a E=>fb2 E mm1 U45 z λ a E=>fn 1 E z λ a E=>bd m λ p b4 m=>?_
      obtain ⟨q45,c6,b5,b6⟩:=fB (P:=Tryz.prog) (k:=.i64) hI (fA (.tail _ (.head _))) U45 Sb b4
      refine fv E z (λ w hW=>gO E z z z (b5 w)) λ a E=>fv E z (λ w hW=>kK E z z (yJ (cs:=[.string p.Prefix,.int .i64 p.Group,.int .i64 p.Epoch,.int .i64 p.To]) (DR.ir (w9 b6)) (λ _ _ _ h=>Au h) DS z Sb w hW)) λ a E=>fv E z (λ w hW=>(xJ E z z z (v:=.bool (!((sEq o.Prefix p.Prefix) && ((o.Group == p.Group) && ((o.Epoch == p.Epoch) && (o.To == p.To)))))) (Gu MO (V8 DS MN (rX (by rfl) (by kernel_rfl) (by kernel_rfl) (O1 U9) (rX (by rfl) (by kernel_rfl) (by kernel_rfl) (A3 U3) (rX (by rfl) (by kernel_rfl) (by kernel_rfl) (A3 U2) (Ao (by rfl) (by kernel_rfl) (by kernel_rfl) (A3 U3))))))))) λ a E=>bG<|?_
      clear hI
      refine aA<|wif E m z (λ m=>?_) λ m=>?_
      ·refine sq<|pn 1 E z λ a E=>wR<|bM<|aH<|aH<|bM<|aH<|o1 E z<|have H:=H.drs [0,0];?_
       cases m
       exact ⟨z,H.reads (Y2 b)⟩
      ·exact wK<|bR<|aA<|wG<|pn 3 E z λ a E=>⟨C,nL C,_,_,E.to z,H,(Y2 b),m⟩
     ·refine wX<|aW<|aW<|cT<|aA<|sp 1 E z λ a E=>lb2 E H 0 U40 z λ a E=>pr 1 E z λ a E=>lb2 E H 1 U40 z λ a E=>bd m λ c7 b7 m=>xk2 E z (cf_ 16) (Cs H (b _ R) (b _ W) b7) λ w H a E=>pr 1 E z λ a E=>cs m (λ e m=>?_) λ e m=>?_
      ·refine pk 1 E (kc 64 z e) z λ a E=>gv 64 E e z (L3 (i:=0) (us:=[D,F]) E H z z z z U25 z dF) λ a E=>pk 1 E (kc 64 z e) z λ a E=>gv 64 E e z (L3 (i:=1) (us:=[q,s]) E H z z z z U25 z dF) λ a E=>bd m λ c8 b8 m=>gc 64 E e z (cf_ 14) (W4 H (b _ S) (b _ T) (b _ X) (b _ Y) b8)<|?_
       rintro _ w ⟨rfl,H⟩ a E
       refine pk 2 E (kc 64 z e) z λ a E=>cs m (λ f m=>?_) λ f m=>?_
       ·refine pk 1 E (kc 71 z f) z λ a E=>gl 71 E H 0 f U44 z λ a E=>pk 1 E (kc 71 z f) z λ a E=>gl 71 E H 1 f U44 z λ a E=>bd m λ c9 b9 m=>gc 71 E f z (cf_ 62) (G8 H (b _ U) (b _ Z) b9)<|?_
        rintro _ w ⟨rfl,H⟩ a E
        refine pk 2 E (kc 71 z f) z λ a E=>cs m (λ g m=>?_) λ g m=>?_
        ·refine pk 1 E (kc 78 z g) z λ a E=>gl 78 E H 0 g U46 z λ a E=>pk 1 E (kc 78 z g) z λ a E=>gl 78 E H 1 g U46 z λ a E=>bd m λ d0 c0 m=>gc 78 E g z (cf_ 63) (Cw H (b _ V) (b _ b0) c0)<|?_
         rintro _ w ⟨rfl,H⟩ a E
         refine pk 2 E (kc 78 z g) z λ a E=>nt<|wR<|o1 E z<|have H:=H.drs [0,0];?_
         cases m
         exact ⟨z,H.reads b⟩
        ·refine pk 7 E (kc 78 z g) z λ a E=>nt<|wR<|o1 E z<|have H:=H.drs [0,0];?_
         cases m
         exact ⟨z,H.reads b⟩
       ·refine pk 14 E (kc 71 z f) z λ a E=>nt<|wR<|o1 E z<|have H:=H.drs [0,0];?_
        cases m
        exact ⟨z,H.reads b⟩
      ·refine pk 21 E (kc 64 z e) z λ a E=>nt<|wR<|o1 E z<|have H:=H.drs [0,0];?_
       cases m
       exact ⟨z,H.reads b⟩

def nR(rec_2:Int->Option Bool)(b:Int)(c:Bool):Option Bool:=
  if c=true then (some (false)) else (rec_2 (IntKind.i64.wrap (b+1)))
def fH(x1:aT)(c:aT):Nat->Int->Option Bool
  | 0,_=>none
  | d+1,b=>
    if (decide (b < (x1.Sessions.length:Int)))=true then ((idx x1.Sessions b).bind λ e=>(idx c.Sessions b).bind λ f=>if (e.Num != f.Num)=true then (nR (fH x1 c d) b true) else ((idx x1.Sessions b).bind λ g=>(idx c.Sessions b).bind λ i=>if (g.Count != i.Count)=true then (nR (fH x1 c d) b true) else ((idx x1.Sessions b).bind λ j=>(idx c.Sessions b).bind λ k=>(lH j.Events k.Events).bind λ l=>nR (fH x1 c d) b (!l)))) else (some (true))
def lI(x1:aT)(e:aT):Nat->Int->Option Bool
  | 0,_=>none
  | f+1,b=>
    if (decide (b < (x1.Watches.length:Int)))=true then ((idx x1.Watches b).bind λ c=>(idx e.Watches b).bind λ d=>if (!((c.Session == d.Session) && ((c.Num == d.Num) && ((sEq c.Path d.Path) && (c.Deep == d.Deep)))))=true then (some (false)) else (lI x1 e f (IntKind.i64.wrap (b+1)))) else (fH x1 e (((x1.Sessions.length:Int) - 0:Int).toNat+1) 0)
def rT(x1:aT)(c:aT)(b:Bool):Option Bool:=
  if b=true then (some (false)) else (lI x1 c (((x1.Watches.length:Int) - 0:Int).toNat+1) 0)
def vH(x1:aT)(b:aT):Option Bool:=
  if ((x1.Watches.length:Int) != (b.Watches.length:Int))=true then (rT x1 b true) else (rT x1 b ((x1.Sessions.length:Int) != (b.Sessions.length:Int)))
theorem Ih{x1 p:aT}{s t u x:Value}(H:Sep w (Fo) rs)(A:rSl aS s x1.Watches ∈ rs)(B:rSl aI t x1.Sessions ∈ rs)(K:rSl aS u p.Watches ∈ rs)(C:rSl aI x p.Sessions ∈ rs){r:Bool}(m:vH x1 p=some r) :
    Cf 34 [.agg #[s,t],.agg #[u,x]] w λ v w'=>.bool r=v/\Sep w' (Fo) (rs):=by
 unfold vH at m
 refine ent Tryz.func34 z Tryz.ntmps34 z z λ a E=>sq<|bx E H z λ i w a H E=>bx E H z λ j w a H E=>pn 1 E z λ a E=>wS<|aN (λ a w=>∃ D,Jn 92 a w [(2,pt i 0),(3,pt j 0),(22,.bool D)] (Blk i 73 [s,t]::Blk j 73 [u,x]::Fo) rs (rT x1 p D=some r)) ?_ ?_
 ·refine wG<|pr 1 E z λ a E=>lb2 E H 1 U70 z λ a E=>lS E H A U70 z λ a E=>pr 1 E z λ a E=>lb2 E H 0 U70 z λ a E=>lS E H K U70 z λ a E=>pr 2 E z λ a E=>cs m (λ e m=>?_) λ e m=>?_
  ·exact pk 8 E (kc 14 z e) z λ a E=>nt<|have H:=H.frs [0,1] z;⟨_,_,E.to z,H,Y0,m⟩
  ·exact pk 1 E (kc 14 z e) z λ a E=>gl 14 E H 1 e U71 z λ a E=>gv 14 E e z (tG E H z z B U71) λ a E=>pk 1 E (kc 14 z e) z λ a E=>gl 14 E H 0 e U71 z λ a E=>gv 14 E e z (tG E H z z C U71) λ a E=>pk 2 E (kc 14 z e) z λ a E=>nt<|have H:=H.frs [0,1] z;⟨_,_,E.to z,H,Y0,m⟩
 ·clear E H m
  rintro a w ⟨D,d1,E,H,F,m⟩
  unfold rT at m
  refine wif E m z (λ m=>?_) λ m=>?_
  ·refine sq<|pn 1 E z λ a E=>wR<|aH<|o1 E z<|have H:=H.drs [0,0];?_
   cases m
   exact ⟨z,H.reads F⟩
  ·refine wK<|aA<|wS<|sq<|pn 1 E z λ a E=>wB<|bL (λ y a w=>∃ G,Jn 92 a w [(2,pt i 0),(3,pt j 0),(5,.int .i64 G)] (Blk i 73 [s,t]::Blk j 73 [u,x]::Fo) rs (lI x1 p y G=some r)) (((x1.Watches.length:Int) - 0:Int).toNat+1) ?_ ?_
   ·exact ⟨_,_,E.to z,H,F,m⟩
   ·clear E H m
    rintro y a w ⟨G,d2,E,H,g,m⟩
    cases y with
    | zero=>exact (bF m z).elim
    | succ y=>
     unfold lI at m
     refine wS<|sp 2 E z λ a E=>lb2 E H 0 U70 z λ a E=>lS E H (g _ A) U70 z λ a E=>pn 1 E z λ a E=>wif E m z (λ m=>?_) λ m=>?_
     ·refine wK<|aA<|wS<|wB<|wS<|?_
      obtain ⟨d5,H⟩:=H.raw (g _ A)
      obtain ⟨d6,H⟩:=H.raw (t1 (g _ K))
      refine dw [(0,0),(1,0),(2,0),(3,0),(4,0),(5,0),(6,0),(7,0),(8,0),(9,0),(10,0)] [0,1] [1,0] H (by kernel_rfl) (λ _ _ _ h=>False.elim h.2) λ w W0 hI H=>fn 1 E z λ a E=>fb2 E m0 U70 z λ a E=>fn 1 E z λ a E=>bd m λ l L m=>?_
      obtain ⟨q23,d7,M,N⟩:=fB (P:=Tryz.prog) (k:=.i64) hI (fA (.head _)) U70 tW L
      refine fv E z (λ w hW=>gO E z z z (M w)) λ a E=>fv E z (λ w hW=>kK E z z (yJ (cs:=[.int .i64 l.Session,.int .i64 l.Num,.string l.Path,.bool l.Deep]) (DR.ir (w9 N)) (λ _ _ _ h=>y4 h) U35 z tW w hW)) λ a E=>fn 1 E z λ a E=>fb2 E mm1 U70 z λ a E=>fn 1 E z λ a E=>bd m λ n O m=>?_
      obtain ⟨q29,d8,Q,R⟩:=fB (P:=Tryz.prog) (k:=.i64) hI (fA (.tail _ (.head _))) U70 tW O
      refine fv E z (λ w hW=>gO E z z z (Q w)) λ a E=>fv E z (λ w hW=>kK E z z (yJ (cs:=[.int .i64 n.Session,.int .i64 n.Num,.string n.Path,.bool n.Deep]) (DR.ir (w9 R)) (λ _ _ _ h=>y4 h) U35 z tW w hW)) λ a E=>fv E z (λ w hW=>(xJ E z z z (v:=.bool (!((l.Session == n.Session) && ((l.Num == n.Num) && ((sEq l.Path n.Path) && (l.Deep == n.Deep)))))) (Gu PT (V8 U35 PS (rX (by rfl) (by kernel_rfl) (by kernel_rfl) (A3 U2) (rX (by rfl) (by kernel_rfl) (by kernel_rfl) (A3 U2) (rX (by rfl) (by kernel_rfl) (by kernel_rfl) (O1 U9) (Ao (by rfl) (by kernel_rfl) (by kernel_rfl) (GC U4))))))))) λ a E=>bG<|?_
      clear hI
      refine aA<|wif E m z (λ m=>?_) λ m=>?_
      ·refine sq<|pn 1 E z λ a E=>wR<|bM<|aH<|aH<|bM<|aH<|o1 E z<|have H:=H.drs [0,0];?_
       cases m
       exact ⟨z,H.reads (Y2 g)⟩
      ·exact wK<|bR<|aA<|wG<|pn 3 E z λ a E=>⟨y,nL y,_,_,E.to z,H,(Y2 g),m⟩
     ·refine wX<|aW<|aW<|cT<|aA<|wS<|sq<|pn 1 E z λ a E=>wB<|bL (λ q a w=>∃ o,Jn 92 a w [(2,pt i 0),(3,pt j 0),(6,.int .i64 o)] (Blk i 73 [s,t]::Blk j 73 [u,x]::Fo) rs (fH x1 p q o=some r)) (((x1.Sessions.length:Int) - 0:Int).toNat+1) ?_ ?_
      ·exact ⟨_,_,E.to z,H,g,m⟩
      ·clear E H m
       rintro q a w ⟨o,d3,E,H,f,m⟩
       cases q with
       | zero=>exact (bF m z).elim
       | succ q=>
        unfold fH at m
        refine wS<|sp 2 E z λ a E=>lb2 E H 0 U71 z λ a E=>lS E H (f _ B) U71 z λ a E=>pn 1 E z λ a E=>wif E m z (λ m=>?_) λ m=>?_
        ·refine wK<|aA<|wS<|wB<|aN (λ a w=>∃ I,Jn 92 a w [(2,pt i 0),(3,pt j 0),(6,.int .i64 o),(91,.bool I)] (Blk i 73 [s,t]::Blk j 73 [u,x]::Fo) rs (nR (fH x1 p q) o I=some r)) ?_ ?_
         ·obtain ⟨d9,H⟩:=H.raw (f _ B)
          obtain ⟨e0,H⟩:=H.raw (t1 (f _ C))
          refine dw [(0,0),(1,0),(2,0),(3,0),(4,0),(5,0),(6,0),(7,0),(8,0),(9,0),(10,0),(11,0),(12,0),(13,0),(14,0),(15,0),(16,0),(17,0),(18,0),(19,0),(20,0),(21,0),(22,0),(23,0),(24,0),(25,0),(26,0),(27,0),(28,0),(29,0),(30,0),(31,0),(32,0),(33,0),(34,0),(35,0),(36,0),(37,0),(38,0),(39,0),(40,0),(41,1),(42,0),(43,0)] [0,1] [1,0] H (by kernel_rfl) (λ _ _ _ h=>False.elim h.2) λ w W0 hI H=>fn 1 E z λ a E=>fb2 E m0 U71 z λ a E=>fn 1 E z λ a E=>bd m λ e1 S m=>?_
          obtain ⟨q43,e2,T,U⟩:=fB (P:=Tryz.prog) (k:=.i64) hI (fA (.head _)) U71 rU S
          refine fv E z (λ w hW=>gO E z z z (T w)) λ a E=>?_
          have V:=pF U (λ _ _ _ h=>zL h)
          refine fn 1 E z λ a E=>fa E z (wn z) z z z z V U2 z λ a E=>fn 1 E z λ a E=>fb2 E mm1 U71 z λ a E=>fn 1 E z λ a E=>bd m λ e3 W m=>?_
          obtain ⟨q50,e4,X,Y⟩:=fB (P:=Tryz.prog) (k:=.i64) hI (fA (.tail _ (.head _))) U71 rU W
          refine fv E z (λ w hW=>gO E z z z (X w)) λ a E=>?_
          have Z:=pF Y (λ _ _ _ h=>zL h)
          refine fn 1 E z λ a E=>fa E z (wn z) z z z z Z U2 z λ a E=>fn 2 E z λ a E=>cs m (λ c m=>?_) λ c m=>?_
          ·refine fk 27 E (kc 61 z c) z λ a E=>bQ z<|pn 1 E z λ a E=>⟨⟨_,_,H,(aJ m0 (aJ mm1 (bC))),(aD mm1 (aD m0 (bI)))⟩,fn 2 E z λ a E=>bG<|?_⟩
           clear hI
           exact aA<|⟨_,_,E.to z,H,(Y2 f),m⟩
          ·refine fk 1 E (kc 61 z c) z λ a E=>fb E z (ws' (d:=61) E z z z z c) z z z z m0 z U71 z λ a E=>fk 1 E (kc 61 z c) z λ a E=>bd m λ e5 b0 m=>?_
           obtain ⟨q58,e6,b1,b2⟩:=fB (P:=Tryz.prog) (k:=.i64) hI (fA (.head _)) U71 rU b0
           refine dL E z (ws' (d:=61) E z z z z c) z z (λ w hW=>gO E z z z (b1 w)) λ a E=>?_
           have b3:=pF b2 (λ _ _ _ h=>Z3 h)
           refine fk 1 E (kc 61 z c) z λ a E=>fa E z (ws' (d:=61) E z z z z c) z z z z b3 U2 z λ a E=>fk 1 E (kc 61 z c) z λ a E=>fb E z (ws' (d:=61) E z z z z c) z z z z mm1 z U71 z λ a E=>fk 1 E (kc 61 z c) z λ a E=>bd m λ e7 b4 m=>?_
           obtain ⟨q65,e8,b5,b6⟩:=fB (P:=Tryz.prog) (k:=.i64) hI (fA (.tail _ (.head _))) U71 rU b4
           refine dL E z (ws' (d:=61) E z z z z c) z z (λ w hW=>gO E z z z (b5 w)) λ a E=>?_
           have b7:=pF b6 (λ _ _ _ h=>Z3 h)
           refine fk 1 E (kc 61 z c) z λ a E=>fa E z (ws' (d:=61) E z z z z c) z z z z b7 U2 z λ a E=>fk 3 E (kc 61 z c) z λ a E=>cs m (λ b m=>?_) λ b m=>?_
           ·refine fk 12 E (kc 76 z b) z λ a E=>bQ z<|pk 1 E (kc 76 z b) z λ a E=>nt<|⟨⟨_,_,H,(aJ m0 (aJ mm1 (bC))),(aD mm1 (aD m0 (bI)))⟩,fk 2 E (kc 76 z b) z λ a E=>bG<|?_⟩
            clear hI
            exact aA<|⟨_,_,E.to z,H,(Y2 f),m⟩
           ·refine fk 1 E (kc 76 z b) z λ a E=>fb E z (ws' (d:=76) E z z z z b) z z z z m0 z U71 z λ a E=>fk 1 E (kc 76 z b) z λ a E=>bd m λ e9 b8 m=>?_
            obtain ⟨q73,f0,b9,c0⟩:=fB (P:=Tryz.prog) (k:=.i64) hI (fA (.head _)) U71 rU b8
            refine dL E z (ws' (d:=76) E z z z z b) z z (λ w hW=>gO E z z z (b9 w)) λ a E=>?_
            have c1:=pF c0 (λ _ _ _ h=>Z4 h)
            refine fk 1 E (kc 76 z b) z λ a E=>?_
            obtain ⟨f1,c2,c3⟩:=Mq (P:=Tryz.prog) hI c1 U44 z
            refine dL E z (ws' (d:=76) E z z z z b) z z (λ w hW=>kK E z z (c2 w hW)) λ a E=>fk 1 E (kc 76 z b) z λ a E=>fb E z (ws' (d:=76) E z z z z b) z z z z mm1 z U71 z λ a E=>fk 1 E (kc 76 z b) z λ a E=>bd m λ f2 c4 m=>?_
            obtain ⟨q83,f3,c5,c6⟩:=fB (P:=Tryz.prog) (k:=.i64) hI (fA (.tail _ (.head _))) U71 rU c4
            refine dL E z (ws' (d:=76) E z z z z b) z z (λ w hW=>gO E z z z (c5 w)) λ a E=>?_
            have c7:=pF c6 (λ _ _ _ h=>Z4 h)
            refine fk 1 E (kc 76 z b) z λ a E=>?_
            obtain ⟨f4,c8,c9⟩:=Mq (P:=Tryz.prog) hI c7 U44 z
            refine dL E z (ws' (d:=76) E z z z z b) z z (λ w hW=>kK E z z (c8 w hW)) λ a E=>have H:=H.dr (aD mm1 (aD m0 (bI))) c3;have H:=H.dr (aD mm2 (aD mm1 (bI))) c9;bQ z<|bd m λ f5 d0 m=>gc 76 E b z (cf_ 62) (G8 H mm1 m0 d0)<|?_
            rintro _ w ⟨rfl,H⟩ a E
            refine nt<|⟨⟨_,_,H,(aJ m0 (aJ mm1 (bC))),(aD mm3 (aD mm2 (bI)))⟩,fk 2 E (kc 76 z b) z λ a E=>bG<|?_⟩
            clear hI
            exact aA<|⟨_,_,E.to z,H,(Y4 f),m⟩
         ·clear E H m
          rintro a w ⟨I,d4,E,H,J,m⟩
          unfold nR at m
          refine wif E m z (λ m=>?_) λ m=>?_
          ·refine sq<|pn 1 E z λ a E=>wR<|bM<|aH<|aH<|bM<|aH<|o1 E z<|have H:=H.drs [0,0];?_
           cases m
           exact ⟨z,H.reads J⟩
          ·exact wK<|bR<|aA<|wG<|pn 3 E z λ a E=>⟨q,nL q,_,_,E.to z,H,J,m⟩
        ·refine wX<|aW<|aW<|cT<|aA<|sq<|pn 1 E z λ a E=>wR<|o1 E z<|have H:=H.drs [0,0];?_
         cases m
         exact ⟨z,H.reads f⟩

def jK(e:List aK)(l:Int)(c:aK)(m:Bool)(n:aX×dZ×dR×hZ×nB×fT×eA×sB×Ab×sB):Nat->Int->dZ->dR->hZ->nB->fT->eA->sB->Ab->sB->Option Bool
  | 0,_,_,_,_,_,_,_,_,_,_=>none
  | D+1,f,g,i,o,p,j,k,q,s,t=>
    if (decide (f < (e.length:Int)))=true then ((idx e f).bind λ u=>(bZ g i o p j k q s t u).bind λ b=>jK e l c m n D (IntKind.i64.wrap (f+1)) b.2.1 b.2.2.1 b.2.2.2.1 b.2.2.2.2.1 b.2.2.2.2.2.1 b.2.2.2.2.2.2.1 b.2.2.2.2.2.2.2.1 b.2.2.2.2.2.2.2.2.1 b.2.2.2.2.2.2.2.2.2) else ((mX g i).bind λ v=>(lG j k).bind λ x=>(bZ g i o p j k q s t (⟨l,max c.Id 1,c.Txn,c.Age,c.Yes,c.Pieces,c.Prefix,c.Epoch,c.To,c.Store,c.Gone,c.Watch⟩:aK)).bind λ d=>if m=true then ((vG n.1 d.1).bind λ y=>if y=true then ((mX d.2.1 d.2.2.1).bind λ z=>(oE z v).bind λ A=>if A=true then ((lG d.2.2.2.2.2.1 d.2.2.2.2.2.2.1).bind λ B=>(vH B x).bind λ C=>some (C)) else (some (false))) else (some (false))) else (some (false)))
def gB(c:List aK)(e:Int)(g:aK)(d:Bool)(b:aX×dZ×dR×hZ×nB×fT×eA×sB×Ab×sB)(f:Bool):Option Bool:=
  if f=true then (some (d)) else (jK c e g d b (((c.length:Int) - 0:Int).toNat+1) 0 b.2.1 b.2.2.1 b.2.2.2.1 b.2.2.2.2.1 b.2.2.2.2.2.1 b.2.2.2.2.2.2.1 b.2.2.2.2.2.2.2.1 b.2.2.2.2.2.2.2.2.1 b.2.2.2.2.2.2.2.2.2)
def jL(e:List aK)(b:aK)(f:Bool)(g:dZ×dR×hZ)(d:Int):Option Bool:=
  (bZ g.1 g.2.1 g.2.2 ([]:List aV) ([]:List aP) ([]:List aE) [] [] [] (⟨d,max b.Id 1,b.Txn,b.Age,b.Yes,b.Pieces,b.Prefix,b.Epoch,b.To,b.Store,b.Gone,b.Watch⟩:aK)).bind λ c=>if (c.1.Err == 1)=true then (gB e d b f c true) else (if (c.1.Err == 131)=true then (gB e d b f c true) else (gB e d b f c (c.1.Err == 132)))
def jM(b:List aK)(e:aK)(c:Bool)(d:dZ×dR×hZ)(f:Bool):Option Bool:=
  if f=true then (jL b e c d 1) else (jL b e c d e.Kind)
def eU(d:List aK)(c:aK)(b:Bool)(e:dZ×dR×hZ)(f:Bool):Option Bool:=
  if f=true then (some (b)) else (if (c.Kind != 8)=true then (if (c.Kind != 9)=true then (jM d c b e (c.Kind != 10)) else (jM d c b e false)) else (jM d c b e false))
def pQ(x1:aR)(k:List aF)(e:aK)(b:List aK):Option Bool:=
  G7.bind λ c=>(xB x1 k).bind λ l=>Lh l (some (c)) λ d=>(qC x1).bind λ f=>if f=true then (eU b e c d true) else ((tR k).bind λ g=>if g=true then (eU b e c d true) else ((tQ b).bind λ i=>if i=true then (eU b e c d true) else ((qH e).bind λ j=>eU b e c d j)))
theorem Bh{x1:aR}{g3 g4 m5 Q R S s P:Value}{m6:List aF}{b:aK}{O:List aK}(H:Sep w (Fo) rs)(d9:rSl aB g3 x1.Nodes ∈ rs)(e0:rSl aC g4 x1.Turns ∈ rs)(e1:rSl aO m5 m6 ∈ rs)(b6:rSl bT Q b.Pieces ∈ rs)(b7:rSl aB R b.Store.Nodes ∈ rs)(b8:rSl aC S b.Store.Turns ∈ rs)(b9:rSl kS s b.Gone ∈ rs)(c0:rSl wC P O ∈ rs)(W:N2 Tryz.prog ∈ rs){r:Bool}(m:pQ x1 m6 b O=some r) :
    Cf 7 [.agg #[g3,g4],m5,.agg (aL b Q R S s).toArray,P] w λ v w'=>.bool r=v/\Sep w' (Fo) (rs):=by
 unfold pQ at m
 refine ent Tryz.func7 z Tryz.ntmps7 z z λ a E=>sq<|bx E H z λ s1 w a H E=>bx E H z λ u w a H E=>pr 1 E z λ a E=>nx<|bd m λ x j5 m=>xk2 E z (cf_ 8) (Ie H W j5) λ w H a E=>pr 1 E z λ a E=>nx<|ln 1 [g3,g4] E H U25 z dF λ a E=>pr 1 E z λ a E=>bd m λ s2 j6 m=>xc2 E z (cf_ 9) (Cv H d9 e0 e1 j6)<|?_
 rintro _ w (⟨rfl,rfl,H⟩ | ⟨n,rfl,y,T,U,V,A,B,C,rfl,H⟩) a E
 ·replace m:=Mv m
  refine pn 1 E z λ a E=>wS<|sp 1 E z λ a E=>sv2 E z (xJ E z z z (v:=.bool true) (by kernel_rfl)) λ a E=>pn 16 E z λ a E=>wp_cond_true (E.eval z)<|sq<|pn 2 E z λ a E=>wR<|aH<|o1 E z<|have H:=H.drs [0,0];?_
  cases m
  exact ⟨z,H.reads Y0⟩
 ·replace m:=Mw m
  refine pn 1 E z λ a E=>wS<|aN (λ a w=>∃ e2 M,Env 111 a [(3,P),(6,pt u 0),(9,.bool x),(10,pt y 0),(37,.bool e2)]/\Sep w (Blk u 37 (aL b Q R S s)::Blk y 87 [T,U,V,nS,nS,nS,.map (some A),.map (some B),.map (some C)]::bX Tryz.prog 2 (kyI .i64) bB true A []::bX Tryz.prog 2 (kyI .i64) dB true B []::bX Tryz.prog 2 (kyI .i64) bB true C []::Fo) M/\(∀ r,r ∈ rs->r ∈ M)/\rSl aB T n.1 ∈ M/\rSl aC U n.2.1 ∈ M/\rSl aO V n.2.2 ∈ M/\eU O b x n e2=some r) ?_ ?_
  ·refine wG<|pr 1 E z λ a E=>sv2 E z (xJ E z z z (v:=.bool false) (by kernel_rfl)) λ a E=>pr 1 E z λ a E=>cA E (ws E z z z z) z z (L3 (i:=5) (us:=[g3,g4]) E H z z z z U25 z dF) λ a E=>bd m λ m7 g5 m=>bK E (ws E z z z z) z z (Al E z z ((cf_ 10) _)) (R6 H (t3 d9) (t3 e0) g5)<|?_
   rintro _ w ⟨rfl,H⟩ a E
   refine pr 2 E z λ a E=>cs m (λ D m=>?_) λ D m=>?_
   ·exact pk 11 E (kc 26 z D) z λ a E=>nt<|have H:=H.drop 5;have H:=H.frs [3,3,3,3,4] z;⟨_,_,E.to z,H,(Y3 Y0),m0,mm1,mm2,m⟩
   ·refine pk 1 E (kc 26 z D) z λ a E=>bd m λ m8 g6 m=>gc 26 E D z (cf_ 17) (Gq H (t3 e1) g6)<|?_
    rintro _ w ⟨rfl,H⟩ a E
    refine pk 2 E (kc 26 z D) z λ a E=>cs m (λ F m=>?_) λ F m=>?_
    ·exact pk 7 E (kc 30 z F) z λ a E=>nt<|have H:=H.drop 5;have H:=H.frs [3,3,3,3,4] z;⟨_,_,E.to z,H,(Y3 Y0),m0,mm1,mm2,m⟩
    ·refine pk 1 E (kc 30 z F) z λ a E=>bd m λ m9 g7 m=>gc 30 E F z (cf_ 18) (Gp H (t3 c0) g7)<|?_
     rintro _ w ⟨rfl,H⟩ a E
     refine pk 2 E (kc 30 z F) z λ a E=>cs m (λ G m=>?_) λ G m=>?_
     ·exact pk 3 E (kc 34 z G) z λ a E=>nt<|have H:=H.drop 5;have H:=H.frs [3,3,3,3,4] z;⟨_,_,E.to z,H,(Y3 Y0),m0,mm1,mm2,m⟩
     ·refine gv 34 E G z (L3 (i:=4) (us:=(aL b Q R S s)) E H z z z z U37 z yZ) λ a E=>bd m λ n0 g8 m=>gc 34 E G z (cf_ 11) (R8 H (t3 b6) (t3 b7) (t3 b8) (t3 b9) g8)<|?_
      rintro _ w ⟨rfl,H⟩ a E
      exact pk 1 E (kc 34 z G) z λ a E=>nt<|have H:=H.drop 5;have H:=H.frs [3,3,3,3,4] z;⟨_,_,E.to z,H,(Y3 Y0),m0,mm1,mm2,m⟩
  ·clear E H m
   rintro a w ⟨e2,M,E,H,X,c1,c2,c3,m⟩
   unfold eU at m
   refine wif E m z (λ m=>?_) λ m=>?_
   ·refine sq<|pn 2 E z λ a E=>wR<|aH<|o1 E z<|have H:=H.drs [0,0,0,0,0];?_
    cases m
    exact ⟨z,H.reads X⟩
   ·refine wK<|aA<|aN (λ a w=>∃ o N,Env 111 a [(3,P),(6,pt u 0),(9,.bool x),(10,pt y 0)]/\Sep w (Blk u 37 [.int .i64 o,.int .i64 b.Id,.int .i64 b.Txn,.int .i64 b.Age,.bool b.Yes,Q,.string b.Prefix,.int .i64 b.Epoch,.int .i64 b.To,R,S,s,.int .i64 b.Watch.Session,.int .i64 b.Watch.Num,.string b.Watch.Path,.bool b.Watch.Deep]::Blk y 87 [T,U,V,nS,nS,nS,.map (some A),.map (some B),.map (some C)]::bX Tryz.prog 2 (kyI .i64) bB true A []::bX Tryz.prog 2 (kyI .i64) dB true B []::bX Tryz.prog 2 (kyI .i64) bB true C []::Fo) N/\(∀ r,r ∈ rs->r ∈ N)/\rSl aB T n.1 ∈ N/\rSl aC U n.2.1 ∈ N/\rSl aO V n.2.2 ∈ N/\jL O b x n o=some r) ?_ ?_
    ·refine aN (λ a w=>∃ c4 q,Env 111 a [(3,P),(6,pt u 0),(9,.bool x),(10,pt y 0),(51,.bool c4)]/\Sep w (Blk u 37 (aL b Q R S s)::Blk y 87 [T,U,V,nS,nS,nS,.map (some A),.map (some B),.map (some C)]::bX Tryz.prog 2 (kyI .i64) bB true A []::bX Tryz.prog 2 (kyI .i64) dB true B []::bX Tryz.prog 2 (kyI .i64) bB true C []::Fo) q/\(∀ r,r ∈ rs->r ∈ q)/\rSl aB T n.1 ∈ q/\rSl aC U n.2.1 ∈ q/\rSl aO V n.2.2 ∈ q/\jM O b x n c4=some r) ?_ ?_
     ·refine wG<|pr 1 E z λ a E=>lb2 E H 0 U3 z λ a E=>pr 2 E z λ a E=>cs m (λ I m=>?_) λ I m=>?_
      ·refine pk 1 E (kc 42 z I) z λ a E=>gl 42 E H 0 I U3 z λ a E=>pk 3 E (kc 42 z I) z λ a E=>cs m (λ J m=>?_) λ J m=>?_
       ·exact pk 1 E (kc 47 z J) z λ a E=>gl 47 E H 0 J U3 z λ a E=>pk 2 E (kc 47 z J) z λ a E=>nt<|⟨_,_,E.to z,H,X,c1,c2,c3,m⟩
       ·exact pk 4 E (kc 47 z J) z λ a E=>nt<|⟨_,_,E.to z,H,X,c1,c2,c3,m⟩
      ·exact pk 9 E (kc 42 z I) z λ a E=>nt<|⟨_,_,E.to z,H,X,c1,c2,c3,m⟩
     ·clear E H m
      rintro a w ⟨c4,q,E,H,c7,c8,c9,d0,m⟩
      unfold jM at m
      refine wif E m z (λ m=>?_) λ m=>?_
      ·exact wG<|pr 1 E z λ a E=>ss 0 E H z sz3 z λ w H=>nt<|⟨_,_,E.to z,H,c7,c8,c9,d0,m⟩
      ·exact wK<|aA<|⟨_,_,E.to z,H,c7,c8,c9,d0,m⟩
    ·clear E H m
     rintro a w ⟨o,N,E,H,p,j7,j8,j9,m⟩
     unfold jL at m
     refine sp 1 E z λ a E=>lb2 E H 0 U2 z λ a E=>sv2 E z (FK (t:=0) E z z z) λ a E=>pr 1 E z λ a E=>ss 0 E H z sz2 z λ w H=>xp 1 E z λ a E=>ln 0 [.int .i64 o,.int .i64 (max b.Id 1),.int .i64 b.Txn,.int .i64 b.Age,.bool b.Yes,Q,.string b.Prefix,.int .i64 b.Epoch,.int .i64 b.To,R,S,s,.int .i64 b.Watch.Session,.int .i64 b.Watch.Num,.string b.Watch.Path,.bool b.Watch.Deep] E H U37 z yZ λ a E=>have H:=H.nilSl bA;have H:=H.nilSl aS;have H:=H.nilSl aI;have H:=H.frs [0,4,4,4,4] z;bd m λ c k0 m=>xc2 E z (cf_ 13) (kD (x20:=(⟨o,max b.Id 1,b.Txn,b.Age,b.Yes,b.Pieces,b.Prefix,b.Epoch,b.To,b.Store,b.Gone,b.Watch⟩:aK)) H (t3 j7) (t3 j8) (t3 j9) mm2 mm1 m0 (t3 (p _ b6)) (t3 (p _ b7)) (t3 (p _ b8)) (t3 (p _ b9)) (t3 (p _ W)) k0)<|?_
     rintro _ w ⟨b0,b1,b2,b3,b4,b5,i9,j0,j1,j2,j3,j4,rfl,H⟩ a E
     refine al2 E H z kM λ d1 w a H E=>ss 0 E H z bU (aZ H m0 mm1 mm2 mm3 mm4 mm5) λ w H=>nt<|wS<|aN (λ a w=>∃ e3 e,Env 111 a [(3,P),(6,pt u 0),(9,.bool x),(10,pt y 0),(11,pt d1 0),(72,.bool e3)]/\Sep w (Blk u 37 [.int .i64 o,.int .i64 (max b.Id 1),.int .i64 b.Txn,.int .i64 b.Age,.bool b.Yes,Q,.string b.Prefix,.int .i64 b.Epoch,.int .i64 b.To,R,S,s,.int .i64 b.Watch.Session,.int .i64 b.Watch.Num,.string b.Watch.Path,.bool b.Watch.Deep]::Blk y 87 [i9,j0,j1,j2,j3,j4,.map (some A),.map (some B),.map (some C)]::Blk d1 48 (aU c.1 b0 b1 b2 b3 b4 b5)::bX Tryz.prog 2 (kyI .i64) bB true A c.2.2.2.2.2.2.2.1::bX Tryz.prog 2 (kyI .i64) dB true B c.2.2.2.2.2.2.2.2.1::bX Tryz.prog 2 (kyI .i64) bB true C c.2.2.2.2.2.2.2.2.2::Fo) e/\(∀ r,r ∈ rs->r ∈ e)/\rSl aB i9 c.2.1 ∈ e/\rSl aC j0 c.2.2.1 ∈ e/\rSl aO j1 c.2.2.2.1 ∈ e/\rSl bA j2 c.2.2.2.2.1 ∈ e/\rSl aS j3 c.2.2.2.2.2.1 ∈ e/\rSl aI j4 c.2.2.2.2.2.2.1 ∈ e/\rSl aY b0 c.1.Results ∈ e/\rSl aB b1 c.1.Store.Nodes ∈ e/\rSl aC b2 c.1.Store.Turns ∈ e/\rSl aQ b3 c.1.Events ∈ e/\rSl bD b4 c.1.Mounts ∈ e/\rSl (kI .i64) b5 c.1.Wounded ∈ e/\gB O o b x c e3=some r) ?_ ?_
     ·refine wG<|pr 1 E z λ a E=>lb2 E H 0 U41 z λ a E=>pr 2 E z λ a E=>cs m (λ K m=>?_) λ K m=>?_
      ·exact pk 9 E (kc 63 z K) z λ a E=>nt<|have H:=H.frs [4,4,4,3,4,5] z;⟨_,_,E.to z,H,(Y7 (Y8 p)),mm6,(t1 mm6),(t2 mm6),(t3 mm6),(t4 mm6),(t5 mm6),m0,mm1,mm2,mm3,mm4,mm5,m⟩
      ·refine pk 1 E (kc 63 z K) z λ a E=>gl 63 E H 0 K U41 z λ a E=>pk 3 E (kc 63 z K) z λ a E=>cs m (λ L m=>?_) λ L m=>?_
       ·exact pk 4 E (kc 68 z L) z λ a E=>nt<|have H:=H.frs [4,4,4,3,4,5] z;⟨_,_,E.to z,H,(Y7 (Y8 p)),mm6,(t1 mm6),(t2 mm6),(t3 mm6),(t4 mm6),(t5 mm6),m0,mm1,mm2,mm3,mm4,mm5,m⟩
       ·exact pk 1 E (kc 68 z L) z λ a E=>gl 68 E H 0 L U41 z λ a E=>pk 2 E (kc 68 z L) z λ a E=>nt<|have H:=H.frs [4,4,4,3,4,5] z;⟨_,_,E.to z,H,(Y7 (Y8 p)),mm6,(t1 mm6),(t2 mm6),(t3 mm6),(t4 mm6),(t5 mm6),m0,mm1,mm2,mm3,mm4,mm5,m⟩
     ·clear E H m
      rintro a w ⟨e3,e,E,H,e4,k1,k2,k3,k4,k5,k6,k7,k8,k9,l0,l1,l2,m⟩
      unfold gB at m
      refine wif E m z (λ m=>?_) λ m=>?_
      ·refine sq<|pn 2 E z λ a E=>wR<|aH<|o1 E z<|have H:=H.drs [0,0,0,0,0,0];?_
       cases m
       exact ⟨z,H.reads e4⟩
      ·refine wK<|aA<|wS<|sq<|pn 1 E z λ a E=>wB<|bL (λ d8 a w=>∃ e5 e6 e7 e8 e9 f0 f1 f2 f3 f4 f5 f6 f7 f8 f9 g0 f,Env 111 a [(3,P),(6,pt u 0),(9,.bool x),(10,pt y 0),(11,pt d1 0),(12,.int .i64 f1)]/\Sep w (Blk u 37 [.int .i64 o,.int .i64 (max b.Id 1),.int .i64 b.Txn,.int .i64 b.Age,.bool b.Yes,Q,.string b.Prefix,.int .i64 b.Epoch,.int .i64 b.To,R,S,s,.int .i64 b.Watch.Session,.int .i64 b.Watch.Num,.string b.Watch.Path,.bool b.Watch.Deep]::Blk y 87 [e5,e6,e7,e8,e9,f0,.map (some A),.map (some B),.map (some C)]::Blk d1 48 (aU c.1 b0 b1 b2 b3 b4 b5)::bX Tryz.prog 2 (kyI .i64) bB true A f8::bX Tryz.prog 2 (kyI .i64) dB true B f9::bX Tryz.prog 2 (kyI .i64) bB true C g0::Fo) f/\(∀ r,r ∈ rs->r ∈ f)/\rSl aB e5 f2 ∈ f/\rSl aC e6 f3 ∈ f/\rSl aO e7 f4 ∈ f/\rSl bA e8 f5 ∈ f/\rSl aS e9 f6 ∈ f/\rSl aI f0 f7 ∈ f/\rSl aY b0 c.1.Results ∈ f/\rSl aB b1 c.1.Store.Nodes ∈ f/\rSl aC b2 c.1.Store.Turns ∈ f/\rSl aQ b3 c.1.Events ∈ f/\rSl bD b4 c.1.Mounts ∈ f/\rSl (kI .i64) b5 c.1.Wounded ∈ f/\jK O o b x c d8 f1 f2 f3 f4 f5 f6 f7 f8 f9 g0=some r) (((O.length:Int) - 0:Int).toNat+1) ?_ ?_
       ·exact X17 ⟨E.to z,H,e4,k1,k2,k3,k4,k5,k6,k7,k8,k9,l0,l1,l2,m⟩
       ·clear E H m
        rintro d8 a w ⟨e5,e6,e7,e8,e9,f0,f1,f2,f3,f4,f5,f6,f7,f8,f9,g0,f,E,H,g,c5,c6,g1,g2,Y,Z,d2,d3,d4,d5,d6,d7,m⟩
        cases d8 with
        | zero=>exact (bF m z).elim
        | succ d8=>
         unfold jK at m
         refine wS<|sp 2 E z λ a E=>lS E H (g _ c0) U54 z λ a E=>pn 1 E z λ a E=>wif E m z (λ m=>?_) λ m=>?_
         ·refine wK<|aA<|wS<|wB<|wG<|pr 3 E z λ a E=>bd m λ n1 g9 m=>dP E H (wn z) z z z z z (g _ c0) U54 yZ g9 λ q110 a H E=>Am E H (wn z) z z z z m0 U37 z yZ λ n2 a H E=>?_
          obtain ⟨n3,n4,n5,n6,rfl,h⟩:=Fx H;clear H;have H:=h
          refine have H:=H.frs [2,1,5,5,5,5] z;bd m λ n7 i0 m=>xc2 E z (cf_ 13) (kD H (t6 c5) (t6 c6) (t6 g1) (t6 g2) (t6 Y) (t6 Z) mm3 mm2 mm1 m0 (t6 (g _ W)) i0)<|?_
          rintro _ w ⟨n8,n9,o0,o2,o3,o4,o5,o6,o7,o8,o9,p0,rfl,H⟩ a E
          exact wN<|bR<|aA<|wG<|pn 3 E z λ a E=>have H:=H.frs [3,3,3,5,4,5] z;⟨d8,nL d8,X17 ⟨E.to z,H,(Y2 (Y8 (Y8 g))),mm6,(t1 mm6),(t2 mm6),(t3 mm6),(t4 mm6),(t5 mm6),(t2 (t8 (t8 d2))),(t2 (t8 (t8 d3))),(t2 (t8 (t8 d4))),(t2 (t8 (t8 d5))),(t2 (t8 (t8 d6))),(t2 (t8 (t8 d7))),m⟩⟩
         ·refine wX<|aW<|aW<|cT<|aA<|sp 1 E z λ a E=>have H:=H.frs [5,5,5,5,4,5] z;bd m λ p1 i1 m=>xc2 E z (cf_ 15) (E5 H c5 c6 i1)<|?_
          rintro _ w ⟨l3,l4,rfl,H⟩ a E
          refine al2 E H z oC λ p2 w a H E=>ss 0 E H z dF (mI H m0 mm1) λ w H=>xp 1 E z λ a E=>have H:=H.frs [6,6,6,6,6,5,6] z;bd m λ p3 i2 m=>xc2 E z (cf_ 32) (O4 H (t2 Y) (t2 Z) i2)<|?_
          rintro _ w ⟨l5,l6,rfl,H⟩ a E
          refine al2 E H z P9 λ p4 w a H E=>ss 0 E H z fM (hY H m0 mm1) λ w H=>xp 1 E z λ a E=>ln 3 [.int .i64 o,.int .i64 (max b.Id 1),.int .i64 b.Txn,.int .i64 b.Age,.bool b.Yes,Q,.string b.Prefix,.int .i64 b.Epoch,.int .i64 b.To,R,S,s,.int .i64 b.Watch.Session,.int .i64 b.Watch.Num,.string b.Watch.Path,.bool b.Watch.Deep] E H U37 z yZ λ a E=>have H:=H.frs [4,4,4,3,7,7,7,7] z;bd m λ l7 i3 m=>xc2 E z (cf_ 13) (kD (x20:=(⟨o,max b.Id 1,b.Txn,b.Age,b.Yes,b.Pieces,b.Prefix,b.Epoch,b.To,b.Store,b.Gone,b.Watch⟩:aK)) H (t4 c5) (t4 c6) (t4 g1) (t4 g2) (t4 Y) (t4 Z) (t4 (g _ b6)) (t4 (g _ b7)) (t4 (g _ b8)) (t4 (g _ b9)) (t4 (g _ W)) i3)<|?_
          rintro _ w ⟨l8,l9,m1,m2,m3,m4,p5,p6,p7,p8,p9,q0,rfl,H⟩ a E
          refine al2 E H z kM λ q1 w a H E=>ss 0 E H z bU (aZ H m0 mm1 mm2 mm3 mm4 mm5) λ w H=>nt<|wS<|dw [(0,0),(1,0),(2,0),(3,0),(4,1),(5,0),(6,0),(7,0),(9,0),(8,1),(10,1),(11,0),(12,0),(13,0),(15,0),(14,1),(16,1),(17,0),(18,2)] [0,5,6,8] [] H (by kernel_rfl) (λ _ _ _ h=>False.elim h.2) λ w W0 hI H=>fn 2 E z λ a E=>cs m (λ l m=>?_) λ l m=>?_
          ·refine fbn E (aU c.1 b0 b1 b2 b3 b4 b5) z (ws' (d:=94) E z z z z l) z z z z mm3 z U48 z bU λ a E=>fbn E (aU l7.1 l8 l9 m1 m2 m3 m4) z (ws' (d:=94) E z z z z l) z z z z m0 z U48 z bU λ a E=>bQ z<|bd m λ q2 i4 m=>gc 94 E l z (cf_ 22) (Ig H (t8 (t8 d2)) (t8 (t8 d3)) (t8 (t8 d4)) (t8 (t8 d5)) (t8 (t8 d6)) (t8 (t8 d7)) m0 mm1 mm2 mm3 mm4 mm5 i4)<|?_
           rintro _ w ⟨rfl,H⟩ a E
           refine nt<|⟨⟨_,_,H,(aJ m0 (aJ mm5 (aJ mm6 (aJ (t2 mm6) (bC))))),(bI)⟩,fk 2 E (kc 94 z l) z λ a E=>cs m (λ j m=>?_) λ j m=>?_⟩
           ·refine fk 1 E (kc 99 z j) z λ a E=>fbn E [l3,l4] z (ws' (d:=99) E z z z z j) z z z z mm2 z U25 z dF λ a E=>bQ z<|have H:=H.frs [8,8,8,8,8,8,8,7,8] z;bd m λ q3 i5 m=>gc 99 E j z (cf_ 15) (E5 H mm6 (t1 mm6) i5)<|?_
            rintro _ w ⟨q4,q5,rfl,H⟩ a E
            refine nt<|⟨⟨_,_,H,(aJ mm1 (aJ mm5 (aJ mm6 (aJ (t2 mm6) (bC))))),(bI)⟩,bQ z<|bd m λ q6 i6 m=>gc 99 E j z (cf_ 14) (W4 H m0 mm1 (t2 (t8 mm6)) (t3 (t8 mm6)) i6)<|?_⟩
            rintro _ w ⟨rfl,H⟩ a E
            refine nt<|⟨⟨_,_,H,(aJ mm1 (aJ mm5 (aJ mm6 (aJ (t2 mm6) (bC))))),(bI)⟩,fk 2 E (kc 99 z j) z λ a E=>cs m (λ k m=>?_) λ k m=>?_⟩
            ·refine fk 1 E (kc 105 z k) z λ a E=>fbn E [l5,l6] z (ws' (d:=105) E z z z z k) z z z z mm1 z U73 z fM λ a E=>bQ z<|bd m λ q7 i7 m=>gc 105 E k z (cf_ 32) (O4 H (t6 mm6) (t7 mm6) i7)<|?_
             rintro _ w ⟨q8,q9,rfl,H⟩ a E
             refine nt<|⟨⟨_,_,H,(aJ mm1 (aJ mm5 (aJ mm6 (aJ (t2 mm6) (bC))))),(bI)⟩,bQ z<|bd m λ s0 i8 m=>gc 105 E k z (cf_ 34) (Ih H m0 mm1 (t2 (t8 mm6)) (t3 (t8 mm6)) i8)<|?_⟩
             rintro _ w ⟨rfl,H⟩ a E
             refine nt<|⟨⟨_,_,H,(aJ mm1 (aJ mm5 (aJ mm6 (aJ (t2 mm6) (bC))))),(bI)⟩,fk 1 E (kc 105 z k) z λ a E=>bH z<|pn 1 E z λ a E=>bG<|?_⟩
             clear hI
             refine aA<|wR<|o1 E z<|have H:=H.drs [0,0,0,0,0,0,0,0,0];?_
             cases m
             exact ⟨z,H.reads (Y4 (Y8 (Y8 g)))⟩
            ·refine fk 2 E (kc 105 z k) z λ a E=>bQ z<|pk 1 E (kc 105 z k) z λ a E=>nt<|⟨⟨_,_,H,(aJ mm1 (aJ mm5 (aJ mm6 (aJ (t2 mm6) (bC))))),(bI)⟩,bQ z<|pk 1 E (kc 105 z k) z λ a E=>nt<|⟨⟨_,_,H,(aJ mm1 (aJ mm5 (aJ mm6 (aJ (t2 mm6) (bC))))),(bI)⟩,fk 1 E (kc 105 z k) z λ a E=>bH z<|pn 1 E z λ a E=>bG<|?_⟩⟩
             clear hI
             refine aA<|wR<|o1 E z<|have H:=H.drs [0,0,0,0,0,0,0,0,0];?_
             cases m
             exact ⟨z,H.reads (Y2 (Y8 (Y8 g)))⟩
           ·refine fk 2 E (kc 99 z j) z λ a E=>bQ z<|pk 1 E (kc 99 z j) z λ a E=>nt<|⟨⟨_,_,H,(aJ m0 (aJ mm5 (aJ mm6 (aJ (t2 mm6) (bC))))),(bI)⟩,bQ z<|pk 1 E (kc 99 z j) z λ a E=>nt<|⟨⟨_,_,H,(aJ m0 (aJ mm5 (aJ mm6 (aJ (t2 mm6) (bC))))),(bI)⟩,fk 4 E (kc 99 z j) z λ a E=>bQ z<|pn 1 E z λ a E=>⟨⟨_,_,H,(aJ m0 (aJ mm5 (aJ mm6 (aJ (t2 mm6) (bC))))),(bI)⟩,bQ z<|pn 1 E z λ a E=>⟨⟨_,_,H,(aJ m0 (aJ mm5 (aJ mm6 (aJ (t2 mm6) (bC))))),(bI)⟩,fn 1 E z λ a E=>bH z<|pn 1 E z λ a E=>bG<|?_⟩⟩⟩⟩
            clear hI
            refine aA<|wR<|o1 E z<|have H:=H.drs [0,0,0,0,0,0,0,0,0];?_
            cases m
            exact ⟨z,H.reads (Y8 (Y8 g))⟩
          ·refine fk 2 E (kc 94 z l) z λ a E=>bQ z<|pk 1 E (kc 94 z l) z λ a E=>nt<|⟨⟨_,_,H,(aJ m0 (aJ mm5 (aJ mm6 (aJ (t2 mm6) (bC))))),(bI)⟩,fk 4 E (kc 94 z l) z λ a E=>bQ z<|pn 1 E z λ a E=>⟨⟨_,_,H,(aJ m0 (aJ mm5 (aJ mm6 (aJ (t2 mm6) (bC))))),(bI)⟩,bQ z<|pn 1 E z λ a E=>⟨⟨_,_,H,(aJ m0 (aJ mm5 (aJ mm6 (aJ (t2 mm6) (bC))))),(bI)⟩,fn 4 E z λ a E=>bQ z<|pn 1 E z λ a E=>⟨⟨_,_,H,(aJ m0 (aJ mm5 (aJ mm6 (aJ (t2 mm6) (bC))))),(bI)⟩,bQ z<|pn 1 E z λ a E=>⟨⟨_,_,H,(aJ m0 (aJ mm5 (aJ mm6 (aJ (t2 mm6) (bC))))),(bI)⟩,fn 1 E z λ a E=>bH z<|pn 1 E z λ a E=>bG<|?_⟩⟩⟩⟩⟩
           clear hI
           refine aA<|wR<|o1 E z<|have H:=H.drs [0,0,0,0,0,0,0,0,0];?_
           cases m
           exact ⟨z,H.reads (Y8 (Y8 g))⟩

end Go.Cb
