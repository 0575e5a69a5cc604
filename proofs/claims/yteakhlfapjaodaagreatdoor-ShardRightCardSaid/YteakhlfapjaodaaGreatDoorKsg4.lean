/- Functions of the program, walked: each comes to its plain function. -/
import Derived.Test.YteakhlfapjaodaaGreatDoorKsg3
import Derived.Test.YteakhlfapjaodaaGreatDoorExsg
import Derived.Test.YteakhlfapjaodaaGreatDoorNwsg
import Derived.Test.YteakhlfapjaodaaGreatDoorSksg
set_option linter.unusedVariables false
set_option linter.unusedSimpArgs false
set_option maxRecDepth 20000
set_option maxHeartbeats 1000000
namespace Go.Cb
open Go.Proofs Go.RowKit Tryz
variable {w:WD} {Fo:List Ob} {rs:List Rp}

def cM(c:List aQ)(e:BY):Nat->Int->Int->Option xM
  | 0,_,_=>none
  | f+1,b,d=>
    if (decide (b < d))=true then ((idx c (IntKind.i64.wrap (tM .u64 (IntKind.u64.wrap (IntKind.i64.wrap (b+d))) 1))).bind λ k=>(uU k e).bind λ g=>if (decide (g < 0))=true then (cM c e f (IntKind.i64.wrap ((IntKind.i64.wrap (tM .u64 (IntKind.u64.wrap (IntKind.i64.wrap (b+d))) 1))+1)) d) else (cM c e f b (IntKind.i64.wrap (tM .u64 (IntKind.u64.wrap (IntKind.i64.wrap (b+d))) 1)))) else (if (decide (b < (c.length:Int)))=true then ((idx c b).bind λ i=>(uU i e).bind λ j=>some (b,j == 0)) else (some (b,false)))
def fU(b:List aQ)(c:BY):Option xM:=
  cM b c (((b.length:Int) - 0:Int).toNat+1) 0 (b.length:Int)
theorem xQ{j:VL}{e:List aQ}{p:BY}(H:Sep w (Row 78 aY j e::Fo) rs){r:Int×Bool}(m:fU e p=some r) :
    Cf 168 [j,.string p,.func (.func 169) #[] #[]] w λ v w'=>.tuple #[.int .i64 r.1,.bool r.2]=v/\Sep w' (Row 78 aY j e::Fo) (rs):=by
 unfold fU at m
 refine ent func168 z ntmps168 z z λ a E=>sp 2 E z λ a E=>xp 1 E z λ a E=>sv2 E z (mV (i:=0) E H z z z U58) λ a E=>pr 1 E z λ a E=>xp 3 E z λ a E=>nt<|wS<|wB<|bG (λ c a w=>∃ q s,Jn 49 a w [(0,j),(1,.string p),(2,.func (.func 169) #[] #[]),(8,.int .i64 (e.length:Int)),(9,.int .i64 q),(10,.int .i64 s)] (Row 78 aY j e::Fo) rs (cM e p c q s=some r)) (((e.length:Int) - 0:Int).toNat+1) ?_ ?_
 ·exact X3 ⟨E.to z,H,Y0,m⟩
 ·clear E H m
  rintro c a w ⟨q,s,y,E,H,g,m⟩
  cases c with
  | zero=>exact (bE m z).elim
  | succ c=>
   unfold cM at m
   refine wS<|sq<|pn 3 E z λ a E=>wif E m z (λ m=>?_) λ m=>?_
   ·refine wK<|aA<|wB<|sp 4 E z λ a E=>sv2 E z (Eg E z z z (by decide)) λ a E=>pr 2 E z λ a E=>xp 3 E z λ a E=>bd m λ t k m=>?_
    obtain ⟨A,B,l⟩:=H.rowformNE (i:=0) z k
    refine sv2 E z (dG (d:=aY) E l z z z z U58 jZ k) λ a E=>sv2 E z (kH (i:=0) E H gR l z z z k (us:=[.string t.Dir,.int .i64 t.Txn,.int .i64 t.Age]) z U78 z jZ) λ a E=>pr 1 E z λ a E=>bd m λ C u m=>bK E (wn z) z z (bN E z z z ((cf_ 169) _)) (Dy H u)<|?_
    rintro _ w ⟨rfl,H⟩ a E
    refine pn 1 E z λ a E=>wif E m z (λ m=>?_) λ m=>?_
    ·exact wG<|pr 3 E z λ a E=>wN<|bP<|aA<|⟨c,nL c,X3 ⟨E.to z,H,g,m⟩⟩
    ·exact wG<|pr 2 E z λ a E=>wN<|bP<|aA<|⟨c,nL c,X3 ⟨E.to z,H,g,m⟩⟩
   ·refine wX<|aT<|aT<|cL<|aA<|sp 5 E z λ a E=>cs m (λ b m=>?_) λ b m=>?_
    ·refine pk 3 E (kc 39 z b) z λ a E=>bd m λ n f m=>?_
     obtain ⟨D,F,o⟩:=H.rowformNE (i:=0) z f
     refine gv 39 E b z (dG (d:=aY) E o z z z z U58 jZ f) λ a E=>gv 39 E b z (kH (i:=0) E H gR o z z z f (us:=[.string n.Dir,.int .i64 n.Txn,.int .i64 n.Age]) z U78 z jZ) λ a E=>pk 1 E (kc 39 z b) z λ a E=>bd m λ G x m=>bK E (ws' (d:=39) E z z z z b) z z (bN E z z z ((cf_ 169) _)) (Dy H x)<|?_
     rintro _ w ⟨rfl,H⟩ a E
     refine pk 4 E (kc 39 z b) z λ a E=>nt<|wR<|iH E z z z<|?_
     cases m
     exact ⟨z,H.reads g⟩
    ·refine pk 11 E (kc 39 z b) z λ a E=>nt<|wR<|iH E z z z<|?_
     cases m
     exact ⟨z,H.reads g⟩

def xY(x1:aQ)(x3:Int)(b:Int):Option Bool:=
  if (x1.Txn == x3)=true then (some (x1.Age != b)) else (some (false))
theorem Qi{x1:aQ}{c d:Nat}{x3 e:Int}(H:Sep w (Blk c 2 [.int .i64 x3]::Blk d 2 [.int .i64 e]::Fo) rs){r:Bool}(m:xY x1 x3 e=some r) :
    Cf 161 [.agg (uY x1).toArray,pt c 0,pt d 0] w λ v w'=>.bool r=v/\Sep w' (Blk c 2 [.int .i64 x3]::Blk d 2 [.int .i64 e]::Fo) (rs):=by
 unfold xY at m
 refine ent func161 z ntmps161 z z λ a E=>sq<|bx E H z λ f w a H E=>pr 1 E z λ a E=>xp 1 E z λ a E=>lb2 E H 0 U2 z λ a E=>lb2 E H 1 U2 z λ a E=>pr 2 E z λ a E=>cs m (λ b m=>?_) λ b m=>?_
 ·refine pk 1 E (kc 9 z b) z λ a E=>gl 9 E H 0 b U2 z λ a E=>gl 9 E H 2 b U2 z λ a E=>pk 3 E (kc 9 z b) z λ a E=>nt<|wR<|o1 E z<|have H:=H.drop 0;?_
  cases m
  exact ⟨z,H.reads Y0⟩
 ·refine pk 6 E (kc 9 z b) z λ a E=>nt<|wR<|o1 E z<|have H:=H.drop 0;?_
  cases m
  exact ⟨z,H.reads Y0⟩

def eT(c:List aQ)(d:Int)(e:Int):Nat->Int->Option Int
  | 0,_=>none
  | i+1,b=>
    if (decide (b < (c.length:Int)))=true then ((idx c b).bind λ f=>(xY f d e).bind λ g=>if g=true then (some (b)) else (eT c d e i (IntKind.i64.wrap (b+1)))) else (some ((-1)))
def jQ(b:List aQ)(c:Int)(d:Int):Option Int:=
  eT b c d (((b.length:Int) - 0:Int).toNat+1) 0
theorem E8{k:VL}{d:List aQ}{e f:Nat}{g i:Int}(H:Sep w (Blk e 2 [.int .i64 g]::Blk f 2 [.int .i64 i]::Fo) rs)(j:rSl aY k d ∈ rs){r:Int}(m:jQ d g i=some r) :
    Cf 154 [k,.func (.func 161) #[] #[pt e 0,pt f 0]] w λ v w'=>.int .i64 r=v/\Sep w' (Blk e 2 [.int .i64 g]::Blk f 2 [.int .i64 i]::Fo) (rs):=by
 unfold jQ at m
 refine ent func154 z ntmps154 z z λ a E=>sq<|pn 1 E z λ a E=>wS<|sp 1 E z λ a E=>lS E H j U58 z λ a E=>pr 1 E z λ a E=>nt<|wB<|bG (λ c a w=>∃ l,Jn 19 a w [(0,k),(1,.func (.func 161) #[] #[pt e 0,pt f 0]),(7,.int .i64 (d.length:Int)),(8,.int .i64 l)] (Blk e 2 [.int .i64 g]::Blk f 2 [.int .i64 i]::Fo) rs (eT d g i c l=some r)) (((d.length:Int) - 0:Int).toNat+1) ?_ ?_
 ·exact ⟨_,_,E.to z,H,Y0,m⟩
 ·clear E H m
  rintro c a w ⟨l,p,E,H,b,m⟩
  cases c with
  | zero=>exact (bE m z).elim
  | succ c=>
   unfold eT at m
   refine sq<|pn 1 E z λ a E=>wS<|wif E m z (λ m=>?_) λ m=>?_
   ·refine wK<|aA<|wS<|wB<|sp 2 E z λ a E=>xp 3 E z λ a E=>bd m λ q n m=>dB E H (wn z) z z z z z (b _ j) U58 jZ n λ q13 a H E=>ldf gR E H z z z z z m0 U78 z jZ λ a E=>bd m λ s o m=>bK E (wn z) z z (bN E z z z ((cf_ 161) _)) (Qi H o)<|?_
    rintro _ w ⟨rfl,H⟩ a E
    refine nt<|wif E m z (λ m=>?_) λ m=>?_
    ·refine sq<|pn 2 E z λ a E=>wR<|bD<|aG<|aG<|bD<|aG<|o1 E z<|?_
     cases m
     exact ⟨z,H.reads (Y1 b)⟩
    ·exact wK<|bP<|aA<|wG<|pn 2 E z λ a E=>⟨c,nL c,_,_,E.to z,H,(Y1 b),m⟩
   ·refine wX<|aT<|aT<|cL<|aA<|sq<|pn 1 E z λ a E=>wR<|o1 E z<|?_
    cases m
    exact ⟨z,H.reads b⟩

def iG(b:List aQ)(c:Int)(d:Int):Option Bool:=
  (jQ b c d).bind λ e=>some (decide (e ≥ 0))
theorem y5{f:VL}{g:List aQ}{b c:Nat}{d e:Int}(H:Sep w (Blk b 2 [.int .i64 d]::Blk c 2 [.int .i64 e]::Fo) rs)(i:rSl aY f g ∈ rs){r:Bool}(m:iG g d e=some r) :
    Cf 160 [f,.func (.func 161) #[] #[pt b 0,pt c 0]] w λ v w'=>.bool r=v/\Sep w' (Blk b 2 [.int .i64 d]::Blk c 2 [.int .i64 e]::Fo) (rs):=by
 unfold iG at m
 refine ent func160 z ntmps160 z z λ a E=>sp 1 E z λ a E=>xp 2 E z λ a E=>bd m λ k j m=>xk2 E z (cf_ 154) (E8 H i j) λ w H a E=>pn 2 E z λ a E=>wR<|o1 E z<|?_
 cases m
 exact ⟨z,H.reads Y0⟩

def xZ(b:BY):Option Bool:=
  (gH b).bind λ c=>some (!c)
theorem Qj{b:BY}(H:Sep w (Fo) rs){r:Bool}(m:xZ b=some r) :
    Cf 159 [.string b] w λ v w'=>.bool r=v/\Sep w' (Fo) (rs):=by
 unfold xZ at m
 refine ent func159 z ntmps159 z z λ a E=>sp 1 E z λ a E=>xp 1 E z λ a E=>bd m λ d c m=>xk2 E z (cf_ 83) (kK H c) λ w H a E=>pn 2 E z λ a E=>wR<|o1 E z<|?_
 cases m
 exact ⟨z,H.reads Y0⟩

def fJ(c:List BY):Nat->Int->Option Int
  | 0,_=>none
  | e+1,b=>
    if (decide (b < (c.length:Int)))=true then ((idx c b).bind λ f=>(xZ f).bind λ d=>if d=true then (some (b)) else (fJ c e (IntKind.i64.wrap (b+1)))) else (some ((-1)))
def lN(b:List BY):Option Int:=
  fJ b (((b.length:Int) - 0:Int).toNat+1) 0
theorem L6{f:VL}{d:List BY}(H:Sep w (Fo) rs)(e:rSl kS f d ∈ rs){r:Int}(m:lN d=some r) :
    Cf 153 [f,.func (.func 159) #[] #[]] w λ v w'=>.int .i64 r=v/\Sep w' (Fo) (rs):=by
 unfold lN at m
 refine ent func153 z ntmps153 z z λ a E=>sq<|pn 1 E z λ a E=>wS<|sp 1 E z λ a E=>lS E H e U33 z λ a E=>pr 1 E z λ a E=>nt<|wB<|bG (λ c a w=>∃ g,Jn 19 a w [(0,f),(1,.func (.func 159) #[] #[]),(7,.int .i64 (d.length:Int)),(8,.int .i64 g)] (Fo) rs (fJ d c g=some r)) (((d.length:Int) - 0:Int).toNat+1) ?_ ?_
 ·exact ⟨_,_,E.to z,H,Y0,m⟩
 ·clear E H m
  rintro c a w ⟨g,k,E,H,b,m⟩
  cases c with
  | zero=>exact (bE m z).elim
  | succ c=>
   unfold fJ at m
   refine sq<|pn 1 E z λ a E=>wS<|wif E m z (λ m=>?_) λ m=>?_
   ·refine wK<|aA<|wS<|wB<|sp 2 E z λ a E=>xp 3 E z λ a E=>bd m λ n j m=>dB E H (wn z) z z z z z (b _ e) U33 sz9 j λ q9 a H E=>sv2 E z (sK E H z z m0 U9 z) λ a E=>bd m λ l i m=>bK E (wn z) z z (bN E z z z ((cf_ 159) _)) (Qj H i)<|?_
    rintro _ w ⟨rfl,H⟩ a E
    refine nt<|wif E m z (λ m=>?_) λ m=>?_
    ·refine sq<|pn 2 E z λ a E=>wR<|bD<|aG<|aG<|bD<|aG<|o1 E z<|?_
     cases m
     exact ⟨z,H.reads (Y1 b)⟩
    ·exact wK<|bP<|aA<|wG<|pn 2 E z λ a E=>⟨c,nL c,_,_,E.to z,H,(Y1 b),m⟩
   ·refine wX<|aT<|aT<|cL<|aA<|sq<|pn 1 E z λ a E=>wR<|o1 E z<|?_
    cases m
    exact ⟨z,H.reads b⟩

def jX(b:List BY):Option Bool:=
  (lN b).bind λ c=>some (decide (c ≥ 0))
theorem F7{b:VL}{c:List BY}(H:Sep w (Fo) rs)(d:rSl kS b c ∈ rs){r:Bool}(m:jX c=some r) :
    Cf 97 [b,.func (.func 159) #[] #[]] w λ v w'=>.bool r=v/\Sep w' (Fo) (rs):=by
 unfold jX at m
 refine ent func97 z ntmps97 z z λ a E=>sp 1 E z λ a E=>xp 2 E z λ a E=>bd m λ f e m=>xk2 E z (cf_ 153) (L6 H d e) λ w H a E=>pn 2 E z λ a E=>wR<|o1 E z<|?_
 cases m
 exact ⟨z,H.reads Y0⟩

def gX(c:List BY)(d:BY):Nat->Int->Option Int
  | 0,_=>none
  | e+1,b=>
    if (decide (b < (c.length:Int)))=true then ((idx c b).bind λ f=>if (sEq d f)=true then (some (b)) else (gX c d e (IntKind.i64.wrap (b+1)))) else (some ((-1)))
def pR(b:List BY)(c:BY):Option Int:=
  gX b c (((b.length:Int) - 0:Int).toNat+1) 0
theorem V4{g:VL}{d:List BY}{e:BY}(H:Sep w (Fo) rs)(f:rSl kS g d ∈ rs){r:Int}(m:pR d e=some r) :
    Cf 234 [g,.string e] w λ v w'=>.int .i64 r=v/\Sep w' (Fo) (rs):=by
 unfold pR at m
 refine ent func234 z ntmps234 z z λ a E=>sq<|pn 1 E z λ a E=>wS<|sp 1 E z λ a E=>lS E H f U33 z λ a E=>pr 1 E z λ a E=>nt<|wB<|bG (λ c a w=>∃ i,Jn 19 a w [(0,g),(1,.string e),(7,.int .i64 (d.length:Int)),(8,.int .i64 i)] (Fo) rs (gX d e c i=some r)) (((d.length:Int) - 0:Int).toNat+1) ?_ ?_
 ·exact ⟨_,_,E.to z,H,Y0,m⟩
 ·clear E H m
  rintro c a w ⟨i,k,E,H,b,m⟩
  cases c with
  | zero=>exact (bE m z).elim
  | succ c=>
   unfold gX at m
   refine sq<|pn 1 E z λ a E=>wS<|wif E m z (λ m=>?_) λ m=>?_
   ·refine wK<|aA<|wS<|wB<|sp 2 E z λ a E=>xp 3 E z λ a E=>bd m λ l j m=>dB E H (wn z) z z z z z (b _ f) U33 sz9 j λ q10 a H E=>sv2 E z (sK E H z z m0 U9 z) λ a E=>pn 1 E z λ a E=>wif E m z (λ m=>?_) λ m=>?_
    ·refine sq<|pn 2 E z λ a E=>wR<|bD<|aG<|aG<|bD<|aG<|o1 E z<|?_
     cases m
     exact ⟨z,H.reads (Y1 b)⟩
    ·exact wK<|bP<|aA<|wG<|pn 2 E z λ a E=>⟨c,nL c,_,_,E.to z,H,(Y1 b),m⟩
   ·refine wX<|aT<|aT<|cL<|aA<|sq<|pn 1 E z λ a E=>wR<|o1 E z<|?_
    cases m
    exact ⟨z,H.reads b⟩

def jT(b:List BY)(c:BY):Option Bool:=
  (pR b c).bind λ d=>some (decide (d ≥ 0))
theorem O9{b:VL}{c:List BY}{d:BY}(H:Sep w (Fo) rs)(e:rSl kS b c ∈ rs){r:Bool}(m:jT c d=some r) :
    Cf 164 [b,.string d] w λ v w'=>.bool r=v/\Sep w' (Fo) (rs):=by
 unfold jT at m
 refine ent func164 z ntmps164 z z λ a E=>sp 1 E z λ a E=>xp 2 E z λ a E=>bd m λ g f m=>xk2 E z (cf_ 234) (V4 H e f) λ w H a E=>pn 2 E z λ a E=>wR<|o1 E z<|?_
 cases m
 exact ⟨z,H.reads Y0⟩

def wQ(rec_1:Bool->Int->Bw->Option W6)(x20:Int)(b:Bool)(c:Bw):Option W6:=
  rec_1 b (IntKind.i64.wrap (x20+1)) c
def zK(rec_1:Bool->Int->Bw->Option W6)(x20:Int)(b:aQ)(d:Int)(x3:Int)(c:Bw)(e:Bool)(f:Bool):Option W6:=
  if f=true then ((ck (Ty b.Age b.Txn d x3)).bind λ j=>if (Nq b.Age b.Txn d x3)=true then ((mlk (kyI .i64) c b.Txn).bind λ g=>(mpt (kyI .i64) c b.Txn (IntKind.i64.wrap ((g.getD 0)+1))).bind λ i=>wQ rec_1 x20 false i) else (wQ rec_1 x20 false c)) else (wQ rec_1 x20 e c)
def zL(rec_2:jG->Int->Option W6)(b:Int)(c:jG):Option W6:=
  rec_2 c (IntKind.i64.wrap (b+1))
def mA(e:List BY)(x3:Int)(g:Int):Nat->jG->Int->Option W6
  | 0,_,_=>none
  | i+1,b,d=>
    if (decide (d < (e.length:Int)))=true then ((idx e d).bind λ f=>(fU b f).bind λ c=>if (!c.2)=true then ((ck (0 <= c.1/\c.1 <= b.length/\b.length <= 1000000)).bind λ j=>zL (mA e x3 g i) d (b.take c.1.toNat ++ (⟨f,x3,g⟩:aQ)::b.drop c.1.toNat)) else (zL (mA e x3 g i) d b)) else (some (b,[],true))
def kW(e:Int)(x3:Int)(f:List BY)(c:List aQ):Nat->Bool->Int->Bw->Option W6
  | 0,_,_,_=>none
  | i+1,g,x20,b=>
    if (decide (x20 < (c.length:Int)))=true then ((idx c x20).bind λ d=>if (d.Txn != x3)=true then ((jT f d.Dir).bind λ j=>zK (kW e x3 f c i) x20 d e x3 b g j) else (zK (kW e x3 f c i) x20 d e x3 b g false)) else (if (!g)=true then ((lF b).bind λ k=>(ck (b.length <= 1000000)).bind λ l=>some (c,Nr (b.map (·.1)),false)) else ((ck (c.length <= LIM)).bind λ m=>mA f x3 e (((f.length:Int) - 0:Int).toNat+1) c 0))
def qM(d:Int)(x3:Int)(e:List BY)(b:List aQ)(c:Bool):Option W6:=
  if c=true then (some (([]:List aQ),[],false)) else (kW d x3 e b (((b.length:Int) - 0:Int).toNat+1) true 0 [])
def w5(b:List aQ)(x3:Int)(c:Int)(d:List BY):Option W6:=
  (jX d).bind λ e=>(iG b x3 c).bind λ f=>(C7 b).bind λ g=>if (!g)=true then (qM c x3 d b true) else ((sD x3).bind λ i=>if (!i)=true then (qM c x3 d b true) else ((sD c).bind λ j=>if (!j)=true then (qM c x3 d b true) else (if e=true then (qM c x3 d b true) else (qM c x3 d b f))))
theorem Uv{y B:VL}{q:List aQ}{x3 b:Int}{n:List BY}(H:Sep w (Fo) rs)(s:rSl aY y q ∈ rs)(P:rSl kS B n ∈ rs){r:jG×(List Int)×Bool}(m:w5 q x3 b n=some r) :
    Cf 102 [y,.int .i64 x3,.int .i64 b,B] w λ v w'=>∃ c9 d0,.tuple #[c9,d0,.bool r.2.2]=v/\Sep w' (Row 2 (kI .i64) d0 r.2.1::Fo) (rSl aY c9 r.1::rs):=by
 unfold w5 at m
 refine ent func102 z ntmps102 z z λ a E=>sq<|bx E H z λ l w a H E=>bx E H z λ f w a H E=>pr 3 E z λ a E=>xp 1 E z λ a E=>bd m λ d7 b1 m=>xk2 E z (cf_ 97) (F7 H P b1) λ w H a E=>pr 1 E z λ a E=>xp 1 E z λ a E=>sv2 E z (nT E z z z) λ a E=>have H:=H.frs [0,1] z;bd m λ d8 b2 m=>xk2 E z (cf_ 160) (y5 H s b2) λ w H a E=>pn 1 E z λ a E=>wS<|aJ (λ a w=>∃ Q,Jn 108 a w [(0,y),(3,B),(5,pt l 0),(6,pt f 0),(45,.bool Q)] (Blk l 2 [.int .i64 x3]::Blk f 2 [.int .i64 b]::Fo) rs (qM b x3 n q Q=some r)) ?_ ?_
 ·refine wG<|pr 1 E z λ a E=>bd m λ d9 b3 m=>xk2 E z (cf_ 162) (Sb H s b3) λ w H a E=>pr 2 E z λ a E=>cs m (λ o m=>?_) λ o m=>?_
  ·exact pk 15 E (kc 30 z o) z λ a E=>nt<|⟨_,_,E.to z,H,Y0,m⟩
  ·refine gl 30 E H 0 o U2 z λ a E=>bd m λ e0 b4 m=>gc 30 E o z (cf_ 163) (K6 H b4)<|?_
   rintro _ w ⟨rfl,H⟩ a E
   refine pk 3 E (kc 30 z o) z λ a E=>cs m (λ p m=>?_) λ p m=>?_
   ·exact pk 10 E (kc 35 z p) z λ a E=>nt<|⟨_,_,E.to z,H,Y0,m⟩
   ·refine gl 35 E H 1 p U2 z λ a E=>bd m λ e1 b5 m=>gc 35 E p z (cf_ 163) (K6 H b5)<|?_
    rintro _ w ⟨rfl,H⟩ a E
    refine pk 3 E (kc 35 z p) z λ a E=>cs m (λ J m=>?_) λ J m=>?_
    ·exact pk 5 E (kc 40 z J) z λ a E=>nt<|⟨_,_,E.to z,H,Y0,m⟩
    ·refine pk 3 E (kc 40 z J) z λ a E=>cs m (λ L m=>?_) λ L m=>?_
     ·exact pk 2 E (kc 43 z L) z λ a E=>nt<|⟨_,_,E.to z,H,Y0,m⟩
     ·exact pk 2 E (kc 43 z L) z λ a E=>nt<|⟨_,_,E.to z,H,Y0,m⟩
 ·clear E H m
  rintro a w ⟨Q,d1,E,H,M,m⟩
  unfold qM at m
  refine wif E m z (λ m=>?_) λ m=>?_
  ·refine sq<|pn 3 E z λ a E=>wR<|aG<|Tf E z z z z<|have H:=H.nilSl aY;have H:=H.nilRow 2 (kI .i64);have H:=H.drs [1,1];?_
   cases m
   exact ⟨_,_,z,H.reads (aD m0 (λ r hr=>(t1 (M r hr))))⟩
  ·refine wK<|aA<|sq<|C9 (k:=2) (K:=(kyI .i64)) (d:=(kI .i64)) (g:=false) E H (wn z) z z z λ t w a H E=>pr 1 E z λ a E=>nx<|pn 1 E z λ a E=>wS<|sp 1 E z λ a E=>lS E H (M _ s) U58 z λ a E=>pn 1 E z λ a E=>wB<|bG (λ C a w=>∃ D x20 F,Jn 108 a w [(0,y),(3,B),(5,pt l 0),(6,pt f 0),(13,.map (some t)),(14,.bool D),(47,y),(48,.int .i64 (q.length:Int)),(49,.int .i64 x20)] (Blk l 2 [.int .i64 x3]::Blk f 2 [.int .i64 b]::bX Tryz.prog 2 (kyI .i64) (kI .i64) false t F::Fo) rs (kW b x3 n q C D x20 F=some r)) (((q.length:Int) - 0:Int).toNat+1) ?_ ?_
   ·exact have H:=H.frs [0,2,2] z;X4 ⟨E.to z,H,M,m⟩
   ·clear E H m
    rintro C a w ⟨D,x20,F,d2,E,H,c,m⟩
    cases C with
    | zero=>exact (bE m z).elim
    | succ C=>
     unfold kW at m
     refine sq<|pn 1 E z λ a E=>wS<|wif E m z (λ m=>?_) λ m=>?_
     ·refine wK<|aA<|aJ (λ a w=>∃ R S,Jn 108 a w [(0,y),(3,B),(5,pt l 0),(6,pt f 0),(13,.map (some t)),(14,.bool R),(47,y),(48,.int .i64 (q.length:Int)),(49,.int .i64 x20)] (Blk l 2 [.int .i64 x3]::Blk f 2 [.int .i64 b]::bX Tryz.prog 2 (kyI .i64) (kI .i64) false t S::Fo) rs (wQ (kW b x3 n q C) x20 R S=some r)) ?_ ?_
      ·refine wB<|sq<|bd m λ Y b6 m=>dB E H (wn z) z z z z z (c _ s) U58 jZ b6 λ q30 a H E=>ldf gR E H z z z z z m0 U78 z jZ λ a E=>al2 E H z DU λ Z w a H E=>ss 0 E H z jZ z λ w H=>nt<|aJ (λ a w=>∃ T,Jn 108 a w [(0,y),(3,B),(5,pt l 0),(6,pt f 0),(13,.map (some t)),(14,.bool D),(16,pt Z 0),(47,y),(48,.int .i64 (q.length:Int)),(49,.int .i64 x20),(62,.bool T)] (Blk l 2 [.int .i64 x3]::Blk f 2 [.int .i64 b]::bX Tryz.prog 2 (kyI .i64) (kI .i64) false t F::Blk Z 78 (uY Y)::Fo) rs (zK (kW b x3 n q C) x20 Y b x3 F D T=some r)) ?_ ?_
       ·refine wG<|pr 1 E z λ a E=>lb2 E H 0 U2 z λ a E=>lb2 E H 1 U2 z λ a E=>pr 2 E z λ a E=>cs m (λ j m=>?_) λ j m=>?_
        ·refine pk 2 E (kc 57 z j) z λ a E=>gl 57 E H 0 j U9 z λ a E=>bd m λ e2 b7 m=>gc 57 E j z (cf_ 164) (O9 H (t1 (c _ P)) b7)<|?_
         rintro _ w ⟨rfl,H⟩ a E
         exact pk 1 E (kc 57 z j) z λ a E=>nt<|have H:=H.frs [0,3,3,3] z;⟨_,_,E.to z,H,(Y1 c),m⟩
        ·exact pk 5 E (kc 57 z j) z λ a E=>nt<|have H:=H.frs [0,3,3,3] z;⟨_,_,E.to z,H,(Y1 c),m⟩
       ·clear E H m
        rintro a w ⟨T,d3,E,H,N,m⟩
        unfold zK at m
        refine wif E m z (λ m=>?_) λ m=>?_
        ·refine sp 1 E z λ a E=>xp 1 E z λ a E=>lb2 E H 3 U2 z λ a E=>pr 1 E z λ a E=>lb2 E H 3 U2 z λ a E=>lb2 E H 1 U2 z λ a E=>lb2 E H 0 U2 z λ a E=>bk m λ b8 m=>xc2 E z (cf_ 165) (IE H b8)<|?_
         rintro _ w ⟨rfl,H⟩ a E
         refine nt<|wif E m z (λ m=>?_) λ m=>?_
         ·exact wG<|pr 2 E z λ a E=>lb2 E H 3 U2 z λ a E=>bd m λ b0 b9 m=>sv2 E z (Tu (i:=2) (K:=(kyI .i64)) (z0:=0) (u:=b0) E H z z z z (gA U2) MI Uh b9) λ a E=>pr 1 E z λ a E=>bd m λ e3 c0 m=>Xc (i:=2) (K:=(kyI .i64)) (v:=IntKind.i64.wrap ((b0.getD 0)+1)) E H (wn z) z z z z z z (gA U2) MI c0 λ w H=>wN<|bP<|aA<|have H:=H.drop 3;X3 ⟨E.to z,H,N,m⟩
         ·exact wK<|bP<|aA<|have H:=H.drop 3;X3 ⟨E.to z,H,N,m⟩
        ·exact wK<|bP<|aA<|have H:=H.drop 3;X3 ⟨E.to z,H,N,m⟩
      ·clear E H m
       rintro a w ⟨R,S,d4,E,H,c1,m⟩
       unfold wQ at m
       exact wG<|pn 2 E z λ a E=>⟨C,nL C,X4 ⟨E.to z,H,c1,m⟩⟩
     ·refine wX<|aT<|aT<|cL<|aA<|wS<|sq<|pn 2 E z λ a E=>wif E m z (λ m=>?_) λ m=>?_
      ·refine sp 2 E z λ a E=>have H:=H.frs [1,1,2] z;bd m λ e4 c2 m=>xc2 E z (cf_ 167) (K7 H c2)<|?_
       rintro _ w ⟨e5,rfl,H⟩ a E
       refine bk m λ c3 m=>xc2 E z (cf_ 166) (EB (ip:=0) (im:=1) H z z c3) λ e6 w H a E=>pn 3 E z λ a E=>wR<|aG<|Tf E z z z z<|have H:=H.drs [1,1,1,1];?_
       cases m
       exact ⟨_,_,z,H.reads (aD (c _ s) (c))⟩
      ·refine wK<|aA<|sp 1 E z λ a E=>bk m λ c4 m=>xc2 E z (cf_ 60) (nZ H (c _ s) c4) λ e7 w H a E=>pn 1 E z λ a E=>wS<|sp 1 E z λ a E=>lS E H (c _ P) U33 z λ a E=>pn 1 E z λ a E=>wB<|bG (λ O a w=>∃ U V G,Jn 108 a w [(5,pt l 0),(6,pt f 0),(17,U),(84,B),(85,.int .i64 (n.length:Int)),(86,.int .i64 G)] (Blk l 2 [.int .i64 x3]::Blk f 2 [.int .i64 b]::Row 78 aY U V::Fo) rs (mA n x3 b O V G=some r)) (((n.length:Int) - 0:Int).toNat+1) ?_ ?_
       ·exact have H:=H.drop 3;have H:=H.frs [0,2,2] z;X4 ⟨E.to z,H,c,m⟩
       ·clear E H m
        rintro O a w ⟨U,V,G,d5,E,H,A,m⟩
        cases O with
        | zero=>exact (bE m z).elim
        | succ O=>
         unfold mA at m
         refine sq<|pn 1 E z λ a E=>wS<|wif E m z (λ m=>?_) λ m=>?_
         ·refine wK<|aA<|aJ (λ a w=>∃ W X,Jn 108 a w [(5,pt l 0),(6,pt f 0),(17,W),(84,B),(85,.int .i64 (n.length:Int)),(86,.int .i64 G)] (Blk l 2 [.int .i64 x3]::Blk f 2 [.int .i64 b]::Row 78 aY W X::Fo) rs (zL (mA n x3 b O) G X=some r)) ?_ ?_
          ·refine wB<|sq<|bd m λ I c5 m=>dB E H (wn z) z z z z z (A _ P) U33 sz9 c5 λ q64 a H E=>sv2 E z (sK E H z z m0 U9 z) λ a E=>pr 1 E z λ a E=>xp 2 E z λ a E=>have H:=H.frs [1,1,2] z;bd m λ e8 c6 m=>xk2 E z (cf_ 168) (xQ H c6) λ w H a E=>pr 5 E z λ a E=>nx<|pn 2 E z λ a E=>wif E m z (λ m=>?_) λ m=>?_
           ·exact wG<|pr 3 E z λ a E=>lb2 E H 1 U2 z λ a E=>lb2 E H 2 U2 z λ a E=>sv2 E z (cH E z (E.evs z) (v:=.agg #[.string I,.int .i64 x3,.int .i64 b]) (by kernel_rfl)) λ a E=>kG (e:=78) (d:=aY) (cs:=[.string I,.int .i64 x3,.int .i64 b]) (xs:=[(⟨I,x3,b⟩:aQ)]) E H (wn z) z z z (E.evs z) (by kernel_rfl) z z (λ ok hr=>(Rows.single (d:=aY) (cs:=[.string I,.int .i64 x3,.int .i64 b]) (x:=(⟨I,x3,b⟩:aQ)) Fu)) λ e9 w a H E=>bk m λ c7 m=>xc2 E z (cf_ 170) (Ho.insert_a (ix:=1) (iu:=0) H z z (by decide) c7) λ f0 w H a E=>pr 1 E z λ a E=>wN<|bP<|aA<|have H:=H.drop 0;have H:=H.frs [0,2,2] z;X3 ⟨E.to z,H,(Y1 A),m⟩
           ·exact wK<|bP<|aA<|have H:=H.frs [0,2,2] z;X3 ⟨E.to z,H,(Y1 A),m⟩
          ·clear E H m
           rintro a w ⟨W,X,d6,E,H,c8,m⟩
           unfold zL at m
           exact wG<|pn 2 E z λ a E=>⟨O,nL O,X4 ⟨E.to z,H,c8,m⟩⟩
         ·refine wX<|aT<|aT<|cL<|aA<|sq<|pn 4 E z λ a E=>wR<|Tf E z z z z<|have H:=H.thaw (i:=2) z;have H:=H.nilRow 2 (kI .i64);have H:=H.drs [1,1];?_
          cases m
          exact ⟨_,_,z,H.reads (aD m0 (λ r hr=>(t1 (A r hr))))⟩

def tC(f:List xN)(x20:aK)(g:jG×(List Int)×Bool)(b:Int)(c:Q4)(d:Int):Option Um:=
  (mpt (kyI .i64) f x20.Txn (⟨false,x20.Pieces,(⟨b,d,b == 0,0,c,(⟨[],[]⟩:aR),[],[],[]⟩:aX)⟩:gC)).bind λ e=>some ((⟨b,d,b == 0,0,c,(⟨[],[]⟩:aR),[],[],[]⟩:aX),g.1,e)
def oZ(c:List xN)(x20:aK)(f:List aQ)(g:eH)(j:List aH)(k:List aL)(e:Int):Option Um:=
  if (e != 0)=true then ((dJ e).bind λ i=>some (i,f,c)) else ((w5 f x20.Txn x20.Age g).bind λ d=>if (!d.2.2)=true then (some ((⟨131,0,false,0,[],(⟨[],[]⟩:aR),[],[],d.2.1⟩:aX),f,c)) else ((D3 (⟨j,k⟩:aR) x20.Pieces).bind λ b=>tC c x20 d b.2.2.1 b.2.1 b.2.2.2))
def pA(b:List xN)(x20:aK)(e:List aQ)(c:eH)(f:List aH)(g:List aL)(i:Int)(d:Bool):Option Um:=
  if d=true then (oZ b x20 e c f g 2) else (oZ b x20 e c f g i)
def tD(b:List xN)(x20:aK)(e:List aQ)(f:List aH)(g:List aL)(x:List aF)(i:Bool)(j:Bool)(y:z8)(k:Int)(l:Int)(m:Bool)(n:Int)(o:Q4)(p:eI)(q:dU)(s:zZ)(t:Jk)(u:(List Int)):Option Um:=
  if i=true then (if j=true then ((dJ 133).bind λ v=>some (v,e,b)) else (some ((⟨k,l,m,n,o,(⟨p,q⟩:aR),s,t,u⟩:aX),e,b))) else ((w4 x20.Pieces).bind λ c=>(qU x c).bind λ d=>if (d == 0)=true then (pA b x20 e c f g d ((b.length:Int) == 128)) else (pA b x20 e c f g d false))
def sE(d:List aH)(e:List aL)(f:List aF)(g:List aQ)(c:List xN)(x20:aK):Option Um:=
  (L3 (kyI .i64) c x20.Txn W2).bind λ b=>tD c x20 g d e f b.2 b.1.over_ b.1.pieces_ b.1.a_.Err b.1.a_.At b.1.a_.Yes b.1.a_.Epoch b.1.a_.Results b.1.a_.Store.Nodes b.1.a_.Store.Turns b.1.a_.Events b.1.a_.Mounts b.1.a_.Wounded
theorem Dz{k d:Nat}{D F J N o x y A p q s t:VL}{b1:List aH}{b2:List aL}{f0:List aF}{c3:List aQ}{u:List xN}{x20:aK}(H:Sep w (Blk k 87 [D,F,J,N,p,q,s,.map (some d),t]::bX Tryz.prog 2 (kyI .i64) dC true d u::Fo) rs)(c4:rSl aB D b1 ∈ rs)(c5:rSl aC F b2 ∈ rs)(f1:rSl aN J f0 ∈ rs)(L:rSl aY N c3 ∈ rs)(M:rSl bR o x20.Pieces ∈ rs)(c6:N5 Tryz.prog ∈ rs){r:aX×jG×Q5}(m:sE b1 b2 f0 c3 u x20=some r) :
    Cf 43 [pt k 0,.agg (aM x20 o x y A).toArray] w λ v w'=>∃ f8 f9 g0 g1 g2 g3 g4,.agg (aW r.1 f8 f9 g0 g1 g2 g3).toArray=v/\Sep w' (Blk k 87 [D,F,J,g4,p,q,s,.map (some d),t]::bX Tryz.prog 2 (kyI .i64) dC true d r.2.2::Fo) (rSl aZ f8 r.1.Results::rSl aB f9 r.1.Store.Nodes::rSl aC g0 r.1.Store.Turns::rSl aS g1 r.1.Events::rSl bI g2 r.1.Mounts::rSl (kI .i64) g3 r.1.Wounded::rSl aY g4 r.2.1::rs):=by
 unfold sE at m
 refine ent func43 z ntmps43 z z λ a E=>sq<|bx E H z λ e w a H E=>al2 E H z lQ λ C w a H E=>nt<|wS<|aJ (λ a w=>∃ c7 e6 Q R S T U V c8 c9 e7 X Y Z b0 d0 d1 d2 d3 d4 d5 j,Env 103 a [(0,pt k 0),(3,pt e 0),(4,pt C 0),(5,pt c7 0),(6,.bool c8)]/\Sep w (Blk k 87 [D,F,J,N,p,q,s,.map (some d),t]::Blk e 37 (aM x20 o x y A)::Blk C 48 bJ::Blk c7 154 [.bool c9,e6,.int .i64 X,.int .i64 Y,.bool Z,.int .i64 b0,Q,R,S,T,U,V]::bX Tryz.prog 2 (kyI .i64) dC true d u::Fo) j/\(∀ r,r ∈ rs->r ∈ j)/\rSl aZ Q d0 ∈ j/\rSl aB R d1 ∈ j/\rSl aC S d2 ∈ j/\rSl aS T d3 ∈ j/\rSl bI U d4 ∈ j/\rSl (kI .i64) V d5 ∈ j/\tD u x20 c3 b1 b2 f0 c8 c9 e7 X Y Z b0 d0 d1 d2 d3 d4 d5=some r) ?_ ?_
 ·refine bd m λ i9 b5 m=>?_
  have hI:dI [Blk e 37 (aM x20 o x y A),Blk k 87 [D,F,J,N,p,q,s,.map (some d),t]] [] { w with drawn:=w.drawn+1 }:=⟨_,_,H.kept (Kp.drawn _ w _),(aU mm1 (aU mm2 (bH))),(bO)⟩
  refine oN _ (.go 0 0 (.go 1 0 (.go 2 0 (.go 3 0 (.go 4 0 (.go 5 0 (.alt 6 (.go 7 0 (.go 8 0 (.go 9 0 (.go 10 1 (.go 11 1 (.go 12 2 .nil)))))) 10 (.go 6 1 (.go 7 0 (.go 8 0 (.go 9 0 (.go 11 1 (.go 12 2 .nil))))))))))))) [12] pI (by kernel_rfl) (λ _ _ _ h=>False.elim h.2) hI<|have H:=H.kept (Kp.drawn _ w (w.drawn+1));?_
  generalize ({ w with drawn:=w.drawn+1 }:WD)=w at H hI ⊢
  replace hI:∃ W,dI [Blk e 37 (aM x20 o x y A),Blk k 87 [D,F,J,N,p,q,s,.map (some d),t]] [] W:=⟨_,hI⟩
  obtain ⟨W0,hI⟩:=hI
  refine om E z λ a E=>ov E z (λ w hW=>(zB E z z)) λ a E=>ov E z (λ w hW=>mM E z z (v:=pt k 7) (Ul _ _)) λ a E=>ol E mm1 U85 z λ a E=>ov E z (λ w hW=>mM E z z (v:=pt e 2) (Od _ _)) λ a E=>ol E m0 U2 z λ a E=>oO z z ?_ ?_
  ·refine sL (i:=3) (K:=(kyI .i64)) E H (wn z) z z z z z z (gA U2) U85 Ok So b5 λ j0 a H E=>?_
   obtain ⟨j1,j2,j3,j4,j5,j6,j7,rfl,h⟩:=W1 H;clear H;have H:=h
   refine nt<|⟨sx H [1,2] z,om E z λ a E=>ox E z λ a E=>ox E z λ a E=>cF z<|al2 E H z Sp λ j8 w a H E=>nt<|⟨sx H [2,3] z,cF z<|ss 0 E H z Sq (M3 H mm6 mm5 mm4 mm3 mm2 mm1 m0) λ w H=>nt<|⟨sx H [2,3] z,cV z<|pn 1 E z λ a E=>fA<|?_⟩⟩⟩
   clear hI
   exact aA<|have H:=H.frs [4,1,2,3,4] z;X22 ⟨E.to z,H,(Y8 Y0),mm5,mm4,mm3,mm2,mm1,m0,m⟩
  ·refine al2 E H z Sp λ j9 w a H E=>nt<|⟨sx H [2,3] z,cF z<|sL (i:=4) (K:=(kyI .i64)) E H (wn z) z z z z z z (gA U2) U85 Ok So b5 λ k0 a H E=>?_⟩
   obtain ⟨k1,k2,k3,k4,k5,k6,k7,rfl,h⟩:=W1 H;clear H;have H:=h
   refine nt<|⟨sx H [2,3] z,om E z λ a E=>ox E z λ a E=>ox E z λ a E=>cF z<|ss 0 E H z Sq (M3 H mm6 mm5 mm4 mm3 mm2 mm1 m0) λ w H=>nt<|⟨sx H [2,3] z,cV z<|pn 1 E z λ a E=>fA<|?_⟩⟩
   clear hI
   exact aA<|have H:=H.frs [4,1,2,3,4] z;X22 ⟨E.to z,H,(Y8 Y0),mm5,mm4,mm3,mm2,mm1,m0,m⟩
 ·clear E H m
  rintro a w ⟨c7,e6,Q,R,S,T,U,V,c8,c9,e7,X,Y,Z,b0,d0,d1,d2,d3,d4,d5,j,E,H,l,d6,d7,d8,d9,e0,e1,m⟩
  unfold tD at m
  refine sq<|pn 1 E z λ a E=>wif E m z (λ m=>?_) λ m=>?_
  ·refine wS<|sp 1 E z λ a E=>lb2 E H 3 U4 z λ a E=>nt<|wif E m z (λ m=>?_) λ m=>?_
   ·refine sq<|bd m λ g5 f2 m=>xc2 E z (cf_ 53) (fB H f2)<|?_
    rintro _ w ⟨g6,g7,g8,g9,i0,i1,rfl,H⟩ a E
    refine ss 2 E H z bV (bA H m0 mm1 mm2 mm3 mm4 mm5) λ w H=>nt<|wR<|aG<|aG<|oB 2 (aW g5 g6 g7 g8 g9 i0 i1) E H U48 z bV<|have H:=H.drs [1,1,1];?_
    cases m
    exact X7 ⟨z,H.rdx [0,1,2,3,4,5] z (aD (t6 (l _ L)) (λ r hr=>(t6 (l r hr))))⟩
   ·refine wK<|aA<|sp 1 E z λ a E=>ln 3 [.int .i64 X,.int .i64 Y,.bool Z,.int .i64 b0,Q,R,S,T,U,V] E H U48 z bV λ a E=>ss 2 E H z bV (bA H d6 d7 d8 d9 e0 e1) λ w H=>nt<|wR<|aG<|oB 2 [.int .i64 X,.int .i64 Y,.bool Z,.int .i64 b0,Q,R,S,T,U,V] E H U48 z bV<|have H:=H.drs [1,1,1];?_
    cases m
    exact X7 ⟨z,H.reads (aD d6 (aD d7 (aD d8 (aD d9 (aD e0 (aD e1 (aD (l _ L) (l))))))))⟩
  ·refine wK<|aA<|sp 1 E z λ a E=>lb2 E H 1 U26 z λ a E=>bd m λ b6 f3 m=>xc2 E z (cf_ 96) (Ij H (l _ M) f3)<|?_
   rintro _ w ⟨b7,rfl,H⟩ a E
   refine pr 1 E z λ a E=>xp 2 E z λ a E=>have H:=H.thaw (i:=0) z;bd m λ e8 f4 m=>xk2 E z (cf_ 100) (S7 H (t1 (l _ f1)) m0 f4) λ w H a E=>pn 1 E z λ a E=>aJ (λ a w=>∃ e2 O,Env 103 a [(0,pt k 0),(3,pt e 0),(4,pt C 0),(7,b7),(8,.int .i64 e2)]/\Sep w (Blk k 87 [D,F,J,N,p,q,s,.map (some d),t]::Blk e 37 (aM x20 o x y A)::Blk C 48 bJ::bX Tryz.prog 2 (kyI .i64) dC true d u::Fo) O/\(∀ r,r ∈ rs->r ∈ O)/\rSl kS b7 b6 ∈ O/\oZ u x20 c3 b6 b1 b2 e2=some r) ?_ ?_
   ·refine aJ (λ a w=>∃ b3 G,Env 103 a [(0,pt k 0),(3,pt e 0),(4,pt C 0),(7,b7),(8,.int .i64 e8),(47,.bool b3)]/\Sep w (Blk k 87 [D,F,J,N,p,q,s,.map (some d),t]::Blk e 37 (aM x20 o x y A)::Blk C 48 bJ::bX Tryz.prog 2 (kyI .i64) dC true d u::Fo) G/\(∀ r,r ∈ rs->r ∈ G)/\rSl kS b7 b6 ∈ G/\pA u x20 c3 b6 b1 b2 e8 b3=some r) ?_ ?_
    ·refine wG<|pr 3 E z λ a E=>cs m (λ n m=>?_) λ n m=>?_
     ·exact pk 3 E (kc 40 z n) z λ a E=>gl 40 E H 0 n U85 z λ a E=>gv 40 E n z (X2 (i:=4) E H z z z U85) λ a E=>pk 2 E (kc 40 z n) z λ a E=>nt<|have H:=H.drop 3;⟨_,_,E.to z,H,(Y1 l),m0,m⟩
     ·exact pk 7 E (kc 40 z n) z λ a E=>nt<|have H:=H.drop 3;⟨_,_,E.to z,H,(Y1 l),m0,m⟩
    ·clear E H m
     rintro a w ⟨b3,G,E,H,b8,b9,m⟩
     unfold pA at m
     refine wif E m z (λ m=>?_) λ m=>?_
     ·exact wG<|pn 1 E z λ a E=>⟨_,_,E.to z,H,b8,b9,m⟩
     ·exact wK<|aA<|⟨_,_,E.to z,H,b8,b9,m⟩
   ·clear E H m
    rintro a w ⟨e2,O,E,H,c,f5,m⟩
    unfold oZ at m
    refine wS<|sq<|pn 2 E z λ a E=>wif E m z (λ m=>?_) λ m=>?_
    ·refine sp 1 E z λ a E=>bd m λ i2 f6 m=>xc2 E z (cf_ 53) (fB H f6)<|?_
     rintro _ w ⟨i3,i4,i5,i6,i7,i8,rfl,H⟩ a E
     refine ss 2 E H z bV (bA H m0 mm1 mm2 mm3 mm4 mm5) λ w H=>nt<|wR<|aG<|oB 2 (aW i2 i3 i4 i5 i6 i7 i8) E H U48 z bV<|have H:=H.drs [1,1];?_
     cases m
     exact X7 ⟨z,H.rdx [0,1,2,3,4,5] z (aD (t6 (c _ L)) (λ r hr=>(t6 (c r hr))))⟩
    ·refine wK<|aA<|wS<|dz [0,0,0,0,0,0,0,0,0,1,0,0,0,0,1,1,2] [0,1] H λ w W0 hI H=>fn 3 E z λ a E=>fb2 E m0 U58 z λ a E=>fn 1 E z λ a E=>fb2 E mm1 U2 z λ a E=>fn 1 E z λ a E=>fb2 E mm1 U2 z λ a E=>fn 1 E z λ a E=>bQ z<|bd m λ c0 f7 m=>xc2 E z (cf_ 102) (Uv H (c _ L) f5 f7)<|?_
     rintro _ w ⟨e9,m1,rfl,H⟩ a E
     refine nt<|⟨sx H [1,2] z,fn 4 E z λ a E=>bQ z<|pn 1 E z λ a E=>⟨sx H [1,2] z,bQ z<|pn 1 E z λ a E=>⟨sx H [1,2] z,bL z<|pn 1 E z λ a E=>bB<|?_⟩⟩⟩
     clear hI
     refine aA<|wS<|sq<|pn 2 E z λ a E=>wif E m z (λ m=>?_) λ m=>?_
     ·refine sp 1 E z λ a E=>?_
      obtain ⟨q99,e3,rfl⟩:=H.rowform (i:=0) z
      refine sv2 E z (cH E z (E.evs z) (v:=.agg #[.int .i64 131,.int .i64 0,.bool false,.int .i64 0,nS,nS,nS,nS,nS,(.slice q99 c0.2.1.length e3)]) (by kernel_rfl)) λ a E=>ss 3 E H z bV z λ w H=>nt<|wR<|aG<|oB 3 [.int .i64 131,.int .i64 0,.bool false,.int .i64 0,nS,nS,nS,nS,nS,(.slice q99 c0.2.1.length e3)] E H U48 z bV<|have H:=H.thaw (i:=0) z;have H:=H.nilSl aZ;have H:=H.nilSl aB;have H:=H.nilSl aC;have H:=H.nilSl aS;have H:=H.nilSl bI;have H:=H.drs [1,1];?_
      cases m
      exact X7 ⟨z,H.rdx [4,3,2,1,0,5] z (aD (t7 (c _ L)) (λ r hr=>(t7 (c r hr))))⟩
     ·refine wK<|aA<|aJ (λ a w=>∃ b4 b f g I,Env 103 a [(0,pt k 0),(3,pt e 0),(4,pt C 0),(8,.int .i64 b),(9,e9),(13,b4),(14,.int .i64 g)]/\Sep w (Blk k 87 [D,F,J,N,p,q,s,.map (some d),t]::Blk e 37 (aM x20 o x y A)::Blk C 48 bJ::Row 93 aZ b4 f::bX Tryz.prog 2 (kyI .i64) dC true d u::Fo) I/\(∀ r,r ∈ rs->r ∈ I)/\rSl aY e9 c0.1 ∈ I/\tC u x20 c0 b f g=some r) ?_ ?_
      ·refine bd m λ k8 c1 m=>?_
       have hI:dI [Blk k 87 [D,F,J,N,p,q,s,.map (some d),t],Blk e 37 (aM x20 o x y A)] [] { w with drawn:=w.drawn+1 }:=⟨_,_,H.kept (Kp.drawn _ w _),(aU mm1 (aU mm2 (bH))),(bO)⟩
       refine oN _ (.go 0 0 (.go 1 0 (.go 2 0 (.go 3 0 (.go 4 0 (.go 5 0 (.alt 6 (.go 7 0 (.go 8 0 (.go 9 0 (.go 10 0 (.go 11 0 (.go 12 1 (.go 13 1 (.go 14 1 (.go 15 1 (.go 16 2 .nil)))))))))) 12 (.go 6 1 (.go 7 0 (.go 8 0 (.go 9 0 (.go 10 0 (.go 11 0 (.go 13 1 (.go 14 1 (.go 15 1 (.go 16 2 .nil))))))))))))))))) [16] pI (by kernel_rfl) (λ _ _ _ h=>False.elim h.2) hI<|have H:=H.kept (Kp.drawn _ w (w.drawn+1));?_
       generalize ({ w with drawn:=w.drawn+1 }:WD)=w at H hI ⊢
       replace hI:∃ W,dI [Blk k 87 [D,F,J,N,p,q,s,.map (some d),t],Blk e 37 (aM x20 o x y A)] [] W:=⟨_,hI⟩
       obtain ⟨W0,hI⟩:=hI
       refine om E z λ a E=>ov E z (λ w hW=>(zB E z z)) λ a E=>ov E z (λ w hW=>mM E z z (v:=pt k 0) (Og _ _)) λ a E=>ov E z (λ w hW=>sI E z z (P7 (us:=[D,F]) m0 z U25 z dN w hW)) λ a E=>ov E z (λ w hW=>mM E z z (v:=pt e 5) (AW _ _)) λ a E=>ol E mm1 U26 z λ a E=>oO z z ?_ ?_
       ·refine xc2 E z (cf_ 23) (Cx (x1:=(⟨b1,b2⟩:aR)) H (t1 (c _ c4)) (t1 (c _ c5)) (t1 (c _ M)) (t1 (c _ c6)) c1)<|?_
        rintro _ w ⟨k9,l0,l1,rfl,H⟩ a E
        refine nt<|⟨sx H [2,3] z,om E z λ a E=>ox E z λ a E=>ox E z λ a E=>ox E z λ a E=>ox E z λ a E=>cF z<|al2 E H z pJ λ l2 w a H E=>nt<|⟨sx H [3,4] z,cF z<|ss 0 E H z dN (pD H m0 mm1) λ w H=>nt<|⟨sx H [3,4] z,cF z<|pn 1 E z λ a E=>⟨sx H [3,4] z,cF z<|pn 1 E z λ a E=>⟨sx H [3,4] z,cV z<|pn 1 E z λ a E=>fA<|?_⟩⟩⟩⟩⟩
        clear hI
        exact aA<|have H:=H.drs [0,1];have H:=H.frs [4,1,4,4,4] z;X5 ⟨E.to z,H,(Y3 c),mm2,m⟩
       ·refine al2 E H z pJ λ l3 w a H E=>nt<|⟨sx H [2,3] z,cF z<|xc2 E z (cf_ 23) (Cx (x1:=(⟨b1,b2⟩:aR)) H (t1 (c _ c4)) (t1 (c _ c5)) (t1 (c _ M)) (t1 (c _ c6)) c1)<|?_⟩
        rintro _ w ⟨l4,l5,l6,rfl,H⟩ a E
        refine nt<|⟨sx H [3,4] z,om E z λ a E=>ox E z λ a E=>ox E z λ a E=>ox E z λ a E=>ox E z λ a E=>cF z<|ss 1 E H z dN (pD H m0 mm1) λ w H=>nt<|⟨sx H [3,4] z,cF z<|pn 1 E z λ a E=>⟨sx H [3,4] z,cF z<|pn 1 E z λ a E=>⟨sx H [3,4] z,cV z<|pn 1 E z λ a E=>fA<|?_⟩⟩⟩⟩
        clear hI
        exact aA<|have H:=H.drs [1,1];have H:=H.frs [4,1,4,4,4] z;X5 ⟨E.to z,H,(Y3 c),mm2,m⟩
      ·clear E H m
       rintro a w ⟨b4,b,f,g,I,E,H,P,c2,m⟩
       unfold tC at m
       refine sp 5 E z λ a E=>?_
       obtain ⟨q108,B,rfl⟩:=H.rowform (i:=3) z
       refine sv2 E z (cH E z (E.evs z) (v:=.agg #[.int .i64 b,.int .i64 g,.bool (b == 0),.int .i64 0,(.slice q108 f.length B),nS,nS,nS,nS,nS]) (by kernel_rfl)) λ a E=>al2 E H z lQ λ l7 w a H E=>ss 0 E H z bV z λ w H=>xp 4 E z λ a E=>?_
       obtain ⟨q111,l8,rfl⟩:=H.slform c2
       refine ss 1 E H z ME z λ w H=>nt<|wS<|dz [0,0,0,0,0,0,0,0,0,0,2] [0,1,2] H λ w W0 hI H=>fn 3 E z λ a E=>fb2 E mm1 U85 z λ a E=>fn 1 E z λ a E=>fb2 E mm2 U2 z λ a E=>fn 1 E z λ a E=>fb2 E mm2 U26 z λ a E=>fbn E [.int .i64 b,.int .i64 g,.bool (b == 0),.int .i64 0,(.slice q108 f.length B),nS,nS,nS,nS,nS] z (wn z) z z z z m0 z U48 z bV λ a E=>?_
       obtain ⟨q113,e4,rfl⟩:=H.slform (P _ M)
       refine fv E z (λ w hW=>(cH E z (E.evs z) (v:=.agg #[.bool false,(.slice q113 x20.Pieces.length e4),.int .i64 b,.int .i64 g,.bool (b == 0),.int .i64 0,(.slice q108 f.length B),nS,nS,nS,nS,nS]) (by kernel_rfl))) λ a E=>bL z<|have H:=H.thaw (i:=4) z;bd m λ l9 e5 m=>T8 (i:=4) (K:=(kyI .i64)) (v:=(⟨false,x20.Pieces,(⟨b,g,b == 0,0,f,(⟨[],[]⟩:aR),[],[],[]⟩:aX)⟩:gC)) (cs:=[.bool false,(.slice q113 x20.Pieces.length e4),.int .i64 b,.int .i64 g,.bool (b == 0),.int .i64 0,(.slice q108 f.length B),nS,nS,nS,nS,nS]) E H (wn z) z z z z z z (gA U2) U85 e5 (λ ok hr=>(U7 (hr _ (t1 (P _ M))) (hr _ m0) (Sl.nil _ _ _) (Sl.nil _ _ _) (Sl.nil _ _ _) (Sl.nil _ _ _) (Sl.nil _ _ _))) λ w H=>nt<|bB<|?_
       clear hI
       refine aA<|sq<|ln 0 [.int .i64 b,.int .i64 g,.bool (b == 0),.int .i64 0,(.slice q108 f.length B),nS,nS,nS,nS,nS] E H U48 z bV λ a E=>ss 3 E H z bV z λ w H=>nt<|wR<|oB 3 [.int .i64 b,.int .i64 g,.bool (b == 0),.int .i64 0,(.slice q108 f.length B),nS,nS,nS,nS,nS] E H U48 z bV<|have H:=H.nilSl aB;have H:=H.nilSl aC;have H:=H.nilSl aS;have H:=H.nilSl bI;have H:=H.nilSl (kI .i64);have H:=H.drs [0,1,1];?_
       cases m
       exact X7 ⟨z,H.rdx [5,4,3,2,1,0] z (aD (t6 c2) (λ r hr=>(t6 (P r hr))))⟩

def qW(i:List aH)(j:List aL)(m:List aF)(k:List aQ)(c:List aO)(d:List aE)(e:List lL)(f:List xN)(g:List lL)(x20:aK)(t:Bool):Option Yx:=
  if t=true then ((dJ 1).bind λ s=>some (s,i,j,m,k,c,d,e,f,g)) else (if (x20.Kind == 2)=true then ((sE i j m k f x20).bind λ n=>some (n.1,i,j,m,n.2.1,c,d,e,n.2.2,g)) else (if (x20.Kind == 3)=true then ((sV i j k c d f x20).bind λ b=>some (b.1,b.2.1,b.2.2.1,m,b.2.2.2.1,b.2.2.2.2.1,b.2.2.2.2.2.1,e,b.2.2.2.2.2.2,g)) else (if (x20.Kind == 4)=true then ((sT g x20).bind λ p=>some (p.1,i,j,m,k,c,d,e,f,p.2)) else (if (x20.Kind == 5)=true then ((sX i j m k x20).bind λ q=>some (q.1,i,j,q.2,k,c,d,e,f,g)) else (if (x20.Kind == 6)=true then ((rZ i j m k x20).bind λ l=>some (l.1,l.2.1,l.2.2.1,l.2.2.2,k,c,d,e,f,g)) else (if (x20.Kind == 7)=true then ((vW i j m x20).bind λ o=>some ((⟨0,0,false,0,[],(⟨[],[]⟩:aR),[],[],[]⟩:aX),o.1,o.2.1,o.2.2,k,c,d,e,f,g)) else none))))))
def jR(n:List aH)(o:List aL)(i:List aF)(j:List aQ)(b:List aO)(c:List aE)(d:List lL)(e:List xN)(f:List lL)(x20:aK)(p:Bool):Option Yx:=
  if p=true then (if (x20.Kind == 1)=true then ((pQ n o i j b c d x20).bind λ g=>some (g.1,g.2.1,g.2.2.1,i,j,g.2.2.2.1,g.2.2.2.2.1,g.2.2.2.2.2,e,f)) else (if (x20.Kind == 8)=true then ((pP b c d x20).bind λ k=>some (k.1,n,o,i,j,k.2.1,k.2.2.1,k.2.2.2,e,f)) else (if (x20.Kind == 9)=true then ((pO b c d x20).bind λ l=>some (l.1,n,o,i,j,l.2.1,l.2.2.1,l.2.2.2,e,f)) else (if (x20.Kind == 10)=true then ((sB b c d x20).bind λ m=>some (m.1,n,o,i,j,m.2.1,m.2.2.1,m.2.2.2,e,f)) else none)))) else (if (decide (x20.Kind ≥ 5))=true then (qW n o i j b c d e f x20 (sEq x20.Prefix (ByteArray.mk #[]))) else (qW n o i j b c d e f x20 false))
def iA(g:List aH)(i:List aL)(j:List aF)(k:List aQ)(b:List aO)(c:List aE)(d:List lL)(e:List xN)(f:List lL)(x20:aK)(l:Bool):Option Yx:=
  if l=true then ((dJ 1).bind λ m=>some (m,g,i,j,k,b,c,d,e,f)) else (if (x20.Kind == 1)=true then (jR g i j k b c d e f x20 (x20.Kind == 1)) else (jR g i j k b c d e f x20 (decide (x20.Kind ≥ 8))))
def cK(i:List aH)(j:List aL)(k:List aF)(l:List aQ)(c:List aO)(d:List aE)(e:List lL)(f:List xN)(g:List lL)(x20:aK):Option Yx:=
  (iV x20).bind λ b=>if (!b)=true then (iA i j k l c d e f g x20 (!b)) else (iA i j k l c d e f g x20 (decide (x20.Kind > 10)))
theorem pB{I t u x:Nat}{V W X Y J K n o p q:VL}{Z:List aH}{b0:List aL}{b1:List aF}{b2:List aQ}{L:List aO}{M:List aE}{A B:List lL}{C:List xN}{x20:aK}(H:Sep w (Blk I 87 [V,W,X,Y,J,K,.map (some t),.map (some u),.map (some x)]::bX Tryz.prog 2 (kyI .i64) bC true t A::bX Tryz.prog 2 (kyI .i64) dC true u C::bX Tryz.prog 2 (kyI .i64) bC true x B::Fo) rs)(e:rSl aB V Z ∈ rs)(f:rSl aC W b0 ∈ rs)(g:rSl aN X b1 ∈ rs)(d:rSl aY Y b2 ∈ rs)(k:rSl aP J L ∈ rs)(l:rSl aI K M ∈ rs)(N:rSl bR n x20.Pieces ∈ rs)(b3:rSl aB o x20.Store.Nodes ∈ rs)(b4:rSl aC p x20.Store.Turns ∈ rs)(b5:rSl kS q x20.Gone ∈ rs)(O:N5 Tryz.prog ∈ rs){r:aX×eI×dU×iS×jG×fQ×eD×pK×Q5×pK}(m:cK Z b0 b1 b2 L M A C B x20=some r) :
    Cf 13 [pt I 0,.agg (aM x20 n o p q).toArray] w λ v w'=>∃ j3 j4 j5 j6 j7 j8 j9 d1 d2 d3 d4 d5,.agg (aW r.1 j3 j4 j5 j6 j7 j8).toArray=v/\Sep w' (Blk I 87 [j9,d1,d2,d3,d4,d5,.map (some t),.map (some u),.map (some x)]::bX Tryz.prog 2 (kyI .i64) bC true t r.2.2.2.2.2.2.2.1::bX Tryz.prog 2 (kyI .i64) dC true u r.2.2.2.2.2.2.2.2.1::bX Tryz.prog 2 (kyI .i64) bC true x r.2.2.2.2.2.2.2.2.2::Fo) (rSl aZ j3 r.1.Results::rSl aB j4 r.1.Store.Nodes::rSl aC j5 r.1.Store.Turns::rSl aS j6 r.1.Events::rSl bI j7 r.1.Mounts::rSl (kI .i64) j8 r.1.Wounded::rSl aB j9 r.2.1::rSl aC d1 r.2.2.1::rSl aN d2 r.2.2.2.1::rSl aY d3 r.2.2.2.2.1::rSl aP d4 r.2.2.2.2.2.1::rSl aI d5 r.2.2.2.2.2.2.1::rs):=by
 unfold cK at m
 refine ent func13 z ntmps13 z z λ a E=>sq<|bx E H z λ D w a H E=>al2 E H z lQ λ F w a H E=>nx<|sv2 E z (cH E z (E.evs z) (v:=.agg #[.nilFunc,.func (.func 42) #[] #[],.func (.func 43) #[] #[],.func (.func 44) #[] #[],.func (.func 45) #[] #[],.func (.func 46) #[] #[],.func (.func 47) #[] #[],.func (.func 48) #[] #[],.func (.func 49) #[] #[],.func (.func 50) #[] #[],.func (.func 51) #[] #[]]) (by kernel_rfl)) λ a E=>al2 E H z PD λ G w a H E=>ss 0 E H z PE z λ w H=>nt<|wS<|wB<|aJ (λ a w=>∃ b6,Jn 46 a w [(0,pt I 0),(3,pt D 0),(4,pt F 0),(5,pt G 0),(7,.bool b6)] (Blk I 87 [V,W,X,Y,J,K,.map (some t),.map (some u),.map (some x)]::Blk D 37 (aM x20 n o p q)::Blk F 48 bJ::Blk G 101 [.nilFunc,.func (.func 42) #[] #[],.func (.func 43) #[] #[],.func (.func 44) #[] #[],.func (.func 45) #[] #[],.func (.func 46) #[] #[],.func (.func 47) #[] #[],.func (.func 48) #[] #[],.func (.func 49) #[] #[],.func (.func 50) #[] #[],.func (.func 51) #[] #[]]::bX Tryz.prog 2 (kyI .i64) bC true t A::bX Tryz.prog 2 (kyI .i64) dC true u C::bX Tryz.prog 2 (kyI .i64) bC true x B::Fo) rs (iA Z b0 b1 b2 L M A C B x20 b6=some r)) ?_ ?_
 ·refine sq<|ln 2 (aM x20 n o p q) E H U37 z z7 λ a E=>bd m λ n7 c3 m=>xk2 E z (cf_ 52) (Ox H N b3 b4 b5 c3) λ w H a E=>pn 2 E z λ a E=>wif E m z (λ m=>?_) λ m=>?_
  ·exact wK<|aA<|have H:=H.frs [6,6,6,3,4,5,6] z;⟨_,_,E.to z,H,Y0,m⟩
  ·exact wG<|pr 1 E z λ a E=>lb2 E H 2 U3 z λ a E=>pn 2 E z λ a E=>have H:=H.frs [6,6,6,3,4,5,6] z;⟨_,_,E.to z,H,Y0,m⟩
 ·clear E H m
  rintro a w ⟨b6,n8,E,H,s,m⟩
  unfold iA at m
  refine wif E m z (λ m=>?_) λ m=>?_
  ·refine sq<|bd m λ k0 d6 m=>xc2 E z (cf_ 53) (fB H d6)<|?_
   rintro _ w ⟨k1,k2,k3,k4,k5,k6,rfl,H⟩ a E
   refine ss 2 E H z bV (bA H m0 mm1 mm2 mm3 mm4 mm5) λ w H=>nt<|wR<|bD<|aG<|oB 2 (aW k0 k1 k2 k3 k4 k5 k6) E H U48 z bV<|have H:=H.drs [1,1,1];?_
   cases m
   exact X12 ⟨z,H.rdx [0,1,2,3,4,5] z (aD (t6 (s _ e)) (aD (t6 (s _ f)) (aD (t6 (s _ g)) (aD (t6 (s _ d)) (aD (t6 (s _ k)) (aD (t6 (s _ l)) (λ r hr=>(t6 (s r hr)))))))))⟩
  ·refine aJ (λ a w=>∃ b7,Jn 46 a w [(0,pt I 0),(3,pt D 0),(4,pt F 0),(5,pt G 0),(15,.bool b7)] (Blk I 87 [V,W,X,Y,J,K,.map (some t),.map (some u),.map (some x)]::Blk D 37 (aM x20 n o p q)::Blk F 48 bJ::Blk G 101 [.nilFunc,.func (.func 42) #[] #[],.func (.func 43) #[] #[],.func (.func 44) #[] #[],.func (.func 45) #[] #[],.func (.func 46) #[] #[],.func (.func 47) #[] #[],.func (.func 48) #[] #[],.func (.func 49) #[] #[],.func (.func 50) #[] #[],.func (.func 51) #[] #[]]::bX Tryz.prog 2 (kyI .i64) bC true t A::bX Tryz.prog 2 (kyI .i64) dC true u C::bX Tryz.prog 2 (kyI .i64) bC true x B::Fo) rs (jR Z b0 b1 b2 L M A C B x20 b7=some r)) ?_ ?_
   ·refine sp 1 E z λ a E=>lb2 E H 1 U3 z λ a E=>pn 2 E z λ a E=>wif E m z (λ m=>?_) λ m=>?_
    ·exact wK<|aA<|⟨_,_,E.to z,H,s,m⟩
    ·exact wG<|pr 1 E z λ a E=>lb2 E H 1 U3 z λ a E=>pn 2 E z λ a E=>⟨_,_,E.to z,H,s,m⟩
   ·clear E H m
    rintro a w ⟨b7,n9,E,H,c,m⟩
    unfold jR at m
    refine wif E m z (λ m=>?_) λ m=>?_
    ·refine wS<|dz [0,0,0,0,0,0,1,2] [1,3] H λ w W0 hI H=>fn 1 E z λ a E=>fbn E (aM x20 n o p q) z (wn z) z z z z m0 z U37 z z7 λ a E=>fn 1 E z λ a E=>fb2 E m0 U3 z λ a E=>cs m (λ b8 m=>?_) λ b8 m=>?_
     ·refine fv E z (λ w hW=>wF (j:=1) E z z z b8 z Ci W3) λ a E=>fb2 E mm1 Cj z λ a E=>bQ z<|have H:=H.frs [6,6,5,5,5,6,6] z;bd m λ k7 d7 m=>xc2 E z (cf_ 54) (Fd H (c _ e) (c _ f) (c _ g) (c _ d) (c _ k) (c _ l) (c _ N) (c _ O) d7)<|?_
      rintro _ w ⟨k8,k9,l0,l1,l2,l3,p4,p5,p6,p7,rfl,H⟩ a E
      refine nt<|⟨sx H [2,4] z,bL z<|ss 3 E H z bV (bA H m0 mm1 mm2 mm3 mm4 mm5) λ w H=>nt<|bB<|?_⟩
      clear hI
      refine aA<|wR<|bD<|aG<|oB 3 (aW k7.1 k8 k9 l0 l1 l2 l3) E H U48 z bV<|have H:=H.drs [2,2,2];?_
      cases m
      exact X12 ⟨z,H.rdx [0,1,2,3,4,5,6] z (aD (t1 mm6) (aD (t2 (t8 (c _ g))) (aD (t2 (t8 (c _ d))) (aD (t2 mm6) (aD (t3 mm6) (λ r hr=>(t2 (t8 (c r hr)))))))))⟩
     ·refine cs m (λ b9 m=>?_) λ b9 m=>?_
      ·refine fv E z (λ w hW=>wF (j:=8) E z z z b9 z Ci W3) λ a E=>fb2 E mm1 Cj z λ a E=>bQ z<|have H:=H.frs [6,6,5,5,5,6,6] z;bd m λ l4 d8 m=>xc2 E z (cf_ 54) (Fc H (c _ k) (c _ l) d8)<|?_
       rintro _ w ⟨l5,l6,l7,l8,l9,m1,p8,p9,rfl,H⟩ a E
       refine nt<|⟨sx H [2,4] z,bL z<|ss 3 E H z bV (bA H m0 mm1 mm2 mm3 mm4 mm5) λ w H=>nt<|bB<|?_⟩
       clear hI
       refine aA<|wR<|bD<|aG<|oB 3 (aW l4.1 l5 l6 l7 l8 l9 m1) E H U48 z bV<|have H:=H.drs [2,2,2];?_
       cases m
       exact X12 ⟨z,H.rdx [0,1,2,3,4,5] z (aD (t8 (c _ e)) (aD (t8 (c _ f)) (aD (t8 (c _ g)) (aD (t8 (c _ d)) (aD mm6 (aD (t1 mm6) (λ r hr=>(t8 (c r hr)))))))))⟩
      ·refine cs m (λ c0 m=>?_) λ c0 m=>?_
       ·refine fv E z (λ w hW=>wF (j:=9) E z z z c0 z Ci W3) λ a E=>fb2 E mm1 Cj z λ a E=>bQ z<|have H:=H.frs [6,6,5,5,5,6,6] z;bd m λ m2 d9 m=>xc2 E z (cf_ 54) (Fb H (c _ k) (c _ l) d9)<|?_
        rintro _ w ⟨m3,m4,m5,m6,m7,m8,q0,q1,rfl,H⟩ a E
        refine nt<|⟨sx H [2,4] z,bL z<|ss 3 E H z bV (bA H m0 mm1 mm2 mm3 mm4 mm5) λ w H=>nt<|bB<|?_⟩
        clear hI
        refine aA<|wR<|bD<|aG<|oB 3 (aW m2.1 m3 m4 m5 m6 m7 m8) E H U48 z bV<|have H:=H.drs [2,2,2];?_
        cases m
        exact X12 ⟨z,H.rdx [0,1,2,3,4,5] z (aD (t8 (c _ e)) (aD (t8 (c _ f)) (aD (t8 (c _ g)) (aD (t8 (c _ d)) (aD mm6 (aD (t1 mm6) (λ r hr=>(t8 (c r hr)))))))))⟩
       ·refine cs m (λ c1 m=>?_) λ c1 m=>?_
        ·refine fv E z (λ w hW=>wF (j:=10) E z z z c1 z Ci W3) λ a E=>fb2 E mm1 Cj z λ a E=>bQ z<|have H:=H.frs [6,6,5,5,5,6,6] z;bd m λ m9 e0 m=>xc2 E z (cf_ 54) (Ih H (c _ k) (c _ l) e0)<|?_
         rintro _ w ⟨n0,n1,n2,n3,n4,n5,q2,q3,rfl,H⟩ a E
         refine nt<|⟨sx H [2,4] z,bL z<|ss 3 E H z bV (bA H m0 mm1 mm2 mm3 mm4 mm5) λ w H=>nt<|bB<|?_⟩
         clear hI
         refine aA<|wR<|bD<|aG<|oB 3 (aW m9.1 n0 n1 n2 n3 n4 n5) E H U48 z bV<|have H:=H.drs [2,2,2];?_
         cases m
         exact X12 ⟨z,H.rdx [0,1,2,3,4,5] z (aD (t8 (c _ e)) (aD (t8 (c _ f)) (aD (t8 (c _ g)) (aD (t8 (c _ d)) (aD mm6 (aD (t1 mm6) (λ r hr=>(t8 (c r hr)))))))))⟩
        ·exact (bE m z).elim
    ·refine aJ (λ a w=>∃ c2,Jn 46 a w [(0,pt I 0),(3,pt D 0),(4,pt F 0),(5,pt G 0),(29,.bool c2)] (Blk I 87 [V,W,X,Y,J,K,.map (some t),.map (some u),.map (some x)]::Blk D 37 (aM x20 n o p q)::Blk F 48 bJ::Blk G 101 [.nilFunc,.func (.func 42) #[] #[],.func (.func 43) #[] #[],.func (.func 44) #[] #[],.func (.func 45) #[] #[],.func (.func 46) #[] #[],.func (.func 47) #[] #[],.func (.func 48) #[] #[],.func (.func 49) #[] #[],.func (.func 50) #[] #[],.func (.func 51) #[] #[]]::bX Tryz.prog 2 (kyI .i64) bC true t A::bX Tryz.prog 2 (kyI .i64) dC true u C::bX Tryz.prog 2 (kyI .i64) bC true x B::Fo) rs (qW Z b0 b1 b2 L M A C B x20 c2=some r)) ?_ ?_
     ·refine wG<|pr 1 E z λ a E=>lb2 E H 1 U3 z λ a E=>pr 2 E z λ a E=>cs m (λ y m=>?_) λ y m=>?_
      ·exact pk 1 E (kc 33 z y) z λ a E=>gl 33 E H 1 y U9 z λ a E=>pk 3 E (kc 33 z y) z λ a E=>nt<|⟨_,_,E.to z,H,c,m⟩
      ·exact pk 5 E (kc 33 z y) z λ a E=>nt<|⟨_,_,E.to z,H,c,m⟩
     ·clear E H m
      rintro a w ⟨c2,n6,E,H,b,m⟩
      unfold qW at m
      refine wif E m z (λ m=>?_) λ m=>?_
      ·refine sq<|bd m λ e1 c4 m=>xc2 E z (cf_ 53) (fB H c4)<|?_
       rintro _ w ⟨e2,e3,e4,e5,e6,e7,rfl,H⟩ a E
       refine ss 2 E H z bV (bA H m0 mm1 mm2 mm3 mm4 mm5) λ w H=>nt<|wR<|bD<|aG<|oB 2 (aW e1 e2 e3 e4 e5 e6 e7) E H U48 z bV<|have H:=H.drs [1,1,1];?_
       cases m
       exact X12 ⟨z,H.rdx [0,1,2,3,4,5] z (aD (t6 (b _ e)) (aD (t6 (b _ f)) (aD (t6 (b _ g)) (aD (t6 (b _ d)) (aD (t6 (b _ k)) (aD (t6 (b _ l)) (λ r hr=>(t6 (b r hr)))))))))⟩
      ·refine wK<|bP<|aA<|wS<|dz [0,0,0,0,0,0,1,2] [1,3] H λ w W0 hI H=>fn 1 E z λ a E=>fb2 E m0 U3 z λ a E=>cs m (λ P m=>?_) λ P m=>?_
       ·refine fv E z (λ w hW=>wF (j:=2) E z z z P z Ci W3) λ a E=>fb2 E mm1 Cj z λ a E=>fn 1 E z λ a E=>fbn E (aM x20 n o p q) z (wn z) z z z z m0 z U37 z z7 λ a E=>bQ z<|have H:=H.frs [6,5,5,5,5,6,6] z;bd m λ e8 c5 m=>bK E (wn z) z z (bN E z z z ((cf_ 43) _)) (Dz H (b _ e) (b _ f) (b _ g) (b _ d) (b _ N) (b _ O) c5)<|?_
        rintro _ w ⟨e9,f0,f1,f2,f3,f4,o0,rfl,H⟩ a E
        refine nt<|⟨sx H [2,4] z,bL z<|ss 3 E H z bV (bA H m0 mm1 mm2 mm3 mm4 mm5) λ w H=>nt<|bB<|?_⟩
        clear hI
        refine aA<|wR<|oB 3 (aW e8.1 e9 f0 f1 f2 f3 f4) E H U48 z bV<|have H:=H.drs [2,2,2];have H:=H.frs [3,2,3,3] z;?_
        cases m
        exact X12 ⟨z,H.rdx [0,1,2,3,4,5] z (aD (t7 (b _ e)) (aD (t7 (b _ f)) (aD (t7 (b _ g)) (aD mm6 (aD (t7 (b _ k)) (aD (t7 (b _ l)) (λ r hr=>(t7 (b r hr)))))))))⟩
       ·refine cs m (λ Q m=>?_) λ Q m=>?_
        ·refine fv E z (λ w hW=>wF (j:=3) E z z z Q z Ci W3) λ a E=>fb2 E mm1 Cj z λ a E=>fn 1 E z λ a E=>fbn E (aM x20 n o p q) z (wn z) z z z z m0 z U37 z z7 λ a E=>bQ z<|have H:=H.frs [6,5,5,5,5,6,6] z;bd m λ f5 c6 m=>bK E (wn z) z z (bN E z z z ((cf_ 44) _)) (Ex H (b _ e) (b _ f) (b _ d) (b _ k) (b _ l) (b _ O) c6)<|?_
         rintro _ w ⟨f6,f7,f8,f9,g0,g1,o1,o2,o3,o4,o5,rfl,H⟩ a E
         refine nt<|⟨sx H [2,4] z,bL z<|ss 3 E H z bV (bA H m0 mm1 mm2 mm3 mm4 mm5) λ w H=>nt<|bB<|?_⟩
         clear hI
         refine aA<|wR<|oB 3 (aW f5.1 f6 f7 f8 f9 g0 g1) E H U48 z bV<|have H:=H.drs [2,2,2];have H:=H.frs [3,2,3,3] z;?_
         cases m
         exact X12 ⟨z,H.rdx [0,1,2,3,4,5,6] z (aD (t1 mm6) (aD (t3 (t8 (b _ g))) (aD (t2 mm6) (aD (t3 mm6) (aD (t4 mm6) (λ r hr=>(t3 (t8 (b r hr)))))))))⟩
        ·refine cs m (λ R m=>?_) λ R m=>?_
         ·refine fv E z (λ w hW=>wF (j:=4) E z z z R z Ci W3) λ a E=>fb2 E mm1 Cj z λ a E=>fn 1 E z λ a E=>fbn E (aM x20 n o p q) z (wn z) z z z z m0 z U37 z z7 λ a E=>bQ z<|have H:=H.frs [5,5,5,5,5,6,6] z;bd m λ g2 c7 m=>bK E (wn z) z z (bN E z z z ((cf_ 45) _)) (Ew H c7)<|?_
          rintro _ w ⟨g3,g4,g5,g6,g7,g8,rfl,H⟩ a E
          refine nt<|⟨sx H [2,4] z,bL z<|ss 3 E H z bV (bA H m0 mm1 mm2 mm3 mm4 mm5) λ w H=>nt<|bB<|?_⟩
          clear hI
          refine aA<|wR<|oB 3 (aW g2.1 g3 g4 g5 g6 g7 g8) E H U48 z bV<|have H:=H.drs [2,2,2];have H:=H.frs [1,3,3,3] z;?_
          cases m
          exact X12 ⟨z,H.rdx [0,1,2,3,4,5] z (aD (t6 (b _ e)) (aD (t6 (b _ f)) (aD (t6 (b _ g)) (aD (t6 (b _ d)) (aD (t6 (b _ k)) (aD (t6 (b _ l)) (λ r hr=>(t6 (b r hr)))))))))⟩
         ·refine cs m (λ S m=>?_) λ S m=>?_
          ·refine fv E z (λ w hW=>wF (j:=5) E z z z S z Ci W3) λ a E=>fb2 E mm1 Cj z λ a E=>fn 1 E z λ a E=>fbn E (aM x20 n o p q) z (wn z) z z z z m0 z U37 z z7 λ a E=>bQ z<|bd m λ g9 c8 m=>bK E (wn z) z z (bN E z z z ((cf_ 46) _)) (Fa H (b _ e) (b _ f) (b _ g) (b _ d) c8)<|?_
           rintro _ w ⟨i0,i1,i2,i3,i4,i5,o6,rfl,H⟩ a E
           refine nt<|⟨sx H [1,3] z,bL z<|ss 2 E H z bV (bA H m0 mm1 mm2 mm3 mm4 mm5) λ w H=>nt<|bB<|?_⟩
           clear hI
           refine aA<|wR<|oB 2 (aW g9.1 i0 i1 i2 i3 i4 i5) E H U48 z bV<|have H:=H.drs [1,1,1];?_
           cases m
           exact X12 ⟨z,H.rdx [0,1,2,3,4,5] z (aD (t7 (b _ e)) (aD (t7 (b _ f)) (aD mm6 (aD (t7 (b _ d)) (aD (t7 (b _ k)) (aD (t7 (b _ l)) (λ r hr=>(t7 (b r hr)))))))))⟩
          ·refine cs m (λ T m=>?_) λ T m=>?_
           ·refine fv E z (λ w hW=>wF (j:=6) E z z z T z Ci W3) λ a E=>fb2 E mm1 Cj z λ a E=>fn 1 E z λ a E=>fbn E (aM x20 n o p q) z (wn z) z z z z m0 z U37 z z7 λ a E=>bQ z<|bd m λ i6 c9 m=>bK E (wn z) z z (bN E z z z ((cf_ 47) _)) (Dv H (b _ e) (b _ f) (b _ g) (b _ d) (b _ b3) (b _ b4) (b _ b5) c9)<|?_
            rintro _ w ⟨i7,i8,i9,j0,j1,j2,o7,o8,o9,rfl,H⟩ a E
            refine nt<|⟨sx H [1,3] z,bL z<|ss 2 E H z bV (bA H m0 mm1 mm2 mm3 mm4 mm5) λ w H=>nt<|bB<|?_⟩
            clear hI
            refine aA<|wR<|oB 2 (aW i6.1 i7 i8 i9 j0 j1 j2) E H U48 z bV<|have H:=H.drs [1,1,1];?_
            cases m
            exact X12 ⟨z,H.rdx [0,1,2,3,4,5,6] z (aD (t1 mm6) (aD (t2 mm6) (aD (t1 (t8 (b _ d))) (aD (t1 (t8 (b _ k))) (aD (t1 (t8 (b _ l))) (λ r hr=>(t1 (t8 (b r hr)))))))))⟩
           ·refine cs m (λ U m=>?_) λ U m=>?_
            ·refine fv E z (λ w hW=>wF (j:=7) E z z z U z Ci W3) λ a E=>fb2 E mm1 Cj z λ a E=>fn 1 E z λ a E=>fbn E (aM x20 n o p q) z (wn z) z z z z m0 z U37 z z7 λ a E=>bQ z<|bd m λ p0 d0 m=>bK E (wn z) z z (bN E z z z ((cf_ 48) _)) (Ic H (b _ e) (b _ f) (b _ g) d0)<|?_
             rintro _ w ⟨p1,p2,p3,rfl,H⟩ a E
             refine nt<|⟨sx H [1,3] z,bL z<|ss 2 E H z bV z λ w H=>nt<|bB<|?_⟩
             clear hI
             refine aA<|wR<|Ei E z (qH (i:=2) (us:=bJ) H z z z U48 z bV)<|have H:=H.nilSl aZ;have H:=H.nilSl aB;have H:=H.nilSl aC;have H:=H.nilSl aS;have H:=H.nilSl bI;have H:=H.nilSl (kI .i64);have H:=H.drs [1,1,1];?_
             cases m
             exact X12 ⟨z,H.rdx [5,4,3,2,1,0,6] z (aD (t1 mm6) (aD (t2 mm6) (aD (t1 (t8 (b _ d))) (aD (t1 (t8 (b _ k))) (aD (t1 (t8 (b _ l))) (λ r hr=>(t1 (t8 (b r hr)))))))))⟩
            ·exact (bE m z).elim

def mT(b:BY):Option z8:=
  (Eu ([(⟨1,b,(ByteArray.mk #[]),0,0,false⟩:fC)]:List fC)).bind λ c=>some (c)
theorem tE{b:BY}(H:Sep w (Fo) rs){r:z8}(m:mT b=some r) :
    Cf 36 [.string b] w λ v w'=>∃ c,c=v/\Sep w' (Row 99 bR c r::Fo) (rs):=by
 unfold mT at m
 refine ent func36 z ntmps36 z z λ a E=>sp 1 E z λ a E=>xp 1 E z λ a E=>sv2 E z (cH E z (E.evs z) (v:=.agg #[.int .i64 1,.string b,.string (ByteArray.mk #[]),.int .i64 0,.int .i64 0,.bool false]) (by kernel_rfl)) λ a E=>kG (e:=134) (d:=N3) (cs:=[.int .i64 1,.string b,.string (ByteArray.mk #[]),.int .i64 0,.int .i64 0,.bool false]) (xs:=[(⟨1,b,(ByteArray.mk #[]),0,0,false⟩:fC)]) E H (wn z) z z z (E.evs z) (by kernel_rfl) z z (λ ok hr=>(Rows.single (d:=N3) (cs:=[.int .i64 1,.string b,.string (ByteArray.mk #[]),.int .i64 0,.int .i64 0,.bool false]) (x:=(⟨1,b,(ByteArray.mk #[]),0,0,false⟩:fC)) Ld)) λ g w a H E=>have H:=H.thaw (i:=0) z;bd m λ j f m=>xc2 E z (cf_ 77) (Yz H m0 f)<|?_
 rintro _ w ⟨k,rfl,H⟩ a E
 refine pn 1 E z λ a E=>wR<|o1 E z<|?_
 cases m
 exact ⟨_,z,H.reads (Y1 Y0)⟩

def w6(x1:aR)(c:List aF)(b:Bool):Option (Option Et):=
  if b=true then (some none) else (some (some (x1.Nodes,x1.Turns,c)))
def xS(x1:aR)(b:List aF):Option (Option Et):=
  (sQ x1).bind λ c=>if (!c)=true then (w6 x1 b true) else ((pE b).bind λ d=>w6 x1 b (!d))
theorem Cz{x1:aR}{l n u:VL}{t:List aF}(H:Sep w (Fo) rs)(o:rSl aB l x1.Nodes ∈ rs)(p:rSl aC n x1.Turns ∈ rs)(q:rSl aN u t ∈ rs){r:Option Et}(m:xS x1 t=some r) :
    Cf 9 [.agg #[l,n],u] w λ v w'=>(r=none/\.pointer none=v/\Sep w' (Fo) rs)∨∃ y,r=some y/\∃ e B C D f i j,pt e 0=v/\Sep w' (Blk e 87 [B,C,D,nS,nS,nS,.map (some f),.map (some i),.map (some j)]::bX Tryz.prog 2 (kyI .i64) bC true f []::bX Tryz.prog 2 (kyI .i64) dC true i []::bX Tryz.prog 2 (kyI .i64) bC true j []::Fo) (rSl aB B y.1::rSl aC C y.2.1::rSl aN D y.2.2::rs):=by
 unfold xS at m
 refine ent func9 z ntmps9 z z λ a E=>sq<|bx E H z λ F w a H E=>pn 1 E z λ a E=>wS<|aJ (λ a w=>∃ s,Jn 20 a w [(1,u),(2,pt F 0),(12,.bool s)] (Blk F 25 [l,n]::Fo) rs (w6 x1 t s=some r)) ?_ ?_
 ·refine wG<|ln 0 [l,n] E H U25 z dN λ a E=>bd m λ P x m=>xk2 E z (cf_ 37) (Q8 H o p x) λ w H a E=>pr 2 E z λ a E=>cs m (λ c m=>?_) λ c m=>?_
  ·exact pk 4 E (kc 8 z c) z λ a E=>nt<|⟨_,_,E.to z,H,Y0,m⟩
  ·refine pk 1 E (kc 8 z c) z λ a E=>bd m λ Q A m=>gc 8 E c z (cf_ 38) (B8 H q A)<|?_
   rintro _ w ⟨rfl,H⟩ a E
   exact pk 2 E (kc 8 z c) z λ a E=>nt<|⟨_,_,E.to z,H,Y0,m⟩
 ·clear E H m
  rintro a w ⟨s,O,E,H,b,m⟩
  unfold w6 at m
  refine wif E m z (λ m=>?_) λ m=>?_
  ·refine sq<|pn 1 E z λ a E=>wR<|aG<|o1 E z<|have H:=H.drop 0;?_
   cases m
   exact .inl ⟨z,z,H.reads (b)⟩
  ·refine wK<|aA<|sq<|ln 0 [l,n] E H U25 z dN λ a E=>pr 1 E z λ a E=>C9 (k:=2) (K:=(kyI .i64)) (d:=bC) (g:=true) E H (wn z) z z z λ G w a H E=>C9 (k:=2) (K:=(kyI .i64)) (d:=dC) (g:=true) E H (wn z) z z z λ I w a H E=>C9 (k:=2) (K:=(kyI .i64)) (d:=bC) (g:=true) E H (wn z) z z z λ J w a H E=>?_
   obtain ⟨q16,L,rfl⟩:=H.slform (b _ o)
   obtain ⟨q18,M,rfl⟩:=H.slform (b _ p)
   obtain ⟨q20,N,rfl⟩:=H.slform (b _ q)
   refine sv2 E z (cH E z (E.evs z) (v:=.agg #[(.slice q16 x1.Nodes.length L),(.slice q18 x1.Turns.length M),(.slice q20 t.length N),nS,nS,nS,.map (some G),.map (some I),.map (some J)]) (by kernel_rfl)) λ a E=>bx E H z λ R w a H E=>pn 1 E z λ a E=>wR<|o1 E z<|have H:=H.drop 4;have H:=H.frs [1,2,3,3] z;?_
   cases m
   exact .inr ⟨_,z,X7 ⟨z,H.reads (aD (b _ o) (aD (b _ p) (aD (b _ q) (b))))⟩⟩

def Z3:Option (Option Et):=
  (xS (⟨([(⟨(ByteArray.mk #[47]),(ByteArray.mk #[]),0,0,0⟩:aH)]:List aH),[]⟩:aR) ([(⟨(ByteArray.mk #[47]),1,1⟩:aF)]:List aF)).bind λ c=>Lp c (some none) λ b=>some (some (b.1,b.2.1,b.2.2))
theorem Il(H:Sep w (Fo) rs){r:Option Et}(m:Z3=some r) :
    Cf 35 [] w λ v w'=>(r=none/\.pointer none=v/\Sep w' (Fo) rs)∨∃ y,r=some y/\∃ b j k l c f g,pt b 0=v/\Sep w' (Blk b 87 [j,k,l,nS,nS,nS,.map (some c),.map (some f),.map (some g)]::bX Tryz.prog 2 (kyI .i64) bC true c []::bX Tryz.prog 2 (kyI .i64) dC true f []::bX Tryz.prog 2 (kyI .i64) bC true g []::Fo) (rSl aB j y.1::rSl aC k y.2.1::rSl aN l y.2.2::rs):=by
 unfold Z3 at m
 refine ent func35 z ntmps35 z z λ a E=>sp 1 E z λ a E=>nx<|sv2 E z (cH E z (E.evs z) (v:=.agg #[.string (ByteArray.mk #[47]),.string (ByteArray.mk #[]),.int .i64 0,.int .i64 0,.int .i64 0]) (by kernel_rfl)) λ a E=>kG (e:=107) (d:=aB) (cs:=[.string (ByteArray.mk #[47]),.string (ByteArray.mk #[]),.int .i64 0,.int .i64 0,.int .i64 0]) (xs:=[(⟨(ByteArray.mk #[47]),(ByteArray.mk #[]),0,0,0⟩:aH)]) E H (wn z) z z z (E.evs z) (by kernel_rfl) z z (λ ok hr=>(Rows.single (d:=aB) (cs:=[.string (ByteArray.mk #[47]),.string (ByteArray.mk #[]),.int .i64 0,.int .i64 0,.int .i64 0]) (x:=(⟨(ByteArray.mk #[47]),(ByteArray.mk #[]),0,0,0⟩:aH)) B2)) λ u w a H E=>?_
 obtain ⟨q2,x3,rfl⟩:=H.rowform (i:=0) z
 refine sv2 E z (cH E z (E.evs z) (v:=.agg #[(.slice q2 ([(⟨(ByteArray.mk #[47]),(ByteArray.mk #[]),0,0,0⟩:aH)]:List aH).length x3),nS]) (by kernel_rfl)) λ a E=>sv2 E z (cH E z (E.evs z) (v:=.agg #[.string (ByteArray.mk #[47]),.int .i64 1,.int .i64 1]) (by kernel_rfl)) λ a E=>kG (e:=31) (d:=aN) (cs:=[.string (ByteArray.mk #[47]),.int .i64 1,.int .i64 1]) (xs:=[(⟨(ByteArray.mk #[47]),1,1⟩:aF)]) E H (wn z) z z z (E.evs z) (by kernel_rfl) z z (λ ok hr=>(Rows.single (d:=aN) (cs:=[.string (ByteArray.mk #[47]),.int .i64 1,.int .i64 1]) (x:=(⟨(ByteArray.mk #[47]),1,1⟩:aF)) q8)) λ A w a H E=>have H:=H.thaw (i:=1) z;have H:=H.nilSl aC;have H:=H.thaw (i:=0) z;bd m λ B n m=>xc2 E z (cf_ 9) (Cz (x1:=(⟨([(⟨(ByteArray.mk #[47]),(ByteArray.mk #[]),0,0,0⟩:aH)]:List aH),[]⟩:aR)) H mm2 mm1 m0 n)<|?_
 rintro _ w (⟨rfl,rfl,H⟩ | ⟨o,rfl,C,D,F,p,q,s,t,rfl,H⟩) a E
 ·replace m:=Nk m
  refine pn 1 E z λ a E=>wR<|o1 E z<|?_
  cases m
  exact .inl ⟨z,z,H.reads (λ r hr=>(t3 hr))⟩
 ·replace m:=Nl m
  refine pn 1 E z λ a E=>wR<|o1 E z<|?_
  cases m
  exact .inr ⟨_,z,X7 ⟨z,H.rdx [0,1,2] z (λ r hr=>(t6 hr))⟩⟩

def nQ(b:List aQ):Option jG:=
  (ck (b.length <= LIM)).bind λ c=>some (b)
theorem E9{k:Nat}{l b c d e f g i j:VL}{p:List aQ}(H:Sep w (Blk k 87 [b,c,d,l,e,f,g,i,j]::Fo) rs)(n:rSl aY l p ∈ rs){r:jG}(m:nQ p=some r) :
    Cf 20 [pt k 0] w λ v w'=>∃ q,q=v/\Sep w' (Row 78 aY q r::Blk k 87 [b,c,d,l,e,f,g,i,j]::Fo) (rs):=by
 unfold nQ at m
 refine ent func20 z ntmps20 z z λ a E=>sp 1 E z λ a E=>xp 3 E z λ a E=>lb2 E H 0 U58 z λ a E=>bk m λ o m=>xc2 E z (cf_ 60) (nZ H n o) λ s w H a E=>pr 1 E z λ a E=>nt<|wR<|o1 E z<|?_
 cases m
 exact ⟨_,z,H.reads Y0⟩

def mU(b:List aF):Option iS:=
  (ck (b.length <= LIM)).bind λ c=>some (b)
theorem A6{k:Nat}{l b c d e f g i j:VL}{p:List aF}(H:Sep w (Blk k 87 [b,c,l,d,e,f,g,i,j]::Fo) rs)(n:rSl aN l p ∈ rs){r:iS}(m:mU p=some r) :
    Cf 25 [pt k 0] w λ v w'=>∃ q,q=v/\Sep w' (Row 31 aN q r::Blk k 87 [b,c,l,d,e,f,g,i,j]::Fo) (rs):=by
 unfold mU at m
 refine ent func25 z ntmps25 z z λ a E=>sp 1 E z λ a E=>xp 3 E z λ a E=>lb2 E H 0 U32 z λ a E=>bk m λ o m=>xc2 E z (cf_ 66) (tJ H n o) λ s w H a E=>pr 1 E z λ a E=>nt<|wR<|o1 E z<|?_
 cases m
 exact ⟨_,z,H.reads Y0⟩

def qX(b:List aH)(c:List aL):Option aR:=
  (ck (b.length <= LIM)).bind λ d=>(ck (c.length <= LIM)).bind λ e=>some ((⟨b,c⟩:aR))
theorem S8{p:Nat}{q s d e f g j k l:VL}{b:List aH}{c:List aL}(H:Sep w (Blk p 87 [q,s,d,e,f,g,j,k,l]::Fo) rs)(t:rSl aB q b ∈ rs)(u:rSl aC s c ∈ rs){r:aR}(m:qX b c=some r) :
    Cf 15 [pt p 0] w λ v w'=>∃ A B,.agg #[A,B]=v/\Sep w' (Blk p 87 [q,s,d,e,f,g,j,k,l]::Fo) (rSl aB A r.Nodes::rSl aC B r.Turns::rs):=by
 unfold qX at m
 refine ent func15 z ntmps15 z z λ a E=>sq<|al2 E H z pJ λ C w a H E=>nt<|wS<|dw [(0,0),(1,0),(2,0),(3,0),(4,0),(6,0),(7,0),(8,0),(9,0),(10,0),(5,1),(11,1),(12,0),(13,2)] [1] [] H (by kernel_rfl) (λ _ _ _ h=>False.elim h.2) λ w W0 hI H=>fn 4 E z λ a E=>fb2 E m0 U22 z λ a E=>fn 4 E z λ a E=>fb2 E m0 U23 z λ a E=>bQ z<|bk m λ x m=>xc2 E z (cf_ 56) (uW H t x) λ D w H a E=>nt<|⟨sx H [2] z,bQ z<|bk m λ y m=>xc2 E z (cf_ 57) (uX H u y) λ F w H a E=>nt<|⟨sx H [3] z,?_⟩⟩
 obtain ⟨q36,n,rfl⟩:=H.rowform (i:=1) z
 obtain ⟨q38,o,rfl⟩:=H.rowform (i:=0) z
 refine fv E z (λ w hW=>(cH E z (E.evs z) (v:=.agg #[(.slice q36 b.length n),(.slice q38 c.length o)]) (by kernel_rfl))) λ a E=>bL z<|ss 2 E H z dN z λ w H=>nt<|bB<|?_
 clear hI
 refine aA<|wR<|oB 2 [(.slice q36 b.length n),(.slice q38 c.length o)] E H U25 z dN<|have H:=H.thaw (i:=1) z;have H:=H.thaw (i:=0) z;have H:=H.drop 0;?_
 cases m
 exact ⟨_,_,z,H.rdx [1,0] z (λ r hr=>(t2 hr))⟩

def I3:Option Bool:=
  Z3.bind λ u=>Lp u (some (false)) λ j=>(mT (ByteArray.mk #[47,97])).bind λ p=>(cK j.1 j.2.1 j.2.2 ([]:List aQ) ([]:List aO) ([]:List aE) [] [] [] (⟨1,1,0,0,false,p,(ByteArray.mk #[]),0,0,(⟨[],[]⟩:aR),[],(⟨0,0,(ByteArray.mk #[]),false⟩:aO)⟩:aK)).bind λ d=>(mT (ByteArray.mk #[47,97])).bind λ q=>(cK d.2.1 d.2.2.1 d.2.2.2.1 d.2.2.2.2.1 d.2.2.2.2.2.1 d.2.2.2.2.2.2.1 d.2.2.2.2.2.2.2.1 d.2.2.2.2.2.2.2.2.1 d.2.2.2.2.2.2.2.2.2 (⟨1,1,0,0,false,q,(ByteArray.mk #[]),0,0,(⟨[],[]⟩:aR),[],(⟨0,0,(ByteArray.mk #[]),false⟩:aO)⟩:aK)).bind λ c=>(mT (ByteArray.mk #[47,97,47,98])).bind λ s=>(cK c.2.1 c.2.2.1 c.2.2.2.1 c.2.2.2.2.1 c.2.2.2.2.2.1 c.2.2.2.2.2.2.1 c.2.2.2.2.2.2.2.1 c.2.2.2.2.2.2.2.2.1 c.2.2.2.2.2.2.2.2.2 (⟨2,0,5,1,false,s,(ByteArray.mk #[]),0,0,(⟨[],[]⟩:aR),[],(⟨0,0,(ByteArray.mk #[]),false⟩:aO)⟩:aK)).bind λ e=>(mT (ByteArray.mk #[47,97,47,99])).bind λ t=>(cK e.2.1 e.2.2.1 e.2.2.2.1 e.2.2.2.2.1 e.2.2.2.2.2.1 e.2.2.2.2.2.2.1 e.2.2.2.2.2.2.2.1 e.2.2.2.2.2.2.2.2.1 e.2.2.2.2.2.2.2.2.2 (⟨1,2,0,0,false,t,(ByteArray.mk #[]),0,0,(⟨[],[]⟩:aR),[],(⟨0,0,(ByteArray.mk #[]),false⟩:aO)⟩:aK)).bind λ f=>(cK f.2.1 f.2.2.1 f.2.2.2.1 f.2.2.2.2.1 f.2.2.2.2.2.1 f.2.2.2.2.2.2.1 f.2.2.2.2.2.2.2.1 f.2.2.2.2.2.2.2.2.1 f.2.2.2.2.2.2.2.2.2 (⟨3,0,5,0,true,[],(ByteArray.mk #[]),0,0,(⟨[],[]⟩:aR),[],(⟨0,0,(ByteArray.mk #[]),false⟩:aO)⟩:aK)).bind λ g=>(cK g.2.1 g.2.2.1 g.2.2.2.1 g.2.2.2.2.1 g.2.2.2.2.2.1 g.2.2.2.2.2.2.1 g.2.2.2.2.2.2.2.1 g.2.2.2.2.2.2.2.2.1 g.2.2.2.2.2.2.2.2.2 (⟨5,0,0,0,false,[],(ByteArray.mk #[47,97]),1,0,(⟨[],[]⟩:aR),[],(⟨0,0,(ByteArray.mk #[]),false⟩:aO)⟩:aK)).bind λ b=>(mT (ByteArray.mk #[47,97,47,100])).bind λ k=>(cK b.2.1 b.2.2.1 b.2.2.2.1 b.2.2.2.2.1 b.2.2.2.2.2.1 b.2.2.2.2.2.2.1 b.2.2.2.2.2.2.2.1 b.2.2.2.2.2.2.2.2.1 b.2.2.2.2.2.2.2.2.2 (⟨1,3,0,0,false,k,(ByteArray.mk #[]),0,0,(⟨[],[]⟩:aR),[],(⟨0,0,(ByteArray.mk #[]),false⟩:aO)⟩:aK)).bind λ i=>if (d.1.Err == 0)=true then (if (c.1.Err == 0)=true then (if ((c.1.Results.length:Int) == 2)=true then (if e.1.Yes=true then (if (f.1.Err == 131)=true then (if (g.1.Err == 0)=true then ((qX i.2.1 i.2.2.1).bind λ l=>if ((l.Nodes.length:Int) == 3)=true then (if (b.1.Epoch == 1)=true then (if ((b.1.Store.Nodes.length:Int) == 1)=true then (if (i.1.Err == 131)=true then ((mU i.2.2.2.1).bind λ m=>if ((m.length:Int) == 2)=true then ((nQ i.2.2.2.2.1).bind λ n=>if ((n.length:Int) == 0)=true then ((xS (⟨[],[]⟩:aR) ([(⟨(ByteArray.mk #[]),0,0⟩:aF)]:List aF)).bind λ o=>Lp o (some (true)) λ v=>some (false)) else (some (false))) else (some (false))) else (some (false))) else (some (false))) else (some (false))) else (some (false))) else (some (false))) else (some (false))) else (some (false))) else (some (false))) else (some (false))) else (some (false))
theorem Im(H:Sep w (Fo) rs)(G:N5 Tryz.prog ∈ rs){r:Bool}(m:I3=some r) :
    Cf 8 [] w λ v w'=>.bool r=v/\Sep w' (Fo) (rs):=by
 unfold I3 at m
 refine ent func8 z ntmps8 z z λ a E=>sp 1 E z λ a E=>nx<|bd m λ p1 m6 m=>xc2 E z (cf_ 35) (Il H m6)<|?_
 rintro _ w (⟨rfl,rfl,H⟩ | ⟨I,rfl,i8,m7,m8,m9,U,V,F,rfl,H⟩) a E
 ·replace m:=Nk m
  refine pn 1 E z λ a E=>wS<|sp 1 E z λ a E=>sv2 E z (P4 E z z z (v:=.bool true) (by kernel_rfl)) λ a E=>nt<|wp_cond_true (E.eval z)<|sq<|pn 1 E z λ a E=>wR<|aG<|o1 E z<|?_
  cases m
  exact ⟨z,H.reads Y0⟩
 ·replace m:=Nl m
  refine pn 1 E z λ a E=>wS<|sp 1 E z λ a E=>sv2 E z (P4 E z z z (v:=.bool false) (by kernel_rfl)) λ a E=>nt<|wp_cond_false (E.eval z)<|wK<|aA<|sp 1 E z λ a E=>bd m λ J k3 m=>xc2 E z (cf_ 36) (tE H k3)<|?_
  rintro _ w ⟨o7,rfl,H⟩ a E
  obtain ⟨q15,c5,rfl⟩:=H.rowform (i:=0) z
  refine sv2 E z (cH E z (E.evs z) (v:=.agg #[.int .i64 1,.int .i64 1,.int .i64 0,.int .i64 0,.bool false,(.slice q15 J.length c5),.string (ByteArray.mk #[]),.int .i64 0,.int .i64 0,nS,nS,nS,.int .i64 0,.int .i64 0,.string (ByteArray.mk #[]),.bool false]) (by kernel_rfl)) λ a E=>have H:=H.thaw (i:=0) z;have H:=H.nilSl aB;have H:=H.nilSl aC;have H:=H.nilSl kS;have H:=H.nilSl aY;have H:=H.nilSl aP;have H:=H.nilSl aI;bd m λ b k4 m=>xc2 E z (cf_ 13) (pB (x20:=(⟨1,1,0,0,false,J,(ByteArray.mk #[]),0,0,(⟨[],[]⟩:aR),[],(⟨0,0,(ByteArray.mk #[]),false⟩:aO)⟩:aK)) H (t1 mm6) (t2 mm6) (t3 mm6) mm2 mm1 m0 mm6 mm5 mm4 mm3 (t2 (t8 G)) k4)<|?_
  rintro _ w ⟨K,L,M,N,O,P,c6,c7,c8,c9,d0,d1,rfl,H⟩ a E
  refine al2 E H z lQ λ c4 w a H E=>ss 0 E H z bV (bA H m0 mm1 mm2 mm3 mm4 mm5) λ w H=>?_
  replace H:Sep w (Blk c4 48 (aW b.1 K L M N O P)::Blk i8 87 [c6,c7,c8,c9,d0,d1,.map (some U),.map (some V),.map (some F)]::bX Tryz.prog 2 (kyI .i64) bC true U b.2.2.2.2.2.2.2.1::bX Tryz.prog 2 (kyI .i64) dC true V b.2.2.2.2.2.2.2.2.1::bX Tryz.prog 2 (kyI .i64) bC true F b.2.2.2.2.2.2.2.2.2::Fo) _:=H
  refine xp 1 E z λ a E=>bd m λ Q k5 m=>xc2 E z (cf_ 36) (tE H k5)<|?_
  rintro _ w ⟨o8,rfl,H⟩ a E
  obtain ⟨q35,d2,rfl⟩:=H.rowform (i:=0) z
  refine sv2 E z (cH E z (E.evs z) (v:=.agg #[.int .i64 1,.int .i64 1,.int .i64 0,.int .i64 0,.bool false,(.slice q35 Q.length d2),.string (ByteArray.mk #[]),.int .i64 0,.int .i64 0,nS,nS,nS,.int .i64 0,.int .i64 0,.string (ByteArray.mk #[]),.bool false]) (by kernel_rfl)) λ a E=>have H:=H.thaw (i:=0) z;have H:=H.nilSl aB;have H:=H.nilSl aC;have H:=H.nilSl kS;have H:=H.frs [0,4,4,4,4] z;bd m λ f k6 m=>xc2 E z (cf_ 13) (pB (x20:=(⟨1,1,0,0,false,Q,(ByteArray.mk #[]),0,0,(⟨[],[]⟩:aR),[],(⟨0,0,(ByteArray.mk #[]),false⟩:aO)⟩:aK)) H (t4 mm6) (t5 mm6) (t6 mm6) (t7 mm6) (t8 mm6) (t1 (t8 mm6)) mm3 mm2 mm1 m0 (t2 (t8 (t8 (t8 G)))) k6)<|?_
  rintro _ w ⟨W,X,Y,Z,b0,b1,j6,j7,j8,j9,k0,k1,rfl,H⟩ a E
  refine al2 E H z lQ λ d3 w a H E=>ss 0 E H z bV (bA H m0 mm1 mm2 mm3 mm4 mm5) λ w H=>xp 1 E z λ a E=>bd m λ R k7 m=>xc2 E z (cf_ 36) (tE H k7)<|?_
  rintro _ w ⟨o9,rfl,H⟩ a E
  obtain ⟨q55,d4,rfl⟩:=H.rowform (i:=0) z
  refine sv2 E z (cH E z (E.evs z) (v:=.agg #[.int .i64 2,.int .i64 0,.int .i64 5,.int .i64 1,.bool false,(.slice q55 R.length d4),.string (ByteArray.mk #[]),.int .i64 0,.int .i64 0,nS,nS,nS,.int .i64 0,.int .i64 0,.string (ByteArray.mk #[]),.bool false]) (by kernel_rfl)) λ a E=>have H:=H.thaw (i:=0) z;have H:=H.nilSl aB;have H:=H.nilSl aC;have H:=H.nilSl kS;have H:=H.frs [5,1,5,5,5,5] z;bd m λ c k8 m=>xc2 E z (cf_ 13) (pB (x20:=(⟨2,0,5,1,false,R,(ByteArray.mk #[]),0,0,(⟨[],[]⟩:aR),[],(⟨0,0,(ByteArray.mk #[]),false⟩:aO)⟩:aK)) H (t4 mm6) (t5 mm6) (t6 mm6) (t7 mm6) (t8 mm6) (t1 (t8 mm6)) mm3 mm2 mm1 m0 (t2 (t8 (t8 (t8 (t8 (t8 G)))))) k8)<|?_
  rintro _ w ⟨b2,b3,b4,b5,b6,b7,d5,d6,d7,d8,d9,e0,rfl,H⟩ a E
  refine al2 E H z lQ λ e1 w a H E=>ss 0 E H z bV (bA H m0 mm1 mm2 mm3 mm4 mm5) λ w H=>xp 1 E z λ a E=>bd m λ S k9 m=>xc2 E z (cf_ 36) (tE H k9)<|?_
  rintro _ w ⟨p0,rfl,H⟩ a E
  obtain ⟨q75,e2,rfl⟩:=H.rowform (i:=0) z
  refine sv2 E z (cH E z (E.evs z) (v:=.agg #[.int .i64 1,.int .i64 2,.int .i64 0,.int .i64 0,.bool false,(.slice q75 S.length e2),.string (ByteArray.mk #[]),.int .i64 0,.int .i64 0,nS,nS,nS,.int .i64 0,.int .i64 0,.string (ByteArray.mk #[]),.bool false]) (by kernel_rfl)) λ a E=>have H:=H.thaw (i:=0) z;have H:=H.nilSl aB;have H:=H.nilSl aC;have H:=H.nilSl kS;have H:=H.frs [6,6,2,6,6,6,6] z;?_
  replace H:Sep w (Blk i8 87 [d5,d6,d7,d8,d9,e0,.map (some U),.map (some V),.map (some F)]::bX Tryz.prog 2 (kyI .i64) bC true U c.2.2.2.2.2.2.2.1::bX Tryz.prog 2 (kyI .i64) dC true V c.2.2.2.2.2.2.2.2.1::bX Tryz.prog 2 (kyI .i64) bC true F c.2.2.2.2.2.2.2.2.2::Blk e1 48 (aW c.1 b2 b3 b4 b5 b6 b7)::Blk d3 48 (aW f.1 W X Y Z b0 b1)::Blk c4 48 (aW b.1 K L M N O P)::Fo) (rSl kS (nS) ([]:List BY)::rSl aC (nS) ([]:List aL)::rSl aB (nS) ([]:List aH)::rSl bR (.slice q75 S.length e2) S::rSl aZ b2 c.1.Results::rSl aB b3 c.1.Store.Nodes::rSl aC b4 c.1.Store.Turns::rSl aS b5 c.1.Events::rSl bI b6 c.1.Mounts::rSl (kI .i64) b7 c.1.Wounded::rSl aB d5 c.2.1::rSl aC d6 c.2.2.1::rSl aN d7 c.2.2.2.1::rSl aY d8 c.2.2.2.2.1::rSl aP d9 c.2.2.2.2.2.1::rSl aI e0 c.2.2.2.2.2.2.1::rSl kS (nS) ([]:List BY)::rSl aC (nS) ([]:List aL)::rSl aB (nS) ([]:List aH)::rSl bR (.slice q55 R.length d4) R::rSl aZ W f.1.Results::rSl aB X f.1.Store.Nodes::rSl aC Y f.1.Store.Turns::rSl aS Z f.1.Events::rSl bI b0 f.1.Mounts::rSl (kI .i64) b1 f.1.Wounded::rSl aB j6 f.2.1::rSl aC j7 f.2.2.1::rSl aN j8 f.2.2.2.1::rSl aY j9 f.2.2.2.2.1::rSl aP k0 f.2.2.2.2.2.1::rSl aI k1 f.2.2.2.2.2.2.1::rSl kS (nS) ([]:List BY)::rSl aC (nS) ([]:List aL)::rSl aB (nS) ([]:List aH)::rSl bR (.slice q35 Q.length d2) Q::rSl aZ K b.1.Results::rSl aB L b.1.Store.Nodes::rSl aC M b.1.Store.Turns::rSl aS N b.1.Events::rSl bI O b.1.Mounts::rSl (kI .i64) P b.1.Wounded::rSl aB c6 b.2.1::rSl aC c7 b.2.2.1::rSl aN c8 b.2.2.2.1::rSl aY c9 b.2.2.2.2.1::rSl aP d0 b.2.2.2.2.2.1::rSl aI d1 b.2.2.2.2.2.2.1::rSl aI (nS) ([]:List aE)::rSl aP (nS) ([]:List aO)::rSl aY (nS) ([]:List aQ)::rSl kS (nS) ([]:List BY)::rSl aC (nS) ([]:List aL)::rSl aB (nS) ([]:List aH)::rSl bR (.slice q15 J.length c5) J::rSl aB m7 I.1::rSl aC m8 I.2.1::rSl aN m9 I.2.2::rs):=H
  refine bd m λ l l0 m=>xc2 E z (cf_ 13) (pB (x20:=(⟨1,2,0,0,false,S,(ByteArray.mk #[]),0,0,(⟨[],[]⟩:aR),[],(⟨0,0,(ByteArray.mk #[]),false⟩:aO)⟩:aK)) H (t4 mm6) (t5 mm6) (t6 mm6) (t7 mm6) (t8 mm6) (t1 (t8 mm6)) mm3 mm2 mm1 m0 (t2 (t8 (t8 (t8 (t8 (t8 (t8 (t8 G)))))))) l0)<|?_
  rintro _ w ⟨e3,e4,e5,e6,e7,e8,n0,n1,n2,n3,n4,n5,rfl,H⟩ a E
  refine al2 E H z lQ λ k2 w a H E=>ss 0 E H z bV (bA H m0 mm1 mm2 mm3 mm4 mm5) λ w H=>xp 1 E z λ a E=>sv2 E z (cH E z (E.evs z) (v:=.agg #[.int .i64 3,.int .i64 0,.int .i64 5,.int .i64 0,.bool true,nS,.string (ByteArray.mk #[]),.int .i64 0,.int .i64 0,nS,nS,nS,.int .i64 0,.int .i64 0,.string (ByteArray.mk #[]),.bool false]) (by kernel_rfl)) λ a E=>have H:=H.nilSl bR;have H:=H.nilSl aB;have H:=H.nilSl aC;have H:=H.nilSl kS;have H:=H.frs [7,7,7,3,7,7,7,7] z;bd m λ n l1 m=>xc2 E z (cf_ 13) (pB (x20:=(⟨3,0,5,0,true,[],(ByteArray.mk #[]),0,0,(⟨[],[]⟩:aR),[],(⟨0,0,(ByteArray.mk #[]),false⟩:aO)⟩:aK)) H (t4 mm6) (t5 mm6) (t6 mm6) (t7 mm6) (t8 mm6) (t1 (t8 mm6)) mm3 mm2 mm1 m0 (t2 (t8 (t8 (t8 (t8 (t8 (t8 (t8 (t8 (t8 G)))))))))) l1)<|?_
  rintro _ w ⟨e9,f0,f1,f2,f3,f4,l2,l3,l4,l5,l6,l7,rfl,H⟩ a E
  refine al2 E H z lQ λ f5 w a H E=>ss 0 E H z bV (bA H m0 mm1 mm2 mm3 mm4 mm5) λ w H=>xp 1 E z λ a E=>sv2 E z (cH E z (E.evs z) (v:=.agg #[.int .i64 5,.int .i64 0,.int .i64 0,.int .i64 0,.bool false,nS,.string (ByteArray.mk #[47,97]),.int .i64 1,.int .i64 0,nS,nS,nS,.int .i64 0,.int .i64 0,.string (ByteArray.mk #[]),.bool false]) (by kernel_rfl)) λ a E=>have H:=H.nilSl bR;have H:=H.nilSl aB;have H:=H.nilSl aC;have H:=H.nilSl kS;have H:=H.frs [8,8,8,8,4,8,8,8,8] z;bd m λ g i9 m=>xc2 E z (cf_ 13) (pB (x20:=(⟨5,0,0,0,false,[],(ByteArray.mk #[47,97]),1,0,(⟨[],[]⟩:aR),[],(⟨0,0,(ByteArray.mk #[]),false⟩:aO)⟩:aK)) H (t4 mm6) (t5 mm6) (t6 mm6) (t7 mm6) (t8 mm6) (t1 (t8 mm6)) mm3 mm2 mm1 m0 (t2 (t8 (t8 (t8 (t8 (t8 (t8 (t8 (t8 (t8 (t8 (t8 G)))))))))))) i9)<|?_
  rintro _ w ⟨b8,b9,c0,c1,c2,c3,f6,f7,f8,f9,g0,g1,rfl,H⟩ a E
  refine al2 E H z lQ λ g2 w a H E=>ss 0 E H z bV (bA H m0 mm1 mm2 mm3 mm4 mm5) λ w H=>?_
  replace H:Sep w (Blk g2 48 (aW g.1 b8 b9 c0 c1 c2 c3)::Blk i8 87 [f6,f7,f8,f9,g0,g1,.map (some U),.map (some V),.map (some F)]::bX Tryz.prog 2 (kyI .i64) bC true U g.2.2.2.2.2.2.2.1::bX Tryz.prog 2 (kyI .i64) dC true V g.2.2.2.2.2.2.2.2.1::bX Tryz.prog 2 (kyI .i64) bC true F g.2.2.2.2.2.2.2.2.2::Blk f5 48 (aW n.1 e9 f0 f1 f2 f3 f4)::Blk k2 48 (aW l.1 e3 e4 e5 e6 e7 e8)::Blk e1 48 (aW c.1 b2 b3 b4 b5 b6 b7)::Blk d3 48 (aW f.1 W X Y Z b0 b1)::Blk c4 48 (aW b.1 K L M N O P)::Fo) _:=H
  refine xp 1 E z λ a E=>bd m λ T j0 m=>xc2 E z (cf_ 36) (tE H j0)<|?_
  rintro _ w ⟨n6,rfl,H⟩ a E
  obtain ⟨q125,g3,rfl⟩:=H.rowform (i:=0) z
  refine sv2 E z (cH E z (E.evs z) (v:=.agg #[.int .i64 1,.int .i64 3,.int .i64 0,.int .i64 0,.bool false,(.slice q125 T.length g3),.string (ByteArray.mk #[]),.int .i64 0,.int .i64 0,nS,nS,nS,.int .i64 0,.int .i64 0,.string (ByteArray.mk #[]),.bool false]) (by kernel_rfl)) λ a E=>have H:=H.thaw (i:=0) z;have H:=H.nilSl aB;have H:=H.nilSl aC;have H:=H.nilSl kS;have H:=H.frs [9,9,9,9,9,5,9,9,9,9] z;bd m λ j j1 m=>xc2 E z (cf_ 13) (pB (x20:=(⟨1,3,0,0,false,T,(ByteArray.mk #[]),0,0,(⟨[],[]⟩:aR),[],(⟨0,0,(ByteArray.mk #[]),false⟩:aO)⟩:aK)) H (t4 mm6) (t5 mm6) (t6 mm6) (t7 mm6) (t8 mm6) (t1 (t8 mm6)) mm3 mm2 mm1 m0 (t2 (t8 (t8 (t8 (t8 (t8 (t8 (t8 (t8 (t8 (t8 (t8 (t8 (t8 G)))))))))))))) j1)<|?_
  rintro _ w ⟨g4,g5,g6,g7,g8,g9,i0,i1,i2,i3,i4,i5,rfl,H⟩ a E
  refine al2 E H z lQ λ l8 w a H E=>ss 0 E H z bV (bA H m0 mm1 mm2 mm3 mm4 mm5) λ w H=>xp 1 E z λ a E=>lb2 E H 10 U41 z λ a E=>pr 2 E z λ a E=>cs m (λ u m=>?_) λ u m=>?_
  ·refine pk 1 E (kc 41 z u) z λ a E=>gl 41 E H 9 u U41 z λ a E=>pk 3 E (kc 41 z u) z λ a E=>cs m (λ p m=>?_) λ p m=>?_
   ·refine pk 1 E (kc 46 z p) z λ a E=>gl 46 E H 9 p U40 z λ a E=>gv 46 E p z (zC E H z z (t2 (t8 (t8 (t8 (t8 (t8 (t8 (t8 (t8 (t8 mm6)))))))))) U40) λ a E=>pk 3 E (kc 46 z p) z λ a E=>cs m (λ y m=>?_) λ y m=>?_
    ·refine pk 1 E (kc 52 z y) z λ a E=>gl 52 E H 8 y U4 z λ a E=>pk 2 E (kc 52 z y) z λ a E=>cs m (λ A m=>?_) λ A m=>?_
     ·refine pk 1 E (kc 56 z A) z λ a E=>gl 56 E H 7 A U41 z λ a E=>pk 3 E (kc 56 z A) z λ a E=>cs m (λ B m=>?_) λ B m=>?_
      ·refine pk 1 E (kc 61 z B) z λ a E=>gl 61 E H 6 B U41 z λ a E=>pk 3 E (kc 61 z B) z λ a E=>cs m (λ o m=>?_) λ o m=>?_
       ·refine pk 1 E (kc 66 z o) z λ a E=>have H:=H.frs [10,10,10,10,10,10,10,10,10,9,10] z;bd m λ i6 j2 m=>gc 66 E o z (cf_ 15) (S8 H mm6 (t1 mm6) j2)<|?_
        rintro _ w ⟨i7,l9,rfl,H⟩ a E
        refine gv 66 E o z (GC E z z (v:=i7) (by kernel_rfl)) λ a E=>gv 66 E o z (zC E H z z m0 U22) λ a E=>pk 3 E (kc 66 z o) z λ a E=>cs m (λ C m=>?_) λ C m=>?_
        ·refine pk 1 E (kc 73 z C) z λ a E=>gl 73 E H 5 C U2 z λ a E=>pk 3 E (kc 73 z C) z λ a E=>cs m (λ q m=>?_) λ q m=>?_
         ·refine pk 2 E (kc 78 z q) z λ a E=>gl 78 E H 5 q U22 z λ a E=>gv 78 E q z (zC E H z z (t5 (t8 mm6)) U22) λ a E=>pk 3 E (kc 78 z q) z λ a E=>cs m (λ D m=>?_) λ D m=>?_
          ·refine pk 1 E (kc 85 z D) z λ a E=>gl 85 E H 1 D U41 z λ a E=>pk 3 E (kc 85 z D) z λ a E=>cs m (λ s m=>?_) λ s m=>?_
           ·refine pk 1 E (kc 90 z s) z λ a E=>bd m λ m1 j3 m=>gc 90 E s z (cf_ 25) (A6 H (t4 mm6) j3)<|?_
            rintro _ w ⟨m2,rfl,H⟩ a E
            refine gv 90 E s z (mV (i:=0) E H z z z U32) λ a E=>pk 3 E (kc 90 z s) z λ a E=>cs m (λ t m=>?_) λ t m=>?_
            ·refine pk 1 E (kc 96 z t) z λ a E=>have H:=H.frs [11,11,11,11,11,11,11,11,11,11,10,11] z;bd m λ m3 j4 m=>gc 96 E t z (cf_ 20) (E9 H (t5 mm6) j4)<|?_
             rintro _ w ⟨m4,rfl,H⟩ a E
             refine gv 96 E t z (mV (i:=0) E H z z z U58) λ a E=>pk 3 E (kc 96 z t) z λ a E=>cs m (λ k m=>?_) λ k m=>?_
             ·refine gv 102 E k z (cH E z (E.evs z) (v:=.agg #[nS,nS]) (by kernel_rfl)) λ a E=>gv 102 E k z (cH E z (E.evs z) (v:=.agg Wg.toArray) (by kernel_rfl)) λ a E=>kG (e:=31) (d:=aN) (cs:=[.string (ByteArray.mk #[]),.int .i64 0,.int .i64 0]) (xs:=[(⟨(ByteArray.mk #[]),0,0⟩:aF)]) E H (ws' (d:=102) E z z z z k) z z z (E.evs z) (by kernel_rfl) z z (λ ok hr=>(Rows.single (d:=aN) (cs:=[.string (ByteArray.mk #[]),.int .i64 0,.int .i64 0]) (x:=(⟨(ByteArray.mk #[]),0,0⟩:aF)) q8)) λ m5 w a H E=>have H:=H.nilSl aB;have H:=H.nilSl aC;have H:=H.thaw (i:=0) z;?_
              replace H:Sep w (Row 78 aY m4 m3::Blk i8 87 [i0,i1,i2,i3,i4,i5,.map (some U),.map (some V),.map (some F)]::Row 31 aN m2 m1::Blk l8 48 (aW j.1 g4 g5 g6 g7 g8 g9)::bX Tryz.prog 2 (kyI .i64) bC true U j.2.2.2.2.2.2.2.1::bX Tryz.prog 2 (kyI .i64) dC true V j.2.2.2.2.2.2.2.2.1::bX Tryz.prog 2 (kyI .i64) bC true F j.2.2.2.2.2.2.2.2.2::Blk g2 48 (aW g.1 b8 b9 c0 c1 c2 c3)::Blk f5 48 (aW n.1 e9 f0 f1 f2 f3 f4)::Blk k2 48 (aW l.1 e3 e4 e5 e6 e7 e8)::Blk e1 48 (aW c.1 b2 b3 b4 b5 b6 b7)::Blk d3 48 (aW f.1 W X Y Z b0 b1)::Blk c4 48 (aW b.1 K L M N O P)::Fo) (rSl aN m5 ([(⟨(ByteArray.mk #[]),0,0⟩:aF)]:List aF)::rSl aC (nS) ([]:List aL)::rSl aB (nS) ([]:List aH)::rSl aB i7 i6.Nodes::rSl aC l9 i6.Turns::rSl aZ g4 j.1.Results::rSl aB g5 j.1.Store.Nodes::rSl aC g6 j.1.Store.Turns::rSl aS g7 j.1.Events::rSl bI g8 j.1.Mounts::rSl (kI .i64) g9 j.1.Wounded::rSl aB i0 j.2.1::rSl aC i1 j.2.2.1::rSl aN i2 j.2.2.2.1::rSl aY i3 j.2.2.2.2.1::rSl aP i4 j.2.2.2.2.2.1::rSl aI i5 j.2.2.2.2.2.2.1::rSl kS (nS) ([]:List BY)::rSl aC (nS) ([]:List aL)::rSl aB (nS) ([]:List aH)::rSl bR (.slice q125 T.length g3) T::rSl aZ b8 g.1.Results::rSl aB b9 g.1.Store.Nodes::rSl aC c0 g.1.Store.Turns::rSl aS c1 g.1.Events::rSl bI c2 g.1.Mounts::rSl (kI .i64) c3 g.1.Wounded::rSl aB f6 g.2.1::rSl aC f7 g.2.2.1::rSl aN f8 g.2.2.2.1::rSl aY f9 g.2.2.2.2.1::rSl aP g0 g.2.2.2.2.2.1::rSl aI g1 g.2.2.2.2.2.2.1::rSl kS (nS) ([]:List BY)::rSl aC (nS) ([]:List aL)::rSl aB (nS) ([]:List aH)::rSl bR (nS) ([]:List cR)::rSl aZ e9 n.1.Results::rSl aB f0 n.1.Store.Nodes::rSl aC f1 n.1.Store.Turns::rSl aS f2 n.1.Events::rSl bI f3 n.1.Mounts::rSl (kI .i64) f4 n.1.Wounded::rSl aB l2 n.2.1::rSl aC l3 n.2.2.1::rSl aN l4 n.2.2.2.1::rSl aY l5 n.2.2.2.2.1::rSl aP l6 n.2.2.2.2.2.1::rSl aI l7 n.2.2.2.2.2.2.1::rSl kS (nS) ([]:List BY)::rSl aC (nS) ([]:List aL)::rSl aB (nS) ([]:List aH)::rSl bR (nS) ([]:List cR)::rSl aZ e3 l.1.Results::rSl aB e4 l.1.Store.Nodes::rSl aC e5 l.1.Store.Turns::rSl aS e6 l.1.Events::rSl bI e7 l.1.Mounts::rSl (kI .i64) e8 l.1.Wounded::rSl aB n0 l.2.1::rSl aC n1 l.2.2.1::rSl aN n2 l.2.2.2.1::rSl aY n3 l.2.2.2.2.1::rSl aP n4 l.2.2.2.2.2.1::rSl aI n5 l.2.2.2.2.2.2.1::rSl kS (nS) ([]:List BY)::rSl aC (nS) ([]:List aL)::rSl aB (nS) ([]:List aH)::rSl bR (.slice q75 S.length e2) S::rSl aZ b2 c.1.Results::rSl aB b3 c.1.Store.Nodes::rSl aC b4 c.1.Store.Turns::rSl aS b5 c.1.Events::rSl bI b6 c.1.Mounts::rSl (kI .i64) b7 c.1.Wounded::rSl aB d5 c.2.1::rSl aC d6 c.2.2.1::rSl aN d7 c.2.2.2.1::rSl aY d8 c.2.2.2.2.1::rSl aP d9 c.2.2.2.2.2.1::rSl aI e0 c.2.2.2.2.2.2.1::rSl kS (nS) ([]:List BY)::rSl aC (nS) ([]:List aL)::rSl aB (nS) ([]:List aH)::rSl bR (.slice q55 R.length d4) R::rSl aZ W f.1.Results::rSl aB X f.1.Store.Nodes::rSl aC Y f.1.Store.Turns::rSl aS Z f.1.Events::rSl bI b0 f.1.Mounts::rSl (kI .i64) b1 f.1.Wounded::rSl aB j6 f.2.1::rSl aC j7 f.2.2.1::rSl aN j8 f.2.2.2.1::rSl aY j9 f.2.2.2.2.1::rSl aP k0 f.2.2.2.2.2.1::rSl aI k1 f.2.2.2.2.2.2.1::rSl kS (nS) ([]:List BY)::rSl aC (nS) ([]:List aL)::rSl aB (nS) ([]:List aH)::rSl bR (.slice q35 Q.length d2) Q::rSl aZ K b.1.Results::rSl aB L b.1.Store.Nodes::rSl aC M b.1.Store.Turns::rSl aS N b.1.Events::rSl bI O b.1.Mounts::rSl (kI .i64) P b.1.Wounded::rSl aB c6 b.2.1::rSl aC c7 b.2.2.1::rSl aN c8 b.2.2.2.1::rSl aY c9 b.2.2.2.2.1::rSl aP d0 b.2.2.2.2.2.1::rSl aI d1 b.2.2.2.2.2.2.1::rSl aI (nS) ([]:List aE)::rSl aP (nS) ([]:List aO)::rSl aY (nS) ([]:List aQ)::rSl kS (nS) ([]:List BY)::rSl aC (nS) ([]:List aL)::rSl aB (nS) ([]:List aH)::rSl bR (.slice q15 J.length c5) J::rSl aB m7 I.1::rSl aC m8 I.2.1::rSl aN m9 I.2.2::rs):=H
              refine bd m λ n7 j5 m=>gc 102 E k z (cf_ 9) (Cz (x1:=(⟨[],[]⟩:aR)) H mm2 mm1 m0 j5)<|?_
              rintro _ w (⟨rfl,rfl,H⟩ | ⟨n8,rfl,n9,o0,o2,o3,o4,o5,o6,rfl,H⟩) a E
              ·replace m:=Nk m
               refine gv 102 E k z (P4 E z z z (v:=.bool true) (by kernel_rfl)) λ a E=>pk 2 E (kc 102 z k) z λ a E=>nt<|wR<|o1 E z<|have H:=H.drs [0,0,0,0,0,0,0,0,0,0,0,0,0];?_
               cases m
               exact ⟨z,H.reads (Y3 (Y8 (Y8 (Y8 (Y8 (Y8 (Y8 (Y8 (Y8 (Y8 (Y8 (Y8 (Y8 (Y8 (Y8 (Y8 Y0))))))))))))))))⟩
              ·replace m:=Nl m
               refine gv 102 E k z (P4 E z z z (v:=.bool false) (by kernel_rfl)) λ a E=>pk 2 E (kc 102 z k) z λ a E=>nt<|wR<|o1 E z<|have H:=H.drs [0,0,0,0,0,0,0,0,0,0,0,0,0,0,0,0,0];?_
               cases m
               exact ⟨z,H.reads (Y6 (Y8 (Y8 (Y8 (Y8 (Y8 (Y8 (Y8 (Y8 (Y8 (Y8 (Y8 (Y8 (Y8 (Y8 (Y8 Y0))))))))))))))))⟩
             ·refine pk 7 E (kc 102 z k) z λ a E=>nt<|wR<|o1 E z<|have H:=H.drs [0,0,0,0,0,0,0,0,0,0,0,0,0];?_
              cases m
              exact ⟨z,H.reads (Y8 (Y8 (Y8 (Y8 (Y8 (Y8 (Y8 (Y8 (Y8 (Y8 (Y8 (Y8 (Y8 (Y8 (Y8 Y0)))))))))))))))⟩
            ·refine pk 13 E (kc 96 z t) z λ a E=>nt<|wR<|o1 E z<|have H:=H.drs [0,0,0,0,0,0,0,0,0,0,0,0];?_
             cases m
             exact ⟨z,H.reads (Y8 (Y8 (Y8 (Y8 (Y8 (Y8 (Y8 (Y8 (Y8 (Y8 (Y8 (Y8 (Y8 (Y8 (Y8 Y0)))))))))))))))⟩
           ·refine pk 19 E (kc 90 z s) z λ a E=>nt<|wR<|o1 E z<|have H:=H.drs [0,0,0,0,0,0,0,0,0,0,0];?_
            cases m
            exact ⟨z,H.reads (Y8 (Y8 (Y8 (Y8 (Y8 (Y8 (Y8 (Y8 (Y8 (Y8 (Y8 (Y8 (Y8 (Y8 (Y8 Y0)))))))))))))))⟩
          ·refine pk 24 E (kc 85 z D) z λ a E=>nt<|wR<|o1 E z<|have H:=H.drs [0,0,0,0,0,0,0,0,0,0,0];?_
           cases m
           exact ⟨z,H.reads (Y8 (Y8 (Y8 (Y8 (Y8 (Y8 (Y8 (Y8 (Y8 (Y8 (Y8 (Y8 (Y8 (Y8 (Y8 Y0)))))))))))))))⟩
         ·refine pk 31 E (kc 78 z q) z λ a E=>nt<|wR<|o1 E z<|have H:=H.drs [0,0,0,0,0,0,0,0,0,0,0];?_
          cases m
          exact ⟨z,H.reads (Y8 (Y8 (Y8 (Y8 (Y8 (Y8 (Y8 (Y8 (Y8 (Y8 (Y8 (Y8 (Y8 (Y8 (Y8 Y0)))))))))))))))⟩
        ·refine pk 36 E (kc 73 z C) z λ a E=>nt<|wR<|o1 E z<|have H:=H.drs [0,0,0,0,0,0,0,0,0,0,0];?_
         cases m
         exact ⟨z,H.reads (Y8 (Y8 (Y8 (Y8 (Y8 (Y8 (Y8 (Y8 (Y8 (Y8 (Y8 (Y8 (Y8 (Y8 (Y8 Y0)))))))))))))))⟩
       ·refine pk 43 E (kc 66 z o) z λ a E=>nt<|wR<|o1 E z<|have H:=H.drs [0,0,0,0,0,0,0,0,0,0,0];?_
        cases m
        exact ⟨z,H.reads (Y6 (Y8 (Y8 (Y8 (Y8 (Y8 (Y8 (Y8 (Y8 (Y8 (Y8 (Y8 (Y8 (Y8 (Y8 Y0)))))))))))))))⟩
      ·refine pk 48 E (kc 61 z B) z λ a E=>nt<|wR<|o1 E z<|have H:=H.drs [0,0,0,0,0,0,0,0,0,0,0];?_
       cases m
       exact ⟨z,H.reads (Y6 (Y8 (Y8 (Y8 (Y8 (Y8 (Y8 (Y8 (Y8 (Y8 (Y8 (Y8 (Y8 (Y8 (Y8 Y0)))))))))))))))⟩
     ·refine pk 53 E (kc 56 z A) z λ a E=>nt<|wR<|o1 E z<|have H:=H.drs [0,0,0,0,0,0,0,0,0,0,0];?_
      cases m
      exact ⟨z,H.reads (Y6 (Y8 (Y8 (Y8 (Y8 (Y8 (Y8 (Y8 (Y8 (Y8 (Y8 (Y8 (Y8 (Y8 (Y8 Y0)))))))))))))))⟩
    ·refine pk 57 E (kc 52 z y) z λ a E=>nt<|wR<|o1 E z<|have H:=H.drs [0,0,0,0,0,0,0,0,0,0,0];?_
     cases m
     exact ⟨z,H.reads (Y6 (Y8 (Y8 (Y8 (Y8 (Y8 (Y8 (Y8 (Y8 (Y8 (Y8 (Y8 (Y8 (Y8 (Y8 Y0)))))))))))))))⟩
   ·refine pk 63 E (kc 46 z p) z λ a E=>nt<|wR<|o1 E z<|have H:=H.drs [0,0,0,0,0,0,0,0,0,0,0];?_
    cases m
    exact ⟨z,H.reads (Y6 (Y8 (Y8 (Y8 (Y8 (Y8 (Y8 (Y8 (Y8 (Y8 (Y8 (Y8 (Y8 (Y8 (Y8 Y0)))))))))))))))⟩
  ·refine pk 68 E (kc 41 z u) z λ a E=>nt<|wR<|o1 E z<|have H:=H.drs [0,0,0,0,0,0,0,0,0,0,0];?_
   cases m
   exact ⟨z,H.reads (Y6 (Y8 (Y8 (Y8 (Y8 (Y8 (Y8 (Y8 (Y8 (Y8 (Y8 (Y8 (Y8 (Y8 (Y8 Y0)))))))))))))))⟩

def nH(x1:aK)(b:Int):Option Bool:=
  if (decide (b ≥ 3000))=true then (some (true)) else (if (decide ((x1.Prefix.size:Int) > 3000))=true then (some (true)) else (if (decide ((x1.Watch.Path.size:Int) > 3000))=true then (some (true)) else ((nX x1.Pieces).bind λ c=>if c=true then (some (true)) else ((qS x1.Store).bind λ d=>some (d)))))
def nI(x1:aK):Nat->Int->Int->Option Bool
  | 0,_,_=>none
  | e+1,b,c=>
    if (decide (c < (x1.Gone.length:Int)))=true then (if (decide (b < 3000))=true then ((idx x1.Gone c).bind λ d=>nI x1 e (IntKind.i64.wrap (b+(min (d.size:Int) 3000))) (IntKind.i64.wrap (c+1))) else (nH x1 b)) else (nH x1 b)
def uF(x1:aK):Option Bool:=
  nI x1 3002 (x1.Gone.length:Int) 0
theorem Gq{x1:aK}{x n o y:VL}(H:Sep w (Fo) rs)(D:rSl bR x x1.Pieces ∈ rs)(F:rSl aB n x1.Store.Nodes ∈ rs)(G:rSl aC o x1.Store.Turns ∈ rs)(p:rSl kS y x1.Gone ∈ rs){r:Bool}(m:uF x1=some r) :
    Cf 11 [.agg (aM x1 x n o y).toArray] w λ v w'=>.bool r=v/\Sep w' (Fo) (rs):=by
 unfold uF at m
 refine ent func11 z ntmps11 z z λ a E=>sq<|bx E H z λ k w a H E=>pr 1 E z λ a E=>xp 1 E z λ a E=>lb2 E H 0 U33 z λ a E=>lS E H p U33 z λ a E=>pr 1 E z λ a E=>nt<|aJ (λ a w=>∃ q,Jn 53 a w [(1,pt k 0),(3,.int .i64 q)] (Blk k 37 (aM x1 x n o y)::Fo) rs (nH x1 q=some r)) ?_ ?_
 ·refine sq<|pn 1 E z λ a E=>wB<|bG (λ l a w=>∃ s u,Jn 53 a w [(1,pt k 0),(3,.int .i64 s),(4,.int .i64 u)] (Blk k 37 (aM x1 x n o y)::Fo) rs (nI x1 l s u=some r)) (3002) ?_ ?_
  ·exact X3 ⟨E.to z,H,Y0,m⟩
  ·clear E H m
   rintro l a w ⟨s,u,I,E,H,e,m⟩
   cases l with
   | zero=>exact (bE m z).elim
   | succ l=>
    unfold nI at m
    refine wS<|sp 2 E z λ a E=>lb2 E H 0 U33 z λ a E=>lS E H (e _ p) U33 z λ a E=>pr 2 E z λ a E=>cs m (λ j m=>?_) λ j m=>?_
    ·refine pk 3 E (kc 13 z j) z λ a E=>nt<|wif E m z (λ m=>?_) λ m=>?_
     ·exact wK<|aA<|wS<|wB<|wG<|pr 2 E z λ a E=>lb2 E H 0 U33 z λ a E=>pr 1 E z λ a E=>bd m λ K A m=>dB E H (wn z) z z z z z (e _ p) U33 sz9 A λ q29 a H E=>sv2 E z (sK E H z z m0 U9 z) λ a E=>pr 1 E z λ a E=>sv2 E z (Nb (t:=0) E z z z) λ a E=>pr 2 E z λ a E=>wN<|bP<|aA<|wG<|pn 3 E z λ a E=>⟨l,nL l,X3 ⟨E.to z,H,(Y1 e),m⟩⟩
     ·exact wX<|aT<|aT<|cL<|aA<|⟨_,_,E.to z,H,e,m⟩
    ·exact pk 3 E (kc 13 z j) z λ a E=>nt<|wp_cond_false (E.eval z)<|wX<|aT<|aT<|cL<|aA<|⟨_,_,E.to z,H,e,m⟩
 ·clear E H m
  rintro a w ⟨q,J,E,H,b,m⟩
  unfold nH at m
  refine sp 3 E z λ a E=>cs m (λ f m=>?_) λ f m=>?_
  ·refine pk 23 E (kc 30 z f) z λ a E=>nt<|wR<|o1 E z<|have H:=H.drop 0;?_
   cases m
   exact ⟨z,H.reads b⟩
  ·refine pk 1 E (kc 30 z f) z λ a E=>gl 30 E H 0 f U9 z λ a E=>pk 4 E (kc 30 z f) z λ a E=>cs m (λ g m=>?_) λ g m=>?_
   ·refine pk 17 E (kc 36 z g) z λ a E=>nt<|wR<|o1 E z<|have H:=H.drop 0;?_
    cases m
    exact ⟨z,H.reads b⟩
   ·refine pk 2 E (kc 36 z g) z λ a E=>gl 36 E H 0 g U9 z λ a E=>pk 4 E (kc 36 z g) z λ a E=>cs m (λ c m=>?_) λ c m=>?_
    ·refine pk 10 E (kc 43 z c) z λ a E=>nt<|wR<|o1 E z<|have H:=H.drop 0;?_
     cases m
     exact ⟨z,H.reads b⟩
    ·refine pk 1 E (kc 43 z c) z λ a E=>gl 43 E H 0 c U26 z λ a E=>bd m λ L B m=>gc 43 E c z (cf_ 40) (Af H (b _ D) B)<|?_
     rintro _ w ⟨rfl,H⟩ a E
     refine pk 2 E (kc 43 z c) z λ a E=>cs m (λ d m=>?_) λ d m=>?_
     ·refine pk 5 E (kc 48 z d) z λ a E=>nt<|wR<|o1 E z<|have H:=H.drop 0;?_
      cases m
      exact ⟨z,H.reads b⟩
     ·refine pk 1 E (kc 48 z d) z λ a E=>gv 48 E d z (Aq (i:=0) (us:=[n,o]) E H z z z z U25 z dN) λ a E=>bd m λ M C m=>gc 48 E d z (cf_ 10) (S6 H (b _ F) (b _ G) C)<|?_
      rintro _ w ⟨rfl,H⟩ a E
      refine pk 2 E (kc 48 z d) z λ a E=>nt<|wR<|o1 E z<|have H:=H.drop 0;?_
      cases m
      exact ⟨z,H.reads b⟩

def rH(rec_1:Int->Int->Option Bool)(d:Int)(e:aK)(b:aK)(f:Int)(c:Bool):Option Bool:=
  if c=true then (some (true)) else (rec_1 (IntKind.i64.wrap ((IntKind.i64.wrap ((IntKind.i64.wrap (d+1))+(IntKind.i64.wrap (2 * (e.Pieces.length:Int)))))+(b.Store.Nodes.length:Int))) (IntKind.i64.wrap (f+1)))
def gV(b:List aK):Nat->Int->Int->Option Bool
  | 0,_,_=>none
  | g+1,e,c=>
    if (decide (c < (b.length:Int)))=true then ((idx b c).bind λ f=>(idx b c).bind λ d=>(idx b c).bind λ i=>(uF i).bind λ j=>if j=true then (rH (gV b g) e f d c true) else (rH (gV b g) e f d c (decide ((IntKind.i64.wrap ((IntKind.i64.wrap ((IntKind.i64.wrap (e+1))+(IntKind.i64.wrap (2 * (f.Pieces.length:Int)))))+(d.Store.Nodes.length:Int))) > 600)))) else (some (false))
def uG(b:List aK):Option Bool:=
  if (decide ((b.length:Int) > 60))=true then (some (true)) else (gV b (((b.length:Int) - 0:Int).toNat+1) 0 0)
theorem Gr{n:VL}{f:List aK}(H:Sep w (Fo) rs)(e:rSl tI n f ∈ rs){r:Bool}(m:uG f=some r) :
    Cf 18 [n] w λ v w'=>.bool r=v/\Sep w' (Fo) (rs):=by
 unfold uG at m
 refine ent func18 z ntmps18 z z λ a E=>sq<|pn 1 E z λ a E=>wS<|sp 1 E z λ a E=>lS E H e U54 z λ a E=>pr 1 E z λ a E=>nt<|wif E m z (λ m=>?_) λ m=>?_
 ·refine sq<|pn 1 E z λ a E=>wR<|aG<|o1 E z<|?_
  cases m
  exact ⟨z,H.reads Y0⟩
 ·refine wK<|aA<|sq<|pn 1 E z λ a E=>wS<|sq<|pn 1 E z λ a E=>wB<|bG (λ c a w=>∃ g i,Jn 41 a w [(0,n),(3,.int .i64 g),(4,.int .i64 i)] (Fo) rs (gV f c g i=some r)) (((f.length:Int) - 0:Int).toNat+1) ?_ ?_
  ·exact X3 ⟨E.to z,H,Y0,m⟩
  ·clear E H m
   rintro c a w ⟨g,i,M,E,H,b,m⟩
   cases c with
   | zero=>exact (bE m z).elim
   | succ c=>
    unfold gV at m
    refine wS<|sp 2 E z λ a E=>lS E H (b _ e) U54 z λ a E=>pn 1 E z λ a E=>wif E m z (λ m=>?_) λ m=>?_
    ·refine wK<|aA<|wS<|wB<|wS<|?_
     obtain ⟨Z,H⟩:=H.raw (b _ e)
     refine dw [(0,0),(1,0),(2,0),(3,0),(4,0),(5,0),(6,0),(7,0),(8,0),(9,0),(10,0),(11,0),(12,0),(13,0),(14,0),(15,0),(16,0),(17,0),(18,2)] [] [0] H (by kernel_rfl) (λ _ _ _ h=>False.elim h.2) λ w W0 hI H=>fn 4 E z λ a E=>bd m λ K p m=>?_
     obtain ⟨q11,N,q,s⟩:=fW (P:=Tryz.prog) (k:=.i64) hI (fV (.head _)) U54 z7 p
     refine fv E z (λ w hW=>iD E z z z (q w)) λ a E=>?_
     have t:=gY s (λ _ _ _ h=>Ki h)
     refine fn 1 E z λ a E=>?_
     obtain ⟨O,u,x⟩:=AC (P:=Tryz.prog) hI t U26 z
     refine fv E z (λ w hW=>sI E z z (u w hW)) λ a E=>fv E z (λ w hW=>Zz E z z (Zy (DR.ir x) U26 w hW)) λ a E=>fn 4 E z λ a E=>bd m λ o y m=>?_
     obtain ⟨q21,Q,A,B⟩:=fW (P:=Tryz.prog) (k:=.i64) hI (fV (.head _)) U54 z7 y
     refine fv E z (λ w hW=>iD E z z z (A w)) λ a E=>?_
     have C:=gY B (λ _ _ _ h=>Kj h)
     refine fn 1 E z λ a E=>?_
     have D:=gY C (λ _ _ _ h=>Nz h)
     refine fn 1 E z λ a E=>?_
     obtain ⟨R,F,G⟩:=AC (P:=Tryz.prog) hI D U22 z
     refine fv E z (λ w hW=>sI E z z (F w hW)) λ a E=>fv E z (λ w hW=>Zz E z z (Zy (DR.ir G) U22 w hW)) λ a E=>fn 1 E z λ a E=>bL z<|pn 1 E z λ a E=>bB<|?_
     clear hI
     refine aA<|aJ (λ a w=>∃ j,Jn 41 a w [(0,n),(3,.int .i64 (IntKind.i64.wrap ((IntKind.i64.wrap ((IntKind.i64.wrap (g+1))+(IntKind.i64.wrap (2 * (K.Pieces.length:Int)))))+(o.Store.Nodes.length:Int)))),(4,.int .i64 i),(40,.bool j)] (Fo) rs (rH (gV f c) g K o i j=some r)) ?_ ?_
     ·refine wG<|pr 2 E z λ a E=>bd m λ S I m=>dB E H (wn z) z z z z z (t1 (b _ e)) U54 z7 I λ q35 a H E=>Ar E H (wn z) z z z z m0 U37 z z7 λ T a H E=>?_
      obtain ⟨U,V,W,X,rfl,h⟩:=Fw H;clear H;have H:=h
      refine bd m λ Y J m=>xk2 E z (cf_ 11) (Gq H mm3 mm2 mm1 m0 J) λ w H a E=>pr 1 E z λ a E=>cs m (λ d m=>?_) λ d m=>?_
      ·exact pk 3 E (kc 37 z d) z λ a E=>nt<|⟨_,_,E.to z,H,(Y7 b),m⟩
      ·exact pk 3 E (kc 37 z d) z λ a E=>nt<|⟨_,_,E.to z,H,(Y7 b),m⟩
     ·clear E H m
      rintro a w ⟨j,L,E,H,l,m⟩
      unfold rH at m
      refine wif E m z (λ m=>?_) λ m=>?_
      ·refine sq<|pn 1 E z λ a E=>wR<|bD<|aG<|aG<|bD<|aG<|o1 E z<|?_
       cases m
       exact ⟨z,H.reads l⟩
      ·exact wK<|bP<|aA<|wG<|pn 3 E z λ a E=>⟨c,nL c,X3 ⟨E.to z,H,l,m⟩⟩
    ·refine wX<|aT<|aT<|cL<|aA<|sq<|pn 1 E z λ a E=>wR<|o1 E z<|?_
     cases m
     exact ⟨z,H.reads b⟩

def rI(b:Int):Option Bool:=
  some (decide (b ≥ 3000))
def nJ(c:List aF):Nat->Int->Int->Option Bool
  | 0,_,_=>none
  | f+1,b,d=>
    if (decide (d < (c.length:Int)))=true then (if (decide (b < 3000))=true then ((idx c d).bind λ e=>nJ c f (IntKind.i64.wrap (b+(min (e.Prefix.size:Int) 3000))) (IntKind.i64.wrap (d+1))) else (rI b)) else (rI b)
def uH(b:List aF):Option Bool:=
  nJ b 3002 (b.length:Int) 0
theorem Gs{f:VL}{g:List aF}(H:Sep w (Fo) rs)(e:rSl aN f g ∈ rs){r:Bool}(m:uH g=some r) :
    Cf 17 [f] w λ v w'=>.bool r=v/\Sep w' (Fo) (rs):=by
 unfold uH at m
 refine ent func17 z ntmps17 z z λ a E=>sp 1 E z λ a E=>xp 1 E z λ a E=>lS E H e U32 z λ a E=>pn 1 E z λ a E=>aJ (λ a w=>∃ i,Jn 28 a w [(3,.int .i64 i)] (Fo) rs (rI i=some r)) ?_ ?_
 ·refine sq<|pn 1 E z λ a E=>wB<|bG (λ d a w=>∃ j k,Jn 28 a w [(0,f),(3,.int .i64 j),(4,.int .i64 k)] (Fo) rs (nJ g d j k=some r)) (3002) ?_ ?_
  ·exact X3 ⟨E.to z,H,Y0,m⟩
  ·clear E H m
   rintro d a w ⟨j,k,p,E,H,b,m⟩
   cases d with
   | zero=>exact (bE m z).elim
   | succ d=>
    unfold nJ at m
    refine wS<|sp 2 E z λ a E=>lS E H (b _ e) U32 z λ a E=>pr 2 E z λ a E=>cs m (λ c m=>?_) λ c m=>?_
    ·refine pk 3 E (kc 11 z c) z λ a E=>nt<|wif E m z (λ m=>?_) λ m=>?_
     ·exact wK<|aA<|wS<|wB<|wG<|pr 3 E z λ a E=>bd m λ n l m=>dB E H (wn z) z z z z z (b _ e) U32 iY l λ q14 a H E=>have H:=H.derive1 m0 (rAt kS (q14.add 0) n.Prefix) (λ ok h=>Nv h);pr 1 E z λ a E=>sv2 E z (sK E H z z m0 U9 z) λ a E=>pr 1 E z λ a E=>sv2 E z (Nb (t:=0) E z z z) λ a E=>pr 2 E z λ a E=>wN<|bP<|aA<|wG<|pn 3 E z λ a E=>⟨d,nL d,X3 ⟨E.to z,H,(Y2 b),m⟩⟩
     ·exact wX<|aT<|aT<|cL<|aA<|⟨_,_,E.to z,H,b,m⟩
    ·exact pk 3 E (kc 11 z c) z λ a E=>nt<|wp_cond_false (E.eval z)<|wX<|aT<|aT<|cL<|aA<|⟨_,_,E.to z,H,b,m⟩
 ·clear E H m
  rintro a w ⟨i,q,E,H,o,m⟩
  unfold rI at m
  refine sq<|pn 3 E z λ a E=>wR<|o1 E z<|?_
  cases m
  exact ⟨z,H.reads o⟩

def jF(d:eD)(e:fQ):Nat->Int->eD->Option aV
  | 0,_,_=>none
  | i+1,b,c=>
    if (decide (b < (d.length:Int)))=true then ((idx c b).bind λ f=>(ck (f.Events.length <= LIM)).bind λ j=>(idx c b).bind λ g=>jF d e i (IntKind.i64.wrap (b+1)) (c.set b.toNat ({ g with Events:=f.Events }:aE))) else (some ((⟨e,c⟩:aV)))
def tF(c:fQ)(b:eD):Option aV:=
  jF b c (((b.length:Int) - 0:Int).toNat+1) 0 b
def oI(b:List aO)(c:List aE):Option aV:=
  (ck (b.length <= LIM)).bind λ d=>(ck (c.length <= LIM)).bind λ e=>tF b c
theorem Ea{b:Nat}{c e f g j l n o p:VL}{y:List aO}{A:List aE}(H:Sep w (Blk b 87 [f,g,j,l,c,e,n,o,p]::Fo) rs)(M:rSl aP c y ∈ rs)(C:rSl aI e A ∈ rs){r:aV}(m:oI y A=some r) :
    Cf 32 [pt b 0] w λ v w'=>∃ b2 b3,.agg #[b2,b3]=v/\Sep w' (Blk b 87 [f,g,j,l,c,e,n,o,p]::Fo) (rSl aP b2 r.Watches::rSl aI b3 r.Sessions::rs):=by
 unfold oI at m
 refine ent func32 z ntmps32 z z λ a E=>sq<|al2 E H z V1 λ I w a H E=>nt<|aJ (λ a w=>∃ B q s t u,Jn 38 a w [(2,pt I 0),(3,pt B 0)] (Blk I 73 [nS,nS]::Blk B 73 [q,s]::Blk b 87 [f,g,j,l,c,e,n,o,p]::Row 35 aP q t::Row 126 aI s u::Fo) rs (tF t u=some r)) ?_ ?_
 ·refine bk m λ N m=>bk m λ D m=>?_
  have hI:dI [Blk b 87 [f,g,j,l,c,e,n,o,p]] [] { w with drawn:=w.drawn+1 }:=⟨_,_,H.kept (Kp.drawn _ w _),(aU mm1 (bH)),(bO)⟩
  refine oN _ (.go 0 0 (.go 1 0 (.go 2 0 (.go 3 0 (.go 4 0 (.go 6 0 (.go 7 0 (.go 8 0 (.go 9 0 (.go 10 0 (.alt 5 (.alt 11 (.go 12 0 (.go 13 1 (.go 14 2 .nil))) 13 (.go 11 1 (.go 12 0 (.go 14 2 .nil)))) 13 (.go 5 1 (.go 11 1 (.go 12 0 (.go 14 2 .nil))))))))))))))) [14] pI (by kernel_rfl) (λ _ _ _ h=>False.elim h.2) hI<|have H:=H.kept (Kp.drawn _ w (w.drawn+1));?_
  generalize ({ w with drawn:=w.drawn+1 }:WD)=w at H hI ⊢
  replace hI:∃ W,dI [Blk b 87 [f,g,j,l,c,e,n,o,p]] [] W:=⟨_,hI⟩
  obtain ⟨W0,hI⟩:=hI
  refine om E z λ a E=>ov E z (λ w hW=>(zB E z z)) λ a E=>ov E z (λ w hW=>mM E z z (v:=pt b 4) (Hr _ _)) λ a E=>ov E z (λ w hW=>mM E z z (v:=pt b 4) (Ug _ _)) λ a E=>ol E m0 U70 z λ a E=>om E z λ a E=>ov E z (λ w hW=>(zB E z z)) λ a E=>ov E z (λ w hW=>mM E z z (v:=pt b 4) (Hr _ _)) λ a E=>ov E z (λ w hW=>mM E z z (v:=pt b 5) (Ui _ _)) λ a E=>ol E m0 U71 z λ a E=>oO z z ?_ ?_
  ·refine xc2 E z (cf_ 74) (eX H M N) λ c6 w H a E=>nt<|⟨sx H [2] z,oO z z ?_ ?_⟩
   ·refine xc2 E z (cf_ 75) (dL H C D) λ c7 w H a E=>nt<|⟨sx H [3] z,?_⟩
    obtain ⟨q98,b4,rfl⟩:=H.rowform (i:=1) z
    obtain ⟨q100,U,rfl⟩:=H.rowform (i:=0) z
    refine ov E z (λ w hW=>(cH E z (E.evs z) (v:=.agg #[(.slice q98 y.length b4),(.slice q100 A.length U)]) (by kernel_rfl))) λ a E=>cF z<|al2 E H z V1 λ b8 w a H E=>nt<|⟨sx H [4] z,cV z<|ss 0 E H z gG z λ w H=>nt<|fA<|?_⟩
    clear hI
    exact aA<|have H:=H.frs [1,2,4,3,4] z;X6 ⟨E.to z,H,Y0,m⟩
   ·refine al2 E H z V1 λ b9 w a H E=>nt<|⟨sx H [3] z,cF z<|xc2 E z (cf_ 75) (dL H C D) λ c0 w H a E=>nt<|⟨sx H [4] z,?_⟩⟩
    obtain ⟨q107,V,rfl⟩:=H.rowform (i:=2) z
    obtain ⟨q109,X,rfl⟩:=H.rowform (i:=0) z
    refine ov E z (λ w hW=>(cH E z (E.evs z) (v:=.agg #[(.slice q107 y.length V),(.slice q109 A.length X)]) (by kernel_rfl))) λ a E=>cV z<|ss 1 E H z gG z λ w H=>nt<|fA<|?_
    clear hI
    exact aA<|have H:=H.frs [0,2,4,3,4] z;X6 ⟨E.to z,H,Y0,m⟩
  ·refine al2 E H z V1 λ c1 w a H E=>nt<|⟨sx H [2] z,cF z<|xc2 E z (cf_ 74) (eX H M N) λ c2 w H a E=>nt<|⟨sx H [3] z,cF z<|xc2 E z (cf_ 75) (dL H C D) λ c3 w H a E=>nt<|⟨sx H [4] z,?_⟩⟩⟩
   obtain ⟨q118,Y,rfl⟩:=H.rowform (i:=1) z
   obtain ⟨q120,Z,rfl⟩:=H.rowform (i:=0) z
   refine ov E z (λ w hW=>(cH E z (E.evs z) (v:=.agg #[(.slice q118 y.length Y),(.slice q120 A.length Z)]) (by kernel_rfl))) λ a E=>cV z<|ss 2 E H z gG z λ w H=>nt<|fA<|?_
   clear hI
   exact aA<|have H:=H.frs [0,1,4,3,4] z;X6 ⟨E.to z,H,Y0,m⟩
 ·clear E H m
  rintro a w ⟨B,q,s,t,u,c4,E,H,b0,m⟩
  unfold tF at m
  refine wS<|sp 1 E z λ a E=>lb2 E H 1 U71 z λ a E=>sv2 E z (mV (i:=4) E H z z z U71) λ a E=>pn 1 E z λ a E=>wB<|bG (λ L a w=>∃ O J,Jn 38 a w [(2,pt I 0),(3,pt B 0),(20,.int .i64 (u.length:Int)),(21,.int .i64 O)] (Blk I 73 [nS,nS]::Blk B 73 [q,s]::Blk b 87 [f,g,j,l,c,e,n,o,p]::Row 35 aP q t::Row 126 aI s J::Fo) rs (jF u t L O J=some r)) (((u.length:Int) - 0:Int).toNat+1) ?_ ?_
  ·exact X3 ⟨E.to z,H,b0,m⟩
  ·clear E H m
   rintro L a w ⟨O,J,c5,E,H,P,m⟩
   cases L with
   | zero=>exact (bE m z).elim
   | succ L=>
    unfold jF at m
    refine sq<|pn 1 E z λ a E=>wS<|wif E m z (λ m=>?_) λ m=>?_
    ·refine wK<|aA<|wS<|wB<|sq<|pn 2 E z λ a E=>dz [0,0,0,0,0,0,0,0,1,1,2,2,2] [1] H λ w W0 hI H=>fn 1 E z λ a E=>fb2 E m0 U71 z λ a E=>fn 2 E z λ a E=>fb2 E m0 U71 z λ a E=>fn 1 E z λ a E=>bd m λ K F m=>?_
     obtain ⟨c8,c9,Q⟩:=H.rowformNE (i:=4) z F
     refine fv E z (λ w hW=>dG (d:=aI) E Q z z z z U71 tO F) λ a E=>fn 1 E z λ a E=>bQ z<|G2 (i:=4) (k:=2) E H Q (wn z) z z z z z F z U44 z λ d0 a H E=>?_
     obtain ⟨_,hcs⟩:=H.rd (.head _)
     obtain ⟨S,rfl,-⟩:=dD hcs
     clear hcs
     refine have H:=H.derive1 m0 (rSl aS S K.Events) (λ ok h=>gZ h);?_
     replace E:Env 38 a ((32,S)::_):=E
     refine nt<|⟨sx H [1] z,bQ z<|bk m λ b1 m=>xc2 E z (cf_ 76) (eW H m0 b1) λ d1 w H a E=>nt<|⟨sx H [2] z,bL z<|bd m λ T G m=>?_⟩⟩
     obtain ⟨d2,d3,R⟩:=H.rowformNE (i:=5) z G
     refine sv2 E z (dG (d:=aI) E R z z z z U71 tO G) λ a E=>nt<|bL z<|pn 1 E z λ a E=>bL z<|?_
     obtain ⟨q56,b5,rfl⟩:=H.rowform (i:=0) z
     refine have H:=H.thaw (i:=0) z;I9 (i:=4) (k:=2) (us:=[(.slice q56 K.Events.length b5)]) (y':=({ T with Events:=K.Events }:aE)) E H R (wn z) z z z z z z G z Uk z (λ ok cs hr h=>by obtain ⟨d4,rfl,g1⟩:=dD h;exact mO (x:=({ T with Events:=K.Events }:aE)) (hr _ m0)) λ w H=>nt<|bB<|?_
     clear hI
     exact bP<|aA<|wG<|pn 2 E z λ a E=>⟨L,nL L,X3 ⟨E.to z,H,(Y3 P),m⟩⟩
    ·refine wX<|aT<|aT<|cL<|aA<|sq<|ln 1 [q,s] E H U73 z gG λ a E=>?_
     obtain ⟨q58,b6,rfl⟩:=H.rowform (i:=3) z
     obtain ⟨q60,b7,rfl⟩:=H.rowform (i:=4) z
     refine ss 0 E H z gG z λ w H=>nt<|wR<|oB 0 [(.slice q58 t.length b6),(.slice q60 J.length b7)] E H U73 z gG<|have H:=H.thaw (i:=3) z;have H:=H.thaw (i:=3) z;have H:=H.drs [0,0];?_
     cases m
     exact ⟨_,_,z,H.rdx [1,0] z (λ r hr=>(t2 (P r hr)))⟩

def kX(x1:Int):Option Bool:=
  if (decide (x1 ≥ 1))=true then (some (decide (x1 <= 281474976710656))) else (some (false))
theorem xR{x1:Int}(H:Sep w (Fo) rs){r:Bool}(m:kX x1=some r) :
    Cf 72 [.int .i64 x1] w λ v w'=>.bool r=v/\Sep w' (Fo) (rs):=by
 unfold kX at m
 refine ent func72 z ntmps72 z z λ a E=>sp 1 E z λ a E=>xp 3 E z λ a E=>cs m (λ b m=>?_) λ b m=>?_
 ·refine pk 4 E (kc 5 z b) z λ a E=>nt<|wR<|o1 E z<|?_
  cases m
  exact ⟨z,H.reads Y0⟩
 ·refine pk 4 E (kc 5 z b) z λ a E=>nt<|wR<|o1 E z<|?_
  cases m
  exact ⟨z,H.reads Y0⟩

def hC(rec_1:Int->Option Bool)(c:Int)(b:Bool):Option Bool:=
  if b=true then (some (false)) else (rec_1 (IntKind.i64.wrap (c+1)))
def dZ(x1:aE):Nat->Int->Option Bool
  | 0,_=>none
  | d+1,b=>
    if (decide (b < (x1.Events.length:Int)))=true then ((idx x1.Events b).bind λ c=>if (c.Num != (IntKind.i64.wrap (x1.Count - (IntKind.i64.wrap ((IntKind.i64.wrap ((x1.Events.length:Int) - 1)) - b)))))=true then (hC (dZ x1 d) b true) else (if (decide (c.Kind < 1))=true then (hC (dZ x1 d) b true) else (if (decide (c.Kind > 4))=true then (hC (dZ x1 d) b true) else ((gQ c.Path).bind λ e=>if (!e)=true then (hC (dZ x1 d) b true) else ((kX c.Watch).bind λ f=>hC (dZ x1 d) b (!f)))))) else (some (true))
def hF(x1:aE)(b:Bool):Option Bool:=
  if b=true then (some (false)) else (dZ x1 (((x1.Events.length:Int) - 0:Int).toNat+1) 0)
def sF(x1:aE):Option Bool:=
  (kX x1.Num).bind λ b=>if (!b)=true then (hF x1 true) else (if (decide (x1.Count < 0))=true then (hF x1 true) else (if (decide (x1.Count > 281474976710656))=true then (hF x1 true) else (if (decide ((x1.Events.length:Int) > 8))=true then (hF x1 true) else (hF x1 (decide ((x1.Events.length:Int) > x1.Count))))))
theorem Eb{x1:aE}{p:VL}(H:Sep w (Fo) rs)(l:rSl aS p x1.Events ∈ rs){r:Bool}(m:sF x1=some r) :
    Cf 73 [.agg (kE x1 p).toArray] w λ v w'=>.bool r=v/\Sep w' (Fo) (rs):=by
 unfold sF at m
 refine ent func73 z ntmps73 z z λ a E=>sq<|bx E H z λ o w a H E=>pn 1 E z λ a E=>wS<|aJ (λ a w=>∃ x,Jn 79 a w [(1,pt o 0),(32,.bool x)] (Blk o 126 (kE x1 p)::Fo) rs (hF x1 x=some r)) ?_ ?_
 ·refine wG<|pr 1 E z λ a E=>lb2 E H 0 U2 z λ a E=>bd m λ F y m=>xk2 E z (cf_ 72) (xR H y) λ w H a E=>pr 2 E z λ a E=>cs m (λ g m=>?_) λ g m=>?_
  ·exact pk 23 E (kc 9 z g) z λ a E=>nt<|⟨_,_,E.to z,H,Y0,m⟩
  ·refine pk 1 E (kc 9 z g) z λ a E=>gl 9 E H 0 g U2 z λ a E=>pk 3 E (kc 9 z g) z λ a E=>cs m (λ i m=>?_) λ i m=>?_
   ·exact pk 18 E (kc 14 z i) z λ a E=>nt<|⟨_,_,E.to z,H,Y0,m⟩
   ·refine pk 1 E (kc 14 z i) z λ a E=>gl 14 E H 0 i U2 z λ a E=>pk 3 E (kc 14 z i) z λ a E=>cs m (λ d m=>?_) λ d m=>?_
    ·exact pk 13 E (kc 19 z d) z λ a E=>nt<|⟨_,_,E.to z,H,Y0,m⟩
    ·refine pk 1 E (kc 19 z d) z λ a E=>gl 19 E H 0 d U44 z λ a E=>gv 19 E d z (zC E H z z l U44) λ a E=>pk 3 E (kc 19 z d) z λ a E=>cs m (λ c m=>?_) λ c m=>?_
     ·exact pk 7 E (kc 25 z c) z λ a E=>nt<|⟨_,_,E.to z,H,Y0,m⟩
     ·exact pk 1 E (kc 25 z c) z λ a E=>gl 25 E H 0 c U44 z λ a E=>gv 25 E c z (zC E H z z l U44) λ a E=>pk 1 E (kc 25 z c) z λ a E=>gl 25 E H 0 c U2 z λ a E=>pk 2 E (kc 25 z c) z λ a E=>nt<|⟨_,_,E.to z,H,Y0,m⟩
 ·clear E H m
  rintro a w ⟨x,G,E,H,u,m⟩
  unfold hF at m
  refine wif E m z (λ m=>?_) λ m=>?_
  ·refine sq<|pn 1 E z λ a E=>wR<|aG<|o1 E z<|have H:=H.drop 0;?_
   cases m
   exact ⟨z,H.reads u⟩
  ·refine wK<|aA<|wS<|sq<|pn 1 E z λ a E=>wB<|bG (λ n a w=>∃ q,Jn 79 a w [(1,pt o 0),(3,.int .i64 q)] (Blk o 126 (kE x1 p)::Fo) rs (dZ x1 n q=some r)) (((x1.Events.length:Int) - 0:Int).toNat+1) ?_ ?_
   ·exact ⟨_,_,E.to z,H,u,m⟩
   ·clear E H m
    rintro n a w ⟨q,I,E,H,b,m⟩
    cases n with
    | zero=>exact (bE m z).elim
    | succ n=>
     unfold dZ at m
     refine wS<|sp 2 E z λ a E=>lb2 E H 0 U44 z λ a E=>lS E H (b _ l) U44 z λ a E=>pn 1 E z λ a E=>wif E m z (λ m=>?_) λ m=>?_
     ·refine wK<|aA<|wS<|wB<|sp 1 E z λ a E=>lb2 E H 0 U44 z λ a E=>pr 1 E z λ a E=>bd m λ J A m=>dB E H (wn z) z z z z z (b _ l) U44 xL A λ q13 a H E=>ldf rM E H z z z z z m0 Mj z xL λ a E=>al2 E H z Sk λ K w a H E=>ss 0 E H z xL z λ w H=>nt<|aJ (λ a w=>∃ s,Jn 79 a w [(1,pt o 0),(3,.int .i64 q),(78,.bool s)] (Blk o 126 (kE x1 p)::Fo) rs (hC (dZ x1 n) q s=some r)) ?_ ?_
      ·refine wG<|pr 1 E z λ a E=>lb2 E H 0 U2 z λ a E=>pr 1 E z λ a E=>lb2 E H 1 U2 z λ a E=>pr 1 E z λ a E=>lb2 E H 1 U44 z λ a E=>lS E H (t1 (b _ l)) U44 z λ a E=>pr 6 E z λ a E=>cs m (λ j m=>?_) λ j m=>?_
       ·exact pk 21 E (kc 57 z j) z λ a E=>nt<|have H:=H.drop 0;⟨_,_,E.to z,H,(Y1 b),m⟩
       ·refine pk 1 E (kc 57 z j) z λ a E=>gl 57 E H 0 j U3 z λ a E=>pk 3 E (kc 57 z j) z λ a E=>cs m (λ k m=>?_) λ k m=>?_
        ·exact pk 16 E (kc 62 z k) z λ a E=>nt<|have H:=H.drop 0;⟨_,_,E.to z,H,(Y1 b),m⟩
        ·refine pk 1 E (kc 62 z k) z λ a E=>gl 62 E H 0 k U3 z λ a E=>pk 3 E (kc 62 z k) z λ a E=>cs m (λ e m=>?_) λ e m=>?_
         ·exact pk 11 E (kc 67 z e) z λ a E=>nt<|have H:=H.drop 0;⟨_,_,E.to z,H,(Y1 b),m⟩
         ·refine pk 1 E (kc 67 z e) z λ a E=>gl 67 E H 0 e U9 z λ a E=>bd m λ L B m=>gc 67 E e z (cf_ 70) (qN H B)<|?_
          rintro _ w ⟨rfl,H⟩ a E
          refine pk 3 E (kc 67 z e) z λ a E=>cs m (λ f m=>?_) λ f m=>?_
          ·exact pk 5 E (kc 73 z f) z λ a E=>nt<|have H:=H.drop 0;⟨_,_,E.to z,H,(Y1 b),m⟩
          ·refine pk 1 E (kc 73 z f) z λ a E=>gl 73 E H 0 f U2 z λ a E=>bd m λ M C m=>gc 73 E f z (cf_ 72) (xR H C)<|?_
           rintro _ w ⟨rfl,H⟩ a E
           exact pk 2 E (kc 73 z f) z λ a E=>nt<|have H:=H.drop 0;⟨_,_,E.to z,H,(Y1 b),m⟩
      ·clear E H m
       rintro a w ⟨s,D,E,H,t,m⟩
       unfold hC at m
       refine wif E m z (λ m=>?_) λ m=>?_
       ·refine sq<|pn 1 E z λ a E=>wR<|bD<|aG<|aG<|bD<|aG<|o1 E z<|have H:=H.drop 0;?_
        cases m
        exact ⟨z,H.reads t⟩
       ·exact wK<|bP<|aA<|wG<|pn 3 E z λ a E=>⟨n,nL n,_,_,E.to z,H,t,m⟩
     ·refine wX<|aT<|aT<|cL<|aA<|sq<|pn 1 E z λ a E=>wR<|o1 E z<|have H:=H.drop 0;?_
      cases m
      exact ⟨z,H.reads b⟩

def rJ(rec_2:Int->Option Bool)(b:Int)(c:Bool):Option Bool:=
  if c=true then (some (false)) else (rec_2 (IntKind.i64.wrap (b+1)))
def gW(rec_1:Int->Option Bool)(d:Int)(x1:aV)(c:aO):Nat->Int->Option Bool
  | 0,_=>none
  | e+1,b=>
    if (decide (b < d))=true then ((idx x1.Watches b).bind λ f=>if (f.Session == c.Session)=true then ((idx x1.Watches b).bind λ g=>rJ (gW rec_1 d x1 c e) b (g.Num == c.Num)) else (rJ (gW rec_1 d x1 c e) b false)) else (rec_1 (IntKind.i64.wrap (d+1)))
def nK(rec_1:Int->Option Bool)(b:Int)(x1:aV)(c:aO)(d:Bool):Option Bool:=
  if d=true then (some (false)) else (gW rec_1 b x1 c ((b - 0:Int).toNat+1) 0)
def nM(rec_3:Int->Option Bool)(b:Int)(c:Bool):Option Bool:=
  if c=true then (some (false)) else (rec_3 (IntKind.i64.wrap (b+1)))
def fD(x1:aV):Nat->Int->Option Bool
  | 0,_=>none
  | c+1,b=>
    if (decide (b < (x1.Sessions.length:Int)))=true then ((idx x1.Sessions b).bind λ d=>(sF d).bind λ e=>if (!e)=true then (nM (fD x1 c) b true) else (if (decide (b > 0))=true then ((idx x1.Sessions (IntKind.i64.wrap (b - 1))).bind λ f=>(idx x1.Sessions b).bind λ g=>nM (fD x1 c) b (decide (f.Num ≥ g.Num))) else (nM (fD x1 c) b false))) else (some (true))
def eB(x1:aV):Nat->Int->Option Bool
  | 0,_=>none
  | d+1,c=>
    if (decide (c < (x1.Watches.length:Int)))=true then ((idx x1.Watches c).bind λ b=>(kX b.Session).bind λ e=>if (!e)=true then (nK (eB x1 d) c x1 b true) else ((kX b.Num).bind λ f=>if (!f)=true then (nK (eB x1 d) c x1 b true) else ((gQ b.Path).bind λ g=>nK (eB x1 d) c x1 b (!g)))) else (fD x1 (((x1.Sessions.length:Int) - 0:Int).toNat+1) 0)
def uI(x1:aV):Option Bool:=
  if (decide ((x1.Watches.length:Int) > 64))=true then (some (false)) else (eB x1 (((x1.Watches.length:Int) - 0:Int).toNat+1) 0)
theorem Gt{x1:aV}{t u:VL}(H:Sep w (Fo) rs)(D:rSl aP t x1.Watches ∈ rs)(N:rSl aI u x1.Sessions ∈ rs){r:Bool}(m:uI x1=some r) :
    Cf 31 [.agg #[t,u]] w λ v w'=>.bool r=v/\Sep w' (Fo) (rs):=by
 unfold uI at m
 refine ent func31 z ntmps31 z z λ a E=>sq<|bx E H z λ i w a H E=>pn 1 E z λ a E=>wS<|sp 1 E z λ a E=>lb2 E H 0 U70 z λ a E=>lS E H D U70 z λ a E=>pn 1 E z λ a E=>wif E m z (λ m=>?_) λ m=>?_
 ·refine sq<|pn 1 E z λ a E=>wR<|aG<|o1 E z<|have H:=H.drop 0;?_
  cases m
  exact ⟨z,H.reads Y0⟩
 ·refine wK<|aA<|wS<|sq<|pn 1 E z λ a E=>wB<|bG (λ q a w=>∃ l,Jn 98 a w [(1,pt i 0),(3,.int .i64 l)] (Blk i 73 [t,u]::Fo) rs (eB x1 q l=some r)) (((x1.Watches.length:Int) - 0:Int).toNat+1) ?_ ?_
  ·exact ⟨_,_,E.to z,H,Y0,m⟩
  ·clear E H m
   rintro q a w ⟨l,d2,E,H,n,m⟩
   cases q with
   | zero=>exact (bE m z).elim
   | succ q=>
    unfold eB at m
    refine wS<|sp 2 E z λ a E=>lb2 E H 0 U70 z λ a E=>lS E H (n _ D) U70 z λ a E=>pn 1 E z λ a E=>wif E m z (λ m=>?_) λ m=>?_
    ·refine wK<|aA<|wS<|wB<|sp 1 E z λ a E=>lb2 E H 0 U70 z λ a E=>pr 1 E z λ a E=>bd m λ o Q m=>dB E H (wn z) z z z z z (n _ D) U70 tN Q λ q12 a H E=>ldf lA E H z z z z z m0 U35 z tN λ a E=>al2 E H z DS λ p w a H E=>ss 0 E H z tN z λ w H=>nt<|wS<|aJ (λ a w=>∃ F,Jn 98 a w [(1,pt i 0),(3,.int .i64 l),(4,pt p 0),(38,.bool F)] (Blk i 73 [t,u]::Blk p 35 (dP o)::Fo) rs (nK (eB x1 q) l x1 o F=some r)) ?_ ?_
     ·refine wG<|pr 1 E z λ a E=>lb2 E H 0 U2 z λ a E=>bd m λ d3 R m=>xk2 E z (cf_ 72) (xR H R) λ w H a E=>pr 2 E z λ a E=>cs m (λ e m=>?_) λ e m=>?_
      ·exact pk 11 E (kc 27 z e) z λ a E=>nt<|have H:=H.frs [0,1] z;⟨_,_,E.to z,H,(Y1 n),m⟩
      ·refine pk 1 E (kc 27 z e) z λ a E=>gl 27 E H 0 e U2 z λ a E=>bd m λ d4 S m=>gc 27 E e z (cf_ 72) (xR H S)<|?_
       rintro _ w ⟨rfl,H⟩ a E
       refine pk 3 E (kc 27 z e) z λ a E=>cs m (λ f m=>?_) λ f m=>?_
       ·exact pk 5 E (kc 33 z f) z λ a E=>nt<|have H:=H.frs [0,1] z;⟨_,_,E.to z,H,(Y1 n),m⟩
       ·refine pk 1 E (kc 33 z f) z λ a E=>gl 33 E H 0 f U9 z λ a E=>bd m λ d5 T m=>gc 33 E f z (cf_ 70) (qN H T)<|?_
        rintro _ w ⟨rfl,H⟩ a E
        exact pk 2 E (kc 33 z f) z λ a E=>nt<|have H:=H.frs [0,1] z;⟨_,_,E.to z,H,(Y1 n),m⟩
     ·clear E H m
      rintro a w ⟨F,c7,E,H,G,m⟩
      unfold nK at m
      refine wif E m z (λ m=>?_) λ m=>?_
      ·refine sq<|pn 1 E z λ a E=>wR<|aG<|bD<|aG<|aG<|bD<|aG<|o1 E z<|have H:=H.drs [0,0];?_
       cases m
       exact ⟨z,H.reads G⟩
      ·refine wK<|aA<|sq<|pn 1 E z λ a E=>wB<|bG (λ A a w=>∃ x,Jn 98 a w [(1,pt i 0),(3,.int .i64 l),(4,pt p 0),(5,.int .i64 x)] (Blk i 73 [t,u]::Blk p 35 (dP o)::Fo) rs (gW (eB x1 q) l x1 o A x=some r)) ((l - 0:Int).toNat+1) ?_ ?_
       ·exact ⟨_,_,E.to z,H,G,m⟩
       ·clear E H m
        rintro A a w ⟨x,c8,E,H,s,m⟩
        cases A with
        | zero=>exact (bE m z).elim
        | succ A=>
         unfold gW at m
         refine wS<|sq<|pn 3 E z λ a E=>wif E m z (λ m=>?_) λ m=>?_
         ·refine wK<|aA<|wS<|wB<|aJ (λ a w=>∃ I,Jn 98 a w [(1,pt i 0),(3,.int .i64 l),(4,pt p 0),(5,.int .i64 x),(63,.bool I)] (Blk i 73 [t,u]::Blk p 35 (dP o)::Fo) rs (rJ (gW (eB x1 q) l x1 o A) x I=some r)) ?_ ?_
          ·obtain ⟨d6,H⟩:=H.raw (s _ D)
           refine dw [(0,0),(1,0),(2,0),(3,0),(4,0),(5,0),(6,0),(7,0),(8,0),(9,0),(10,0),(11,0),(12,0),(13,0),(14,0),(15,0),(16,0),(17,0),(18,0),(19,0)] [0,1] [0] H (by kernel_rfl) (λ _ _ _ h=>False.elim h.2) λ w W0 hI H=>fn 1 E z λ a E=>fb2 E m0 U70 z λ a E=>fn 1 E z λ a E=>bd m λ d7 U m=>?_
           obtain ⟨q26,d8,V,W⟩:=fW (P:=Tryz.prog) (k:=.i64) hI (fV (.head _)) U70 tN U
           refine fv E z (λ w hW=>iD E z z z (V w)) λ a E=>?_
           have X:=gY W (λ _ _ _ h=>Nx h)
           refine fn 1 E z λ a E=>fa E z (wn z) z z z z X U2 z λ a E=>fn 1 E z λ a E=>fb2 E mm1 U2 z λ a E=>fn 2 E z λ a E=>cs m (λ c m=>?_) λ c m=>?_
           ·refine fk 1 E (kc 53 z c) z λ a E=>fb E z (ws' (d:=53) E z z z z c) z z z z m0 z U70 z λ a E=>fk 1 E (kc 53 z c) z λ a E=>bd m λ d9 Y m=>?_
            obtain ⟨q34,e0,Z,b0⟩:=fW (P:=Tryz.prog) (k:=.i64) hI (fV (.head _)) U70 tN Y
            refine cU E z (ws' (d:=53) E z z z z c) z z (λ w hW=>iD E z z z (Z w)) λ a E=>?_
            have b1:=gY b0 (λ _ _ _ h=>Ny h)
            refine fk 1 E (kc 53 z c) z λ a E=>fa E z (ws' (d:=53) E z z z z c) z z z z b1 U2 z λ a E=>fk 1 E (kc 53 z c) z λ a E=>fb E z (ws' (d:=53) E z z z z c) z z z z mm1 z U2 z λ a E=>fk 2 E (kc 53 z c) z λ a E=>bB<|?_
            clear hI
            exact aA<|⟨_,_,E.to z,H,(Y1 s),m⟩
           ·refine fk 10 E (kc 53 z c) z λ a E=>bB<|?_
            clear hI
            exact aA<|⟨_,_,E.to z,H,(Y1 s),m⟩
          ·clear E H m
           rintro a w ⟨I,c9,E,H,J,m⟩
           unfold rJ at m
           refine wif E m z (λ m=>?_) λ m=>?_
           ·refine sq<|pn 1 E z λ a E=>wR<|bD<|aG<|aG<|bD<|bD<|aG<|aG<|bD<|aG<|o1 E z<|have H:=H.drs [0,0];?_
            cases m
            exact ⟨z,H.reads J⟩
           ·exact wK<|bP<|aA<|wG<|pn 3 E z λ a E=>⟨A,nL A,_,_,E.to z,H,J,m⟩
         ·exact wX<|aT<|aT<|cL<|bP<|aA<|wG<|pn 3 E z λ a E=>have H:=H.drop 1;⟨q,nL q,_,_,E.to z,H,s,m⟩
    ·refine wX<|aT<|aT<|cL<|aA<|wS<|sq<|pn 1 E z λ a E=>wB<|bG (λ B a w=>∃ y,Jn 98 a w [(1,pt i 0),(6,.int .i64 y)] (Blk i 73 [t,u]::Fo) rs (fD x1 B y=some r)) (((x1.Sessions.length:Int) - 0:Int).toNat+1) ?_ ?_
     ·exact ⟨_,_,E.to z,H,n,m⟩
     ·clear E H m
      rintro B a w ⟨y,d0,E,H,g,m⟩
      cases B with
      | zero=>exact (bE m z).elim
      | succ B=>
       unfold fD at m
       refine wS<|sp 2 E z λ a E=>lb2 E H 0 U71 z λ a E=>lS E H (g _ N) U71 z λ a E=>pn 1 E z λ a E=>wif E m z (λ m=>?_) λ m=>?_
       ·refine wK<|aA<|wS<|wB<|aJ (λ a w=>∃ K,Jn 98 a w [(1,pt i 0),(6,.int .i64 y),(97,.bool K)] (Blk i 73 [t,u]::Fo) rs (nM (fD x1 B) y K=some r)) ?_ ?_
        ·obtain ⟨e1,H⟩:=H.raw (g _ N)
         refine dw [(0,0),(1,0),(2,0),(3,0),(4,0),(5,1),(6,0),(7,0),(8,0),(9,0),(10,0),(11,0),(12,0),(13,0),(14,0),(15,0),(16,0),(17,0),(18,0),(19,0),(20,0),(21,0),(22,0),(23,0),(24,0),(25,0),(26,0)] [0] [0] H (by kernel_rfl) (λ _ _ _ h=>False.elim h.2) λ w W0 hI H=>fn 1 E z λ a E=>fb2 E m0 U71 z λ a E=>fn 1 E z λ a E=>bd m λ O b2 m=>?_
         obtain ⟨q56,e2,b3,L⟩:=fW (P:=Tryz.prog) (k:=.i64) hI (fV (.head _)) U71 tO b2
         refine fv E z (λ w hW=>iD E z z z (b3 w)) λ a E=>?_
         obtain ⟨_,b4⟩:=GE hI L
         obtain ⟨c6,b5,-⟩:=dD b4
         have C:=L
         rw [b5] at C
         have b6:=KB C (λ _ _ h=>gZ h)
         refine fv E z (λ w hW=>sI E z z (KC (cs:=[.int .i64 O.Num,.int .i64 O.Count,c6]) (DR.ir C) Mi z tO w hW)) λ a E=>have H:=H.dr (aD m0 (bO)) b6;bQ z<|bd m λ e3 b7 m=>xk2 E z (cf_ 73) (Eb H m0 b7) λ w H a E=>nt<|⟨⟨_,_,H,(aU m0 (bH)),(aD mm1 (bO))⟩,fn 2 E z λ a E=>cs m (λ j m=>?_) λ j m=>?_⟩
         ·refine fk 19 E (kc 78 z j) z λ a E=>bB<|?_
          clear hI
          exact aA<|⟨_,_,E.to z,H,(Y2 g),m⟩
         ·refine fk 3 E (kc 78 z j) z λ a E=>cs m (λ b m=>?_) λ b m=>?_
          ·refine fk 1 E (kc 81 z b) z λ a E=>fb E z (ws' (d:=81) E z z z z b) z z z z m0 z U71 z λ a E=>fk 2 E (kc 81 z b) z λ a E=>bd m λ e4 b8 m=>?_
           obtain ⟨q71,e5,b9,c0⟩:=fW (P:=Tryz.prog) (k:=.i64) hI (fV (.head _)) U71 tO b8
           refine cU E z (ws' (d:=81) E z z z z b) z z (λ w hW=>iD E z z z (b9 w)) λ a E=>?_
           have c1:=gY c0 (λ _ _ _ h=>zY h)
           refine fk 1 E (kc 81 z b) z λ a E=>fa E z (ws' (d:=81) E z z z z b) z z z z c1 U2 z λ a E=>fk 1 E (kc 81 z b) z λ a E=>fb E z (ws' (d:=81) E z z z z b) z z z z m0 z U71 z λ a E=>fk 1 E (kc 81 z b) z λ a E=>bd m λ e6 c2 m=>?_
           obtain ⟨q78,e7,c3,c4⟩:=fW (P:=Tryz.prog) (k:=.i64) hI (fV (.head _)) U71 tO c2
           refine cU E z (ws' (d:=81) E z z z z b) z z (λ w hW=>iD E z z z (c3 w)) λ a E=>?_
           have c5:=gY c4 (λ _ _ _ h=>zY h)
           refine fk 1 E (kc 81 z b) z λ a E=>fa E z (ws' (d:=81) E z z z z b) z z z z c5 U2 z λ a E=>fk 3 E (kc' (kc 81 z b) 78 z j) z λ a E=>bB<|?_
           clear hI
           exact aA<|⟨_,_,E.to z,H,(Y2 g),m⟩
          ·refine fk 16 E (kc' (kc 81 z b) 78 z j) z λ a E=>bB<|?_
           clear hI
           exact aA<|⟨_,_,E.to z,H,(Y2 g),m⟩
        ·clear E H m
         rintro a w ⟨K,d1,E,H,M,m⟩
         unfold nM at m
         refine wif E m z (λ m=>?_) λ m=>?_
         ·refine sq<|pn 1 E z λ a E=>wR<|bD<|aG<|aG<|bD<|aG<|o1 E z<|have H:=H.drop 0;?_
          cases m
          exact ⟨z,H.reads M⟩
         ·exact wK<|bP<|aA<|wG<|pn 3 E z λ a E=>⟨B,nL B,_,_,E.to z,H,M,m⟩
       ·refine wX<|aT<|aT<|cL<|aA<|sq<|pn 1 E z λ a E=>wR<|o1 E z<|have H:=H.drop 0;?_
        cases m
        exact ⟨z,H.reads g⟩

def lX(b:List aQ)(d:BY):Nat->Int->Option xM
  | 0,_=>none
  | f+1,c=>
    if (decide (c < (b.length:Int)))=true then ((idx b c).bind λ g=>if (sEq g.Dir d)=true then ((idx b c).bind λ e=>some (e.Txn,true)) else (lX b d f (IntKind.i64.wrap (c+1)))) else (some (0,false))
def vZ(b:List aQ)(c:BY):Option xM:=
  lX b c (((b.length:Int) - 0:Int).toNat+1) 0
theorem Io{g:VL}{e:List aQ}{f:BY}(H:Sep w (Fo) rs)(d:rSl aY g e ∈ rs){r:Int×Bool}(m:vZ e f=some r) :
    Cf 33 [g,.string f] w λ v w'=>.tuple #[.int .i64 r.1,.bool r.2]=v/\Sep w' (Fo) (rs):=by
 unfold vZ at m
 refine ent func33 z ntmps33 z z λ a E=>sq<|pn 2 E z λ a E=>wS<|sq<|pn 1 E z λ a E=>wB<|bG (λ c a w=>∃ i,Jn 25 a w [(0,g),(1,.string f),(6,.int .i64 i)] (Fo) rs (lX e f c i=some r)) (((e.length:Int) - 0:Int).toNat+1) ?_ ?_
 ·exact ⟨_,_,E.to z,H,Y0,m⟩
 ·clear E H m
  rintro c a w ⟨i,o,E,H,b,m⟩
  cases c with
  | zero=>exact (bE m z).elim
  | succ c=>
   unfold lX at m
   refine wS<|sp 2 E z λ a E=>lS E H (b _ d) U58 z λ a E=>pn 1 E z λ a E=>wif E m z (λ m=>?_) λ m=>?_
   ·refine wK<|aA<|wS<|wB<|sp 2 E z λ a E=>bd m λ n k m=>dB E H (wn z) z z z z z (b _ d) U58 jZ k λ q10 a H E=>have H:=H.derive1 m0 (rAt kS (q10.add 0) n.Dir) (λ ok h=>Di h);pr 1 E z λ a E=>sv2 E z (sK E H z z m0 U9 z) λ a E=>pn 2 E z λ a E=>wif E m z (λ m=>?_) λ m=>?_
    ·refine sp 2 E z λ a E=>bd m λ l j m=>dB E H (wn z) z z z z z (t2 (b _ d)) U58 jZ j λ q13 a H E=>have H:=H.derive1 m0 (rAt (kI .i64) (q13.add 1) l.Txn) (λ ok h=>Dj h);pr 1 E z λ a E=>sv2 E z (sK E H z z m0 U2 z) λ a E=>pn 2 E z λ a E=>wR<|bD<|aG<|aG<|bD<|aG<|iH E z z z<|?_
     cases m
     exact ⟨z,H.reads (Y4 b)⟩
    ·exact wK<|bP<|aA<|wG<|pn 3 E z λ a E=>⟨c,nL c,_,_,E.to z,H,(Y2 b),m⟩
   ·refine wX<|aT<|aT<|cL<|aA<|sq<|pn 2 E z λ a E=>wR<|iH E z z z<|?_
    cases m
    exact ⟨z,H.reads b⟩

def pS(x1:Int):Option Bool:=
  if (decide (x1 ≥ 0))=true then (some (decide (x1 <= 281474976710656))) else (some (false))
theorem R1{x1:Int}(H:Sep w (Fo) rs){r:Bool}(m:pS x1=some r) :
    Cf 71 [.int .i64 x1] w λ v w'=>.bool r=v/\Sep w' (Fo) (rs):=by
 unfold pS at m
 refine ent func71 z ntmps71 z z λ a E=>sp 1 E z λ a E=>xp 3 E z λ a E=>cs m (λ b m=>?_) λ b m=>?_
 ·refine pk 4 E (kc 5 z b) z λ a E=>nt<|wR<|o1 E z<|?_
  cases m
  exact ⟨z,H.reads Y0⟩
 ·refine pk 4 E (kc 5 z b) z λ a E=>nt<|wR<|o1 E z<|?_
  cases m
  exact ⟨z,H.reads Y0⟩

def rK(rec_2:Int->Option Bool)(b:Int)(c:Bool):Option Bool:=
  if c=true then (some (false)) else (rec_2 (IntKind.i64.wrap (b+1)))
def gE(rec_1:Int->Option Bool)(c:Int)(d:List aQ):Nat->Int->Option Bool
  | 0,_=>none
  | e+1,b=>
    if (decide (b < c))=true then ((idx d b).bind λ f=>(idx d c).bind λ g=>if (f.Txn == g.Txn)=true then ((idx d b).bind λ i=>(idx d c).bind λ j=>rK (gE rec_1 c d e) b (i.Age != j.Age)) else (rK (gE rec_1 c d e) b false)) else (rec_1 (IntKind.i64.wrap (c+1)))
def iQ(rec_1:Int->Option Bool)(b:Int)(c:List aQ)(d:Bool):Option Bool:=
  if d=true then (some (false)) else (gE rec_1 b c ((b - 0:Int).toNat+1) 0)
def cZ(b:List aQ):Nat->Int->Option Bool
  | 0,_=>none
  | d+1,c=>
    if (decide (c < (b.length:Int)))=true then ((idx b c).bind λ e=>(gQ e.Dir).bind λ f=>if (!f)=true then (iQ (cZ b d) c b true) else ((idx b c).bind λ g=>(pS g.Txn).bind λ i=>if (!i)=true then (iQ (cZ b d) c b true) else ((idx b c).bind λ j=>(pS j.Age).bind λ k=>if (!k)=true then (iQ (cZ b d) c b true) else (if (decide (c > 0))=true then ((idx b (IntKind.i64.wrap (c - 1))).bind λ l=>(idx b c).bind λ m=>iQ (cZ b d) c b (!(sLt l.Dir m.Dir))) else (iQ (cZ b d) c b false))))) else (some (true))
def uJ(b:List aQ):Option Bool:=
  cZ b (((b.length:Int) - 0:Int).toNat+1) 0
theorem Gu{s:VL}{j:List aQ}(H:Sep w (Fo) rs)(t:rSl aY s j ∈ rs){r:Bool}(m:uJ j=some r) :
    Cf 30 [s] w λ v w'=>.bool r=v/\Sep w' (Fo) (rs):=by
 unfold uJ at m
 refine ent func30 z ntmps30 z z λ a E=>sq<|pn 1 E z λ a E=>wS<|sq<|pn 1 E z λ a E=>wB<|bG (λ n a w=>∃ l,Jn 83 a w [(0,s),(3,.int .i64 l)] (Fo) rs (cZ j n l=some r)) (((j.length:Int) - 0:Int).toNat+1) ?_ ?_
 ·exact ⟨_,_,E.to z,H,Y0,m⟩
 ·clear E H m
  rintro n a w ⟨l,c9,E,H,g,m⟩
  cases n with
  | zero=>exact (bE m z).elim
  | succ n=>
   unfold cZ at m
   refine wS<|sp 2 E z λ a E=>lS E H (g _ t) U58 z λ a E=>pn 1 E z λ a E=>wif E m z (λ m=>?_) λ m=>?_
   ·refine wK<|aA<|wS<|wB<|wS<|aJ (λ a w=>∃ A,Jn 83 a w [(0,s),(3,.int .i64 l),(53,.bool A)] (Fo) rs (iQ (cZ j n) l j A=some r)) ?_ ?_
    ·obtain ⟨d0,H⟩:=H.raw (g _ t)
     refine dw [(0,0),(1,0),(2,0),(3,0),(4,0),(5,1),(6,0),(7,0),(8,0),(9,0),(10,0),(11,0),(12,0),(13,1),(14,0),(15,0),(16,0),(17,0),(18,0),(19,0),(20,0),(21,0),(22,1),(23,0),(24,0),(25,0),(26,0),(27,0),(28,0),(29,0),(30,0),(31,0),(32,0),(33,0),(34,0),(35,0),(36,0),(37,0),(38,0),(39,0),(40,0),(41,0),(42,0)] [] [0] H (by kernel_rfl) (λ _ _ _ h=>False.elim h.2) λ w W0 hI H=>fn 2 E z λ a E=>bd m λ d1 B m=>?_
     obtain ⟨q49,d2,C,D⟩:=fW (P:=Tryz.prog) (k:=.i64) hI (fV (.head _)) U58 jZ B
     refine fv E z (λ w hW=>iD E z z z (C w)) λ a E=>?_
     have F:=gY D (λ _ _ _ h=>xT h)
     refine fn 1 E z λ a E=>fa E z (wn z) z z z z F U9 z λ a E=>bQ z<|bd m λ d3 G m=>xk2 E z (cf_ 70) (qN H G) λ w H a E=>nt<|⟨⟨_,_,H,(bH),(aD m0 (bO))⟩,fn 2 E z λ a E=>cs m (λ e m=>?_) λ e m=>?_⟩
     ·refine fk 5 E (kc 18 z e) z λ a E=>bQ z<|pk 1 E (kc 18 z e) z λ a E=>nt<|⟨⟨_,_,H,(bH),(aD m0 (bO))⟩,fk 8 E (kc 18 z e) z λ a E=>bQ z<|pn 1 E z λ a E=>⟨⟨_,_,H,(bH),(aD m0 (bO))⟩,fn 20 E z λ a E=>bB<|?_⟩⟩
      clear hI
      exact aA<|⟨_,_,E.to z,H,(Y1 g),m⟩
     ·refine fk 2 E (kc 18 z e) z λ a E=>bd m λ d4 I m=>?_
      obtain ⟨q59,d5,J,K⟩:=fW (P:=Tryz.prog) (k:=.i64) hI (fV (.head _)) U58 jZ I
      refine cU E z (ws' (d:=18) E z z z z e) z z (λ w hW=>iD E z z z (J w)) λ a E=>?_
      have L:=gY K (λ _ _ _ h=>U1 h)
      refine fk 1 E (kc 18 z e) z λ a E=>fa E z (ws' (d:=18) E z z z z e) z z z z L U2 z λ a E=>bQ z<|bd m λ d6 M m=>gc 18 E e z (cf_ 71) (R1 H M)<|?_
      rintro _ w ⟨rfl,H⟩ a E
      refine nt<|⟨⟨_,_,H,(bH),(aD m0 (bO))⟩,fk 3 E (kc 18 z e) z λ a E=>cs m (λ f m=>?_) λ f m=>?_⟩
      ·refine fk 5 E (kc 27 z f) z λ a E=>bQ z<|pk 1 E (kc 27 z f) z λ a E=>nt<|⟨⟨_,_,H,(bH),(aD m0 (bO))⟩,fk 20 E (kc 27 z f) z λ a E=>bB<|?_⟩
       clear hI
       exact aA<|⟨_,_,E.to z,H,(Y1 g),m⟩
      ·refine fk 2 E (kc 27 z f) z λ a E=>bd m λ d7 N m=>?_
       obtain ⟨q69,d8,O,Q⟩:=fW (P:=Tryz.prog) (k:=.i64) hI (fV (.head _)) U58 jZ N
       refine cU E z (ws' (d:=27) E z z z z f) z z (λ w hW=>iD E z z z (O w)) λ a E=>?_
       have R:=gY Q (λ _ _ _ h=>U5 h)
       refine fk 1 E (kc 27 z f) z λ a E=>fa E z (ws' (d:=27) E z z z z f) z z z z R U2 z λ a E=>bQ z<|bd m λ d9 S m=>gc 27 E f z (cf_ 71) (R1 H S)<|?_
       rintro _ w ⟨rfl,H⟩ a E
       refine nt<|⟨⟨_,_,H,(bH),(aD m0 (bO))⟩,fk 3 E (kc 27 z f) z λ a E=>cs m (λ i m=>?_) λ i m=>?_⟩
       ·refine fk 17 E (kc 36 z i) z λ a E=>bB<|?_
        clear hI
        exact aA<|⟨_,_,E.to z,H,(Y1 g),m⟩
       ·refine fk 3 E (kc 36 z i) z λ a E=>cs m (λ b m=>?_) λ b m=>?_
        ·refine fk 3 E (kc 39 z b) z λ a E=>bd m λ e0 T m=>?_
         obtain ⟨q80,e1,U,V⟩:=fW (P:=Tryz.prog) (k:=.i64) hI (fV (.head _)) U58 jZ T
         refine cU E z (ws' (d:=39) E z z z z b) z z (λ w hW=>iD E z z z (U w)) λ a E=>?_
         have W:=gY V (λ _ _ _ h=>xT h)
         refine fk 1 E (kc 39 z b) z λ a E=>fa E z (ws' (d:=39) E z z z z b) z z z z W U9 z λ a E=>fk 2 E (kc 39 z b) z λ a E=>bd m λ e2 X m=>?_
         obtain ⟨q87,e3,Y,Z⟩:=fW (P:=Tryz.prog) (k:=.i64) hI (fV (.head _)) U58 jZ X
         refine cU E z (ws' (d:=39) E z z z z b) z z (λ w hW=>iD E z z z (Y w)) λ a E=>?_
         have b0:=gY Z (λ _ _ _ h=>xT h)
         refine fk 1 E (kc 39 z b) z λ a E=>fa E z (ws' (d:=39) E z z z z b) z z z z b0 U9 z λ a E=>fk 3 E (kc' (kc 39 z b) 36 z i) z λ a E=>bB<|?_
         clear hI
         exact aA<|⟨_,_,E.to z,H,(Y1 g),m⟩
        ·refine fk 14 E (kc' (kc 39 z b) 36 z i) z λ a E=>bB<|?_
         clear hI
         exact aA<|⟨_,_,E.to z,H,(Y1 g),m⟩
    ·clear E H m
     rintro a w ⟨A,e4,E,H,y,m⟩
     unfold iQ at m
     refine wif E m z (λ m=>?_) λ m=>?_
     ·refine sq<|pn 1 E z λ a E=>wR<|aG<|bD<|aG<|aG<|bD<|aG<|o1 E z<|?_
      cases m
      exact ⟨z,H.reads y⟩
     ·refine wK<|aA<|sq<|pn 1 E z λ a E=>wB<|bG (λ q a w=>∃ p,Jn 83 a w [(0,s),(3,.int .i64 l),(4,.int .i64 p)] (Fo) rs (gE (cZ j n) l j q p=some r)) ((l - 0:Int).toNat+1) ?_ ?_
      ·exact ⟨_,_,E.to z,H,y,m⟩
      ·clear E H m
       rintro q a w ⟨p,c7,E,H,o,m⟩
       cases q with
       | zero=>exact (bE m z).elim
       | succ q=>
        unfold gE at m
        refine wS<|sq<|pn 3 E z λ a E=>wif E m z (λ m=>?_) λ m=>?_
        ·refine wK<|aA<|wS<|wB<|aJ (λ a w=>∃ u,Jn 83 a w [(0,s),(3,.int .i64 l),(4,.int .i64 p),(82,.bool u)] (Fo) rs (rK (gE (cZ j n) l j q) p u=some r)) ?_ ?_
         ·obtain ⟨e5,H⟩:=H.raw (o _ t)
          refine dw [(0,0),(1,0),(2,0),(3,0),(4,0),(5,0),(6,0),(7,0),(8,0),(9,0),(10,0),(11,0),(12,0),(13,0),(14,0),(15,0),(16,0),(17,0),(18,0),(19,0),(20,0),(21,0),(22,0),(23,0)] [] [0] H (by kernel_rfl) (λ _ _ _ h=>False.elim h.2) λ w W0 hI H=>fn 2 E z λ a E=>bd m λ e6 b1 m=>?_
          obtain ⟨q19,e7,b2,b3⟩:=fW (P:=Tryz.prog) (k:=.i64) hI (fV (.head _)) U58 jZ b1
          refine fv E z (λ w hW=>iD E z z z (b2 w)) λ a E=>?_
          have b4:=gY b3 (λ _ _ _ h=>U1 h)
          refine fn 1 E z λ a E=>fa E z (wn z) z z z z b4 U2 z λ a E=>fn 2 E z λ a E=>bd m λ e8 b5 m=>?_
          obtain ⟨q26,e9,b6,b7⟩:=fW (P:=Tryz.prog) (k:=.i64) hI (fV (.head _)) U58 jZ b5
          refine fv E z (λ w hW=>iD E z z z (b6 w)) λ a E=>?_
          have b8:=gY b7 (λ _ _ _ h=>U1 h)
          refine fn 1 E z λ a E=>fa E z (wn z) z z z z b8 U2 z λ a E=>fn 2 E z λ a E=>cs m (λ c m=>?_) λ c m=>?_
          ·refine fk 2 E (kc 70 z c) z λ a E=>bd m λ f0 b9 m=>?_
           obtain ⟨q34,f1,c0,c1⟩:=fW (P:=Tryz.prog) (k:=.i64) hI (fV (.head _)) U58 jZ b9
           refine cU E z (ws' (d:=70) E z z z z c) z z (λ w hW=>iD E z z z (c0 w)) λ a E=>?_
           have c2:=gY c1 (λ _ _ _ h=>U5 h)
           refine fk 1 E (kc 70 z c) z λ a E=>fa E z (ws' (d:=70) E z z z z c) z z z z c2 U2 z λ a E=>fk 2 E (kc 70 z c) z λ a E=>bd m λ f2 c3 m=>?_
           obtain ⟨q41,f3,c4,c5⟩:=fW (P:=Tryz.prog) (k:=.i64) hI (fV (.head _)) U58 jZ c3
           refine cU E z (ws' (d:=70) E z z z z c) z z (λ w hW=>iD E z z z (c4 w)) λ a E=>?_
           have c6:=gY c5 (λ _ _ _ h=>U5 h)
           refine fk 1 E (kc 70 z c) z λ a E=>fa E z (ws' (d:=70) E z z z z c) z z z z c6 U2 z λ a E=>fk 2 E (kc 70 z c) z λ a E=>bB<|?_
           clear hI
           exact aA<|⟨_,_,E.to z,H,(Y1 o),m⟩
          ·refine fk 12 E (kc 70 z c) z λ a E=>bB<|?_
           clear hI
           exact aA<|⟨_,_,E.to z,H,(Y1 o),m⟩
         ·clear E H m
          rintro a w ⟨u,c8,E,H,x,m⟩
          unfold rK at m
          refine wif E m z (λ m=>?_) λ m=>?_
          ·refine sq<|pn 1 E z λ a E=>wR<|bD<|aG<|aG<|bD<|bD<|aG<|aG<|bD<|aG<|o1 E z<|?_
           cases m
           exact ⟨z,H.reads x⟩
          ·exact wK<|bP<|aA<|wG<|pn 3 E z λ a E=>⟨q,nL q,_,_,E.to z,H,x,m⟩
        ·exact wX<|aT<|aT<|cL<|bP<|aA<|wG<|pn 3 E z λ a E=>⟨n,nL n,_,_,E.to z,H,o,m⟩
   ·refine wX<|aT<|aT<|cL<|aA<|sq<|pn 1 E z λ a E=>wR<|o1 E z<|?_
    cases m
    exact ⟨z,H.reads g⟩

def gF(rec_1:Int->Option Bool)(c:Int)(b:Bool):Option Bool:=
  if b=true then (some (false)) else (rec_1 (IntKind.i64.wrap (c+1)))
def dQ(c:List aF):Nat->Int->Option Bool
  | 0,_=>none
  | d+1,b=>
    if (decide (b < (c.length:Int)))=true then ((idx c b).bind λ e=>(gQ e.Prefix).bind λ f=>if (!f)=true then (gF (dQ c d) b true) else (if (decide (e.Epoch < 0))=true then (gF (dQ c d) b true) else (if (decide (e.Epoch > 281474976710656))=true then (gF (dQ c d) b true) else (if (decide (e.State < 1))=true then (gF (dQ c d) b true) else (if (decide (e.State > 3))=true then (gF (dQ c d) b true) else (if (decide (b > 0))=true then ((idx c (IntKind.i64.wrap (b - 1))).bind λ g=>gF (dQ c d) b (!(sLt g.Prefix e.Prefix))) else (gF (dQ c d) b false))))))) else (some (true))
def uK(b:List aF):Option Bool:=
  if (decide ((b.length:Int) > 32))=true then (some (false)) else (dQ b (((b.length:Int) - 0:Int).toNat+1) 0)
theorem Gv{t:VL}{o:List aF}(H:Sep w (Fo) rs)(n:rSl aN t o ∈ rs){r:Bool}(m:uK o=some r) :
    Cf 29 [t] w λ v w'=>.bool r=v/\Sep w' (Fo) (rs):=by
 unfold uK at m
 refine ent func29 z ntmps29 z z λ a E=>sq<|pn 1 E z λ a E=>wS<|sp 1 E z λ a E=>lS E H n U32 z λ a E=>pr 1 E z λ a E=>nt<|wif E m z (λ m=>?_) λ m=>?_
 ·refine sq<|pn 1 E z λ a E=>wR<|aG<|o1 E z<|?_
  cases m
  exact ⟨z,H.reads Y0⟩
 ·refine wK<|aA<|wS<|sq<|pn 1 E z λ a E=>wB<|bG (λ l a w=>∃ p,Jn 57 a w [(0,t),(3,.int .i64 p)] (Fo) rs (dQ o l p=some r)) (((o.length:Int) - 0:Int).toNat+1) ?_ ?_
  ·exact ⟨_,_,E.to z,H,Y0,m⟩
  ·clear E H m
   rintro l a w ⟨p,F,E,H,c,m⟩
   cases l with
   | zero=>exact (bE m z).elim
   | succ l=>
    unfold dQ at m
    refine wS<|sp 2 E z λ a E=>lS E H (c _ n) U32 z λ a E=>pn 1 E z λ a E=>wif E m z (λ m=>?_) λ m=>?_
    ·refine wK<|aA<|wS<|wB<|sp 2 E z λ a E=>bd m λ M C m=>dB E H (wn z) z z z z z (c _ n) U32 iY C λ q9 a H E=>ldf kZ E H z z z z z m0 U31 z iY λ a E=>al2 E H z Mf λ G w a H E=>ss 0 E H z iY z λ w H=>nt<|aJ (λ a w=>∃ q,Jn 57 a w [(0,t),(3,.int .i64 p),(56,.bool q)] (Fo) rs (gF (dQ o l) p q=some r)) ?_ ?_
     ·obtain ⟨I,H⟩:=H.raw (t1 (c _ n))
      refine dw [(0,0),(1,0),(2,1),(3,0),(4,0),(5,0),(6,0),(7,0),(8,0),(9,0),(10,0),(11,0),(12,0),(13,0),(14,0),(15,0),(16,0),(17,0),(18,0),(19,0),(20,0),(21,0),(22,0),(23,0),(24,0),(25,0),(26,0),(27,0),(28,0),(29,0),(30,0),(31,0),(32,0),(33,0),(34,0),(35,0),(36,0),(37,0),(38,0)] [0] [0] H (by kernel_rfl) (λ _ _ _ h=>False.elim h.2) λ w W0 hI H=>fn 1 E z λ a E=>fb2 E m0 U9 z λ a E=>bQ z<|bd m λ J u m=>xk2 E z (cf_ 70) (qN H u) λ w H a E=>nt<|⟨⟨_,_,H,(aU m0 (bH)),(aD m0 (bO))⟩,fn 2 E z λ a E=>cs m (λ e m=>?_) λ e m=>?_⟩
      ·refine fk 34 E (kc 22 z e) z λ a E=>bB<|?_
       clear hI
       exact aA<|have H:=H.drop 0;⟨_,_,E.to z,H,(Y2 c),m⟩
      ·refine fk 1 E (kc 22 z e) z λ a E=>fb E z (ws' (d:=22) E z z z z e) z z z z m0 z U2 z λ a E=>fk 3 E (kc 22 z e) z λ a E=>cs m (λ f m=>?_) λ f m=>?_
       ·refine fk 29 E (kc 27 z f) z λ a E=>bB<|?_
        clear hI
        exact aA<|have H:=H.drop 0;⟨_,_,E.to z,H,(Y2 c),m⟩
       ·refine fk 1 E (kc 27 z f) z λ a E=>fb E z (ws' (d:=27) E z z z z f) z z z z m0 z U2 z λ a E=>fk 3 E (kc 27 z f) z λ a E=>cs m (λ g m=>?_) λ g m=>?_
        ·refine fk 24 E (kc 32 z g) z λ a E=>bB<|?_
         clear hI
         exact aA<|have H:=H.drop 0;⟨_,_,E.to z,H,(Y2 c),m⟩
        ·refine fk 1 E (kc 32 z g) z λ a E=>fb E z (ws' (d:=32) E z z z z g) z z z z m0 z U3 z λ a E=>fk 3 E (kc 32 z g) z λ a E=>cs m (λ i m=>?_) λ i m=>?_
         ·refine fk 19 E (kc 37 z i) z λ a E=>bB<|?_
          clear hI
          exact aA<|have H:=H.drop 0;⟨_,_,E.to z,H,(Y2 c),m⟩
         ·refine fk 1 E (kc 37 z i) z λ a E=>fb E z (ws' (d:=37) E z z z z i) z z z z m0 z U3 z λ a E=>fk 3 E (kc 37 z i) z λ a E=>cs m (λ j m=>?_) λ j m=>?_
          ·refine fk 14 E (kc 42 z j) z λ a E=>bB<|?_
           clear hI
           exact aA<|have H:=H.drop 0;⟨_,_,E.to z,H,(Y2 c),m⟩
          ·refine fk 3 E (kc 42 z j) z λ a E=>cs m (λ b m=>?_) λ b m=>?_
           ·refine fk 3 E (kc 45 z b) z λ a E=>bd m λ K x m=>?_
            obtain ⟨q25,L,y,A⟩:=fW (P:=Tryz.prog) (k:=.i64) hI (fV (.head _)) U32 iY x
            refine cU E z (ws' (d:=45) E z z z z b) z z (λ w hW=>iD E z z z (y w)) λ a E=>?_
            have B:=gY A (λ _ _ _ h=>sN h)
            refine fk 1 E (kc 45 z b) z λ a E=>fa E z (ws' (d:=45) E z z z z b) z z z z B U9 z λ a E=>fk 1 E (kc 45 z b) z λ a E=>fb E z (ws' (d:=45) E z z z z b) z z z z m0 z U9 z λ a E=>fk 3 E (kc' (kc 45 z b) 42 z j) z λ a E=>bB<|?_
            clear hI
            exact aA<|have H:=H.drop 0;⟨_,_,E.to z,H,(Y2 c),m⟩
           ·refine fk 11 E (kc' (kc 45 z b) 42 z j) z λ a E=>bB<|?_
            clear hI
            exact aA<|have H:=H.drop 0;⟨_,_,E.to z,H,(Y2 c),m⟩
     ·clear E H m
      rintro a w ⟨q,D,E,H,s,m⟩
      unfold gF at m
      refine wif E m z (λ m=>?_) λ m=>?_
      ·refine sq<|pn 1 E z λ a E=>wR<|bD<|aG<|aG<|bD<|aG<|o1 E z<|?_
       cases m
       exact ⟨z,H.reads s⟩
      ·exact wK<|bP<|aA<|wG<|pn 3 E z λ a E=>⟨l,nL l,_,_,E.to z,H,s,m⟩
    ·refine wX<|aT<|aT<|cL<|aA<|sq<|pn 1 E z λ a E=>wR<|o1 E z<|?_
     cases m
     exact ⟨z,H.reads c⟩

def hG(rec_2:jG->Int->Option Bool)(b:jG)(c:Int)(d:Bool):Option Bool:=
  if d=true then (some (false)) else (rec_2 b (IntKind.i64.wrap (c+1)))
def dT(rec_1:Int->eI->dU->iS->jG->fQ->eD->pK->Q5->pK->Option Bool)(d:jG)(b:aX×eI×dU×iS×jG×fQ×eD×pK×Q5×pK)(g:List aK)(f:Int):Nat->jG->Int->Option Bool
  | 0,_,_=>none
  | i+1,e,c=>
    if (decide (c < (d.length:Int)))=true then ((idx d c).bind λ j=>(vZ e j.Dir).bind λ k=>if (!k.2)=true then ((idx d c).bind λ l=>(mU b.2.2.2.1).bind λ m=>(zA m l.Dir).bind λ n=>if (n != 1)=true then (hG (dT rec_1 d b g f i) e c true) else ((idx g f).bind λ o=>if (o.Kind != 2)=true then (hG (dT rec_1 d b g f i) e c true) else (hG (dT rec_1 d b g f i) e c (b.1.Err == 131)))) else (hG (dT rec_1 d b g f i) e c false)) else (rec_1 (IntKind.i64.wrap (f+1)) b.2.1 b.2.2.1 b.2.2.2.1 b.2.2.2.2.1 b.2.2.2.2.2.1 b.2.2.2.2.2.2.1 b.2.2.2.2.2.2.2.1 b.2.2.2.2.2.2.2.2.1 b.2.2.2.2.2.2.2.2.2)
def hJ(rec_1:Int->eI->dU->iS->jG->fQ->eD->pK->Q5->pK->Option Bool)(b:jG)(c:aX×eI×dU×iS×jG×fQ×eD×pK×Q5×pK)(g:List aK)(d:Int)(e:jG)(f:Bool):Option Bool:=
  if f=true then (some (false)) else (dT rec_1 b c g d (((b.length:Int) - 0:Int).toNat+1) e 0)
def cY(c:List aK)(e:Bool):Nat->Int->eI->dU->iS->jG->fQ->eD->pK->Q5->pK->Option Bool
  | 0,_,_,_,_,_,_,_,_,_,_=>none
  | i+1,d,s,t,u,j,v,x,y,z,A=>
    if (decide (d < (c.length:Int)))=true then ((nQ j).bind λ g=>(idx c d).bind λ B=>(cK s t u j v x y z A B).bind λ b=>(nQ b.2.2.2.2.1).bind λ f=>(qX b.2.1 b.2.2.1).bind λ k=>(yP k).bind λ l=>if (!l)=true then (hJ (cY c e i) f b c d g true) else ((mU b.2.2.2.1).bind λ m=>(uK m).bind λ n=>if (!n)=true then (hJ (cY c e i) f b c d g true) else ((uJ f).bind λ o=>if (!o)=true then (hJ (cY c e i) f b c d g true) else ((oI b.2.2.2.2.2.1 b.2.2.2.2.2.2.1).bind λ p=>(uI p).bind λ q=>hJ (cY c e i) f b c d g (!q))))) else (some (e))
def gB(d:List aK)(c:Bool)(b:eI×dU×iS)(e:Bool):Option Bool:=
  if e=true then (some (c)) else (cY d c (((d.length:Int) - 0:Int).toNat+1) 0 b.1 b.2.1 b.2.2 ([]:List aQ) ([]:List aO) ([]:List aE) [] [] [])
def pC(x1:aR)(i:List aF)(d:List aK):Option Bool:=
  I3.bind λ b=>(xS x1 i).bind λ j=>Lp j (some (b)) λ c=>(qS x1).bind λ e=>if e=true then (gB d b c true) else ((uH i).bind λ f=>if f=true then (gB d b c true) else ((uG d).bind λ g=>gB d b c g))
theorem Bc{x1:aR}{e9 f0 m1 b6:VL}{m2:List aF}{R:List aK}(H:Sep w (Fo) rs)(j1:rSl aB e9 x1.Nodes ∈ rs)(j2:rSl aC f0 x1.Turns ∈ rs)(c1:rSl aN m1 m2 ∈ rs)(b4:rSl tI b6 R ∈ rs)(c2:N5 Tryz.prog ∈ rs){r:Bool}(m:pC x1 m2 R=some r) :
    Cf 6 [.agg #[e9,f0],m1,b6] w λ v w'=>.bool r=v/\Sep w' (Fo) (rs):=by
 unfold pC at m
 refine ent func6 z ntmps6 z z λ a E=>sq<|bx E H z λ o9 w a H E=>pr 1 E z λ a E=>nx<|bd m λ u j8 m=>xk2 E z (cf_ 8) (Im H c2 j8) λ w H a E=>pr 1 E z λ a E=>nx<|ln 0 [e9,f0] E H U25 z dN λ a E=>pr 1 E z λ a E=>bd m λ p0 j9 m=>xc2 E z (cf_ 9) (Cz H j1 j2 c1 j9)<|?_
 rintro _ w (⟨rfl,rfl,H⟩ | ⟨b9,rfl,x,j3,j4,j5,y,A,B,rfl,H⟩) a E
 ·replace m:=Nk m
  refine pn 1 E z λ a E=>wS<|sp 1 E z λ a E=>sv2 E z (P4 E z z z (v:=.bool true) (by kernel_rfl)) λ a E=>pn 12 E z λ a E=>wp_cond_true (E.eval z)<|sq<|pn 2 E z λ a E=>wR<|aG<|o1 E z<|have H:=H.drop 0;?_
  cases m
  exact ⟨z,H.reads Y0⟩
 ·replace m:=Nl m
  refine pn 1 E z λ a E=>wS<|aJ (λ a w=>∃ c3 Q,Env 115 a [(2,b6),(7,.bool u),(8,pt x 0),(33,.bool c3)]/\Sep w (Blk x 87 [j3,j4,j5,nS,nS,nS,.map (some y),.map (some A),.map (some B)]::bX Tryz.prog 2 (kyI .i64) bC true y []::bX Tryz.prog 2 (kyI .i64) dC true A []::bX Tryz.prog 2 (kyI .i64) bC true B []::Fo) Q/\(∀ r,r ∈ rs->r ∈ Q)/\rSl aB j3 b9.1 ∈ Q/\rSl aC j4 b9.2.1 ∈ Q/\rSl aN j5 b9.2.2 ∈ Q/\gB R u b9 c3=some r) ?_ ?_
  ·refine wG<|pr 1 E z λ a E=>sv2 E z (P4 E z z z (v:=.bool false) (by kernel_rfl)) λ a E=>pr 1 E z λ a E=>bY E (ws E z z z z) z z (Aq (i:=4) (us:=[e9,f0]) E H z z z z U25 z dN) λ a E=>bd m λ m3 f1 m=>bK E (ws E z z z z) z z (Ap E z z ((cf_ 10) _)) (S6 H (t3 j1) (t3 j2) f1)<|?_
   rintro _ w ⟨rfl,H⟩ a E
   refine pr 2 E z λ a E=>cs m (λ C m=>?_) λ C m=>?_
   ·exact pk 7 E (kc 26 z C) z λ a E=>nt<|have H:=H.drop 4;⟨_,_,E.to z,H,(Y3 Y0),m0,mm1,mm2,m⟩
   ·refine pk 1 E (kc 26 z C) z λ a E=>bd m λ m4 f2 m=>gc 26 E C z (cf_ 17) (Gs H (t3 c1) f2)<|?_
    rintro _ w ⟨rfl,H⟩ a E
    refine pk 2 E (kc 26 z C) z λ a E=>cs m (λ D m=>?_) λ D m=>?_
    ·exact pk 3 E (kc 30 z D) z λ a E=>nt<|have H:=H.drop 4;⟨_,_,E.to z,H,(Y3 Y0),m0,mm1,mm2,m⟩
    ·refine pk 1 E (kc 30 z D) z λ a E=>bd m λ m5 f3 m=>gc 30 E D z (cf_ 18) (Gr H (t3 b4) f3)<|?_
     rintro _ w ⟨rfl,H⟩ a E
     exact pk 1 E (kc 30 z D) z λ a E=>nt<|have H:=H.drop 4;⟨_,_,E.to z,H,(Y3 Y0),m0,mm1,mm2,m⟩
  ·clear E H m
   rintro a w ⟨c3,Q,E,H,c4,k0,k1,k2,m⟩
   unfold gB at m
   refine wif E m z (λ m=>?_) λ m=>?_
   ·refine sq<|pn 2 E z λ a E=>wR<|aG<|o1 E z<|have H:=H.drs [0,0,0,0];?_
    cases m
    exact ⟨z,H.reads c4⟩
   ·refine wK<|aA<|wS<|sq<|pn 1 E z λ a E=>wB<|bG (λ b5 a w=>∃ c5 c6 c7 c8 c9 d0 F d1 d2 d3 d4 d5 d6 d7 d8 d9 j,Env 115 a [(2,b6),(7,.bool u),(8,pt x 0),(9,.int .i64 F)]/\Sep w (Blk x 87 [c5,c6,c7,c8,c9,d0,.map (some y),.map (some A),.map (some B)]::bX Tryz.prog 2 (kyI .i64) bC true y d7::bX Tryz.prog 2 (kyI .i64) dC true A d8::bX Tryz.prog 2 (kyI .i64) bC true B d9::Fo) j/\(∀ r,r ∈ rs->r ∈ j)/\rSl aB c5 d1 ∈ j/\rSl aC c6 d2 ∈ j/\rSl aN c7 d3 ∈ j/\rSl aY c8 d4 ∈ j/\rSl aP c9 d5 ∈ j/\rSl aI d0 d6 ∈ j/\cY R u b5 F d1 d2 d3 d4 d5 d6 d7 d8 d9=some r) (((R.length:Int) - 0:Int).toNat+1) ?_ ?_
    ·exact have H:=H.nilSl aY;have H:=H.nilSl aP;have H:=H.nilSl aI;X17 ⟨E.to z,H,(Y3 c4),(t3 k0),(t3 k1),(t3 k2),mm2,mm1,m0,m⟩
    ·clear E H m
     rintro b5 a w ⟨c5,c6,c7,c8,c9,d0,F,d1,d2,d3,d4,d5,d6,d7,d8,d9,j,E,H,o,k3,k4,k5,e0,k6,k7,m⟩
     cases b5 with
     | zero=>exact (bE m z).elim
     | succ b5=>
      unfold cY at m
      refine wS<|sp 2 E z λ a E=>lS E H (o _ b4) U54 z λ a E=>pn 1 E z λ a E=>wif E m z (λ m=>?_) λ m=>?_
      ·refine wK<|aA<|wS<|wB<|sp 1 E z λ a E=>bd m λ j6 k8 m=>xc2 E z (cf_ 20) (E9 H e0 k8)<|?_
       rintro _ w ⟨j7,rfl,H⟩ a E
       refine pr 1 E z λ a E=>xp 3 E z λ a E=>bd m λ p1 k9 m=>dB E H (wn z) z z z z z (o _ b4) U54 z7 k9 λ q61 a H E=>Ar E H (wn z) z z z z m0 U37 z z7 λ p2 a H E=>?_
       obtain ⟨p3,p4,p5,p6,rfl,h⟩:=Fw H;clear H;have H:=h
       refine have H:=H.frs [0,4,4,4,4] z;bd m λ b l0 m=>xc2 E z (cf_ 13) (pB H (t6 k3) (t6 k4) (t6 k5) (t6 e0) (t6 k6) (t6 k7) mm3 mm2 mm1 m0 (t6 (o _ c2)) l0)<|?_
       rintro _ w ⟨e1,e2,e3,e4,e5,e6,W,X,Y,Z,b0,b1,rfl,H⟩ a E
       refine al2 E H z lQ λ b2 w a H E=>ss 0 E H z bV (bA H m0 mm1 mm2 mm3 mm4 mm5) λ w H=>xp 1 E z λ a E=>have H:=H.frs [5,5,5,5,4,5] z;bd m λ S l1 m=>xc2 E z (cf_ 20) (E9 H (t3 mm6) l1)<|?_
       rintro _ w ⟨b3,rfl,H⟩ a E
       refine pn 1 E z λ a E=>wS<|aJ (λ a w=>∃ e7 g,Env 115 a [(2,b6),(7,.bool u),(8,pt x 0),(9,.int .i64 F),(10,j7),(11,pt b2 0),(12,b3),(71,.bool e7)]/\Sep w (Blk x 87 [W,X,Y,Z,b0,b1,.map (some y),.map (some A),.map (some B)]::Row 78 aY j7 j6::Blk b2 48 (aW b.1 e1 e2 e3 e4 e5 e6)::bX Tryz.prog 2 (kyI .i64) bC true y b.2.2.2.2.2.2.2.1::bX Tryz.prog 2 (kyI .i64) dC true A b.2.2.2.2.2.2.2.2.1::bX Tryz.prog 2 (kyI .i64) bC true B b.2.2.2.2.2.2.2.2.2::Fo) g/\(∀ r,r ∈ rs->r ∈ g)/\rSl aY b3 S ∈ g/\rSl aB W b.2.1 ∈ g/\rSl aC X b.2.2.1 ∈ g/\rSl aN Y b.2.2.2.1 ∈ g/\rSl aY Z b.2.2.2.2.1 ∈ g/\rSl aP b0 b.2.2.2.2.2.1 ∈ g/\rSl aI b1 b.2.2.2.2.2.2.1 ∈ g/\hJ (cY R u b5) S b R F j6 e7=some r) ?_ ?_
       ·refine wG<|pr 1 E z λ a E=>have H:=H.frs [6,6,6,6,6,5,6] z;bd m λ m6 f4 m=>xc2 E z (cf_ 15) (S8 H mm6 (t1 mm6) f4)<|?_
        rintro _ w ⟨m7,m8,rfl,H⟩ a E
        refine bd m λ m9 f5 m=>xk2 E z (cf_ 28) (Gk H m0 mm1 f5) λ w H a E=>pr 2 E z λ a E=>cs m (λ p m=>?_) λ p m=>?_
        ·exact pk 16 E (kc 55 z p) z λ a E=>nt<|have H:=H.thaw (i:=1) z;have H:=H.frs [4,4,4,4,5,5] z;⟨_,_,E.to z,H,(Y5 (Y8 (Y8 o))),m0,(t3 mm6),(t4 mm6),(t5 mm6),(t6 mm6),(t7 mm6),(t8 mm6),m⟩
        ·refine pk 1 E (kc 55 z p) z λ a E=>bd m λ n0 f6 m=>gc 55 E p z (cf_ 25) (A6 H (t4 mm6) f6)<|?_
         rintro _ w ⟨n1,rfl,H⟩ a E
         refine have H:=H.thaw (i:=0) z;bd m λ n2 f7 m=>gc 55 E p z (cf_ 29) (Gv H m0 f7)<|?_
         rintro _ w ⟨rfl,H⟩ a E
         refine pk 3 E (kc 55 z p) z λ a E=>cs m (λ G m=>?_) λ G m=>?_
         ·exact pk 10 E (kc 61 z G) z λ a E=>nt<|have H:=H.thaw (i:=1) z;have H:=H.frs [4,4,4,4,5,5] z;⟨_,_,E.to z,H,(Y6 (Y8 (Y8 o))),m0,(t4 mm6),(t5 mm6),(t6 mm6),(t7 mm6),(t8 mm6),(t1 (t8 mm6)),m⟩
         ·refine pk 1 E (kc 61 z G) z λ a E=>have H:=H.thaw (i:=1) z;bd m λ n3 f8 m=>gc 61 E G z (cf_ 30) (Gu H m0 f8)<|?_
          rintro _ w ⟨rfl,H⟩ a E
          refine pk 3 E (kc 61 z G) z λ a E=>cs m (λ q m=>?_) λ q m=>?_
          ·exact pk 5 E (kc 66 z q) z λ a E=>nt<|have H:=H.frs [4,4,4,4,5,5] z;⟨_,_,E.to z,H,(Y6 (Y8 (Y8 o))),m0,(t4 mm6),(t5 mm6),(t6 mm6),(t7 mm6),(t8 mm6),(t1 (t8 mm6)),m⟩
          ·refine pk 1 E (kc 66 z q) z λ a E=>bd m λ n4 f9 m=>gc 66 E q z (cf_ 32) (Ea H (t8 mm6) (t1 (t8 mm6)) f9)<|?_
           rintro _ w ⟨n5,n6,rfl,H⟩ a E
           refine bd m λ n7 g0 m=>gc 66 E q z (cf_ 31) (Gt H m0 mm1 g0)<|?_
           rintro _ w ⟨rfl,H⟩ a E
           exact pk 2 E (kc 66 z q) z λ a E=>nt<|have H:=H.frs [4,4,4,4,5,5] z;⟨_,_,E.to z,H,(Y8 (Y8 (Y8 o))),mm2,(t6 mm6),(t7 mm6),(t8 mm6),(t1 (t8 mm6)),(t2 (t8 mm6)),(t3 (t8 mm6)),m⟩
       ·clear E H m
        rintro a w ⟨e7,g,E,H,e8,l2,l3,l4,l5,l6,l7,l8,m⟩
        unfold hJ at m
        refine wif E m z (λ m=>?_) λ m=>?_
        ·refine sq<|pn 1 E z λ a E=>wR<|aG<|bD<|aG<|aG<|bD<|aG<|o1 E z<|have H:=H.drs [0,0,0,0,0,0];?_
         cases m
         exact ⟨z,H.reads e8⟩
        ·refine wK<|aA<|sq<|pn 1 E z λ a E=>wB<|bG (λ b7 a w=>∃ T U V e,Env 115 a [(2,b6),(7,.bool u),(8,pt x 0),(9,.int .i64 F),(10,T),(11,pt b2 0),(12,b3),(13,.int .i64 V)]/\Sep w (Blk x 87 [W,X,Y,Z,b0,b1,.map (some y),.map (some A),.map (some B)]::Blk b2 48 (aW b.1 e1 e2 e3 e4 e5 e6)::bX Tryz.prog 2 (kyI .i64) bC true y b.2.2.2.2.2.2.2.1::bX Tryz.prog 2 (kyI .i64) dC true A b.2.2.2.2.2.2.2.2.1::bX Tryz.prog 2 (kyI .i64) bC true B b.2.2.2.2.2.2.2.2.2::Fo) e/\(∀ r,r ∈ rs->r ∈ e)/\rSl aY T U ∈ e/\rSl aY b3 S ∈ e/\rSl aB W b.2.1 ∈ e/\rSl aC X b.2.2.1 ∈ e/\rSl aN Y b.2.2.2.1 ∈ e/\rSl aY Z b.2.2.2.2.1 ∈ e/\rSl aP b0 b.2.2.2.2.2.1 ∈ e/\rSl aI b1 b.2.2.2.2.2.2.1 ∈ e/\dT (cY R u b5) S b R F b7 U V=some r) (((S.length:Int) - 0:Int).toNat+1) ?_ ?_
         ·exact have H:=H.thaw (i:=1) z;X4 ⟨E.to z,H,(Y1 e8),m0,(t1 l2),(t1 l3),(t1 l4),(t1 l5),(t1 l6),(t1 l7),(t1 l8),m⟩
         ·clear E H m
          rintro b7 a w ⟨T,U,V,e,E,H,s,I,l,J,K,t,L,M,N,m⟩
          cases b7 with
          | zero=>exact (bE m z).elim
          | succ b7=>
           unfold dT at m
           refine wS<|sp 2 E z λ a E=>lS E H l U58 z λ a E=>pn 1 E z λ a E=>wif E m z (λ m=>?_) λ m=>?_
           ·refine wK<|aA<|wS<|wB<|sp 3 E z λ a E=>bd m λ l9 g1 m=>dB E H (wn z) z z z z z l U58 jZ g1 λ q122 a H E=>have H:=H.derive1 m0 (rAt kS (q122.add 0) l9.Dir) (λ ok h=>Di h);pr 1 E z λ a E=>sv2 E z (sK E H z z m0 U9 z) λ a E=>bd m λ n8 g2 m=>xk2 E z (cf_ 33) (Io H (t2 I) g2) λ w H a E=>pn 5 E z λ a E=>aJ (λ a w=>∃ b8 f,Env 115 a [(2,b6),(7,.bool u),(8,pt x 0),(9,.int .i64 F),(10,T),(11,pt b2 0),(12,b3),(13,.int .i64 V),(113,.bool b8)]/\Sep w (Blk x 87 [W,X,Y,Z,b0,b1,.map (some y),.map (some A),.map (some B)]::Blk b2 48 (aW b.1 e1 e2 e3 e4 e5 e6)::bX Tryz.prog 2 (kyI .i64) bC true y b.2.2.2.2.2.2.2.1::bX Tryz.prog 2 (kyI .i64) dC true A b.2.2.2.2.2.2.2.2.1::bX Tryz.prog 2 (kyI .i64) bC true B b.2.2.2.2.2.2.2.2.2::Fo) f/\(∀ r,r ∈ rs->r ∈ f)/\rSl aY T U ∈ f/\rSl aY b3 S ∈ f/\rSl aB W b.2.1 ∈ f/\rSl aC X b.2.2.1 ∈ f/\rSl aN Y b.2.2.2.1 ∈ f/\rSl aY Z b.2.2.2.2.1 ∈ f/\rSl aP b0 b.2.2.2.2.2.1 ∈ f/\rSl aI b1 b.2.2.2.2.2.2.1 ∈ f/\hG (dT (cY R u b5) S b R F b7) U V b8=some r) ?_ ?_
            ·obtain ⟨n9,H⟩:=H.raw (t2 l)
             obtain ⟨o0,H⟩:=H.raw (t3 (s _ b4))
             refine dw [(0,0),(1,0),(2,0),(3,0),(5,0),(6,0),(7,0),(8,0),(9,0),(4,1),(10,1),(11,0),(12,0),(13,0),(14,0),(15,0),(16,0),(17,0),(18,0),(19,0),(20,0),(21,0),(22,0),(23,0),(24,0),(25,0)] [1] [1,0] H (by kernel_rfl) (λ _ _ _ h=>False.elim h.2) λ w W0 hI H=>fn 3 E z λ a E=>cs m (λ c m=>?_) λ c m=>?_
             ·refine fk 3 E (kc 90 z c) z λ a E=>bd m λ o2 g3 m=>?_
              obtain ⟨q147,o3,g4,g5⟩:=fW (P:=Tryz.prog) (k:=.i64) hI (fV (.head _)) U58 jZ g3
              refine cU E z (ws' (d:=90) E z z z z c) z z (λ w hW=>iD E z z z (g4 w)) λ a E=>?_
              have g6:=gY g5 (λ _ _ _ h=>xT h)
              refine fk 1 E (kc 90 z c) z λ a E=>fa E z (ws' (d:=90) E z z z z c) z z z z g6 U9 z λ a E=>bQ z<|bd m λ o4 g7 m=>gc 90 E c z (cf_ 25) (A6 H (t4 t) g7)<|?_
              rintro _ w ⟨o5,rfl,H⟩ a E
              refine nt<|⟨⟨_,_,H,(aU mm2 (bH)),(aD mm1 (aD m0 (bO)))⟩,bQ z<|have H:=H.thaw (i:=0) z;bd m λ o6 g8 m=>gc 90 E c z (cf_ 27) (Gc H m0 g8)<|?_⟩
              rintro _ w ⟨rfl,H⟩ a E
              refine nt<|⟨⟨_,_,H,(aU mm1 (bH)),(aD mm2 (aD mm1 (bO)))⟩,fk 2 E (kc 90 z c) z λ a E=>cs m (λ n m=>?_) λ n m=>?_⟩
              ·refine fk 13 E (kc' (kc 100 z n) 90 z c) z λ a E=>bB<|?_
               clear hI
               exact aA<|⟨_,_,E.to z,H,(Y5 s),(t5 I),(t5 l),(t5 J),(t5 K),(t5 t),(t5 L),(t5 M),(t5 N),m⟩
              ·refine fk 2 E (kc 100 z n) z λ a E=>bd m λ o7 g9 m=>?_
               obtain ⟨q160,o8,i0,i1⟩:=fW (P:=Tryz.prog) (k:=.i64) hI (fV (.tail _ (.head _))) U54 z7 g9
               refine cU E z (ws' (d:=100) E z z z z n) z z (λ w hW=>iD E z z z (i0 w)) λ a E=>?_
               have i2:=gY i1 (λ _ _ _ h=>Kh h)
               refine fk 1 E (kc 100 z n) z λ a E=>fa E z (ws' (d:=100) E z z z z n) z z z z i2 U3 z λ a E=>fk 3 E (kc' (kc 100 z n) 90 z c) z λ a E=>cs m (λ O m=>?_) λ O m=>?_
               ·refine fk 5 E (kc' (kc 108 z O) 90 z c) z λ a E=>bB<|?_
                clear hI
                exact aA<|⟨_,_,E.to z,H,(Y5 s),(t5 I),(t5 l),(t5 J),(t5 K),(t5 t),(t5 L),(t5 M),(t5 N),m⟩
               ·refine fk 1 E (kc 108 z O) z λ a E=>fb E z (ws' (d:=108) E z z z z O) z z z z m0 z U41 z λ a E=>fk 3 E (kc' (kc 108 z O) 90 z c) z λ a E=>bB<|?_
                clear hI
                exact aA<|⟨_,_,E.to z,H,(Y5 s),(t5 I),(t5 l),(t5 J),(t5 K),(t5 t),(t5 L),(t5 M),(t5 N),m⟩
             ·refine fk 6 E (kc 90 z c) z λ a E=>bQ z<|pk 1 E (kc 90 z c) z λ a E=>nt<|⟨⟨_,_,H,(aU mm1 (bH)),(aD mm1 (aD m0 (bO)))⟩,bQ z<|pk 1 E (kc 90 z c) z λ a E=>nt<|⟨⟨_,_,H,(aU mm1 (bH)),(aD mm1 (aD m0 (bO)))⟩,fk 15 E (kc 90 z c) z λ a E=>bB<|?_⟩⟩
              clear hI
              exact aA<|⟨_,_,E.to z,H,(Y4 s),(t4 I),(t4 l),(t4 J),(t4 K),(t4 t),(t4 L),(t4 M),(t4 N),m⟩
            ·clear E H m
             rintro a w ⟨b8,f,E,H,c0,i3,i4,i5,i6,i7,i8,i9,j0,m⟩
             unfold hG at m
             refine wif E m z (λ m=>?_) λ m=>?_
             ·refine sq<|pn 1 E z λ a E=>wR<|bD<|aG<|aG<|bD<|bD<|aG<|aG<|bD<|aG<|o1 E z<|have H:=H.drs [0,0,0,0,0];?_
              cases m
              exact ⟨z,H.reads c0⟩
             ·exact wK<|bP<|aA<|wG<|pn 3 E z λ a E=>⟨b7,nL b7,X4 ⟨E.to z,H,c0,i3,i4,i5,i6,i7,i8,i9,j0,m⟩⟩
           ·exact wX<|aT<|aT<|cL<|bP<|aA<|wG<|pn 3 E z λ a E=>have H:=H.drop 1;⟨b5,nL b5,X17 ⟨E.to z,H,s,J,K,t,L,M,N,m⟩⟩
      ·refine wX<|aT<|aT<|cL<|aA<|sq<|pn 2 E z λ a E=>wR<|o1 E z<|have H:=H.drs [0,0,0,0];?_
       cases m
       exact ⟨z,H.reads o⟩

end Go.Cb
