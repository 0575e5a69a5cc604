/- Functions of the program, walked: each comes to its plain function. -/
import Derived.Test.YtppeaaolgckfcaaGreatDoorTsm
import Derived.Test.YtppeaaolgckfcaaGreatDoorExsm
import Derived.Test.YtppeaaolgckfcaaGreatDoorN4sm
set_option linter.unusedVariables false
set_option linter.unusedSimpArgs false
set_option maxRecDepth 20000
set_option maxHeartbeats 1000000
namespace Go.Cb
open Go.Proofs Go.RowKit Tryz
variable {w:WD} {Fo:List Ob} {rs:List Rp}

def gZ(rec_1:Int->Option Bool)(b:Int)(c:Bool):Option Bool:=
  if c=true then (some (false)) else (rec_1 (IntKind.i64.wrap (b+1)))
def fH(b:BY):Nat->Int->Option Bool
  | 0,_=>none
  | e+1,c=>
    if (decide (c < (b.size:Int)))=true then ((idx b.data.toList c).bind λd=>if ((d.toNat:Int) != 45)=true then (if (decide ((d.toNat:Int) < 97))=true then (if (decide ((d.toNat:Int) < 48))=true then (gZ (fH b e) c true) else (gZ (fH b e) c (decide ((d.toNat:Int) > 57)))) else (if (decide ((d.toNat:Int) > 122))=true then (if (decide ((d.toNat:Int) < 48))=true then (gZ (fH b e) c true) else (gZ (fH b e) c (decide ((d.toNat:Int) > 57)))) else (gZ (fH b e) c false))) else (gZ (fH b e) c false)) else (if (decide ((b.size:Int) ≥ 1))=true then (some (decide ((b.size:Int) <= 12))) else (some (false)))
def xE(b:BY):Option Bool:=
  fH b (((b.size:Int) - 0:Int).toNat+1) 0
theorem Ls{e:BY}(H:Sep w (Fo) rs){r:Bool}(m:xE e=some r) :
    Cf 229 [.string e] w λv w'=>.bool r=v/\Sep w' (Fo) (rs):=by
 refine ent func229 z ntmps229 z z λa E=>sq<|pn 1 E z λa E=>wS<|sq<|pn 1 E z λa E=>wB<|bK (λf a w=>∃ l,Jn 40 a w [(0,.string e),(3,i_ l)] (Fo) rs (fH e f l=some r)) (((e.size:Int) - 0:Int).toNat+1) (⟨_,_,E.to z,H,Y0,m⟩) ?_;clear E H m;rintro f a w ⟨l,q,E,H,b,m⟩;cases f with
 | zero=>exact (bH m z).elim
 | succ f=>
  unfold fH at m;refine wS<|sq<|pn 4 E z λa E=>wif E m z (λm=>?_) λm=>wX<|aW<|aW<|cR<|aA<|sp 4 E z λa E=>cs m (λk m=>pk 5 E (kc 35 z k) z λa E=>nt<|wR<|o1 E z<|d_ m z (H.reads b)) λk m=>pk 5 E (kc 35 z k) z λa E=>nt<|wR<|o1 E z<|d_ m z (H.reads b);refine wK<|aA<|wS<|wB<|sp 2 E z λa E=>bd m λt p m=>sv2 E z (Kv E z z z U9 p) λa E=>pr 1 E z λa E=>nt<|aN (λa w=>∃ o,Jn 40 a w [(0,.string e),(3,i_ l),(31,.bool o)] (Fo) rs (gZ (fH e f) l o=some r)) (wG<|pr 3 E z λa E=>cs m (λc m=>pk 3 E (kc 16 z c) z λa E=>cs m (λg m=>pk 8 E (kc' (kc 19 z g) 16 z c) z λa E=>cs m (λi m=>pk 4 E (kc 27 z i) z λa E=>nt<|⟨_,_,E.to z,H,b,m⟩) λi m=>pk 4 E (kc 27 z i) z λa E=>nt<|⟨_,_,E.to z,H,b,m⟩) λg m=>pk 5 E (kc' (kc 19 z g) 16 z c) z λa E=>cs m (λd m=>pk 3 E (kc 24 z d) z λa E=>cs m (λj m=>pk 4 E (kc' (kc 27 z j) 24 z d) z λa E=>nt<|⟨_,_,E.to z,H,b,m⟩) λj m=>pk 4 E (kc' (kc 27 z j) 24 z d) z λa E=>nt<|⟨_,_,E.to z,H,b,m⟩) λd m=>pk 7 E (kc 24 z d) z λa E=>nt<|⟨_,_,E.to z,H,b,m⟩) λc m=>pk 15 E (kc 16 z c) z λa E=>nt<|⟨_,_,E.to z,H,b,m⟩) ?_;clear E H m;rintro a w ⟨o,s,E,H,n,m⟩;exact wif E m z (λm=>sq<|pn 1 E z λa E=>wR<|bM<|aJ<|aJ<|bM<|aJ<|o1 E z<|d_ m z (H.reads n)) λm=>wK<|bR<|aA<|wG<|pn 3 E z λa E=>⟨f,nL f,_,_,E.to z,H,n,m⟩

def sY(b:BY)(c:Int):Option Int:=
  some (ixB b c)
theorem Z3{b:BY}{c:Int}(H:Sep w (Fo) rs){r:Int}(m:sY b c=some r) :
    Cf 234 [.string b,.int .u8 c] w λv w'=>.int .i64 r=v/\Sep w' (Fo) (rs):=ent func234 z ntmps234 z z λa E=>sp 1 E z λa E=>xp 2 E z λa E=>sv2 E z (Nl E z z (QL _ _ _)) λa E=>pn 1 E z λa E=>wR<|o1 E z<|d_ m z (H.reads Y0)

def mE(b:BY)(c:Int):Option Int:=
  (sY b c).bind λd=>some (d)
theorem M3{b:BY}{c:Int}(H:Sep w (Fo) rs){r:Int}(m:mE b c=some r) :
    Cf 172 [.string b,.int .u8 c] w λv w'=>.int .i64 r=v/\Sep w' (Fo) (rs):=ent func172 z ntmps172 z z λa E=>sp 1 E z λa E=>xp 2 E z λa E=>bd m λe d m=>xk2 E z (cf_ 234) (Z3 H d) λw H a E=>pn 1 E z λa E=>wR<|o1 E z<|d_ m z (H.reads Y0)

def mY(b:Bool):Option Bool:=
  if b=true then (some (true)) else (some (false))
def mZ(x1:Int)(b:Bool):Option Bool:=
  if b=true then (some (true)) else (if (decide (57343 < x1))=true then (mY (decide (x1 <= 1114111))) else (mY false))
def pQ(x1:Int):Option Bool:=
  if (decide (0 <= x1))=true then (mZ x1 (decide (x1 < 55296))) else (mZ x1 false)
theorem Ej{x1:Int}(H:Sep w (Fo) rs){r:Bool}(m:pQ x1=some r) :
    Cf 318 [.int .i32 x1] w λv w'=>.bool r=v/\Sep w' (Fo) (rs):=by
 refine ent func318 z ntmps318 z z λa E=>sq<|pn 1 E z λa E=>wS<|wB<|aN (λa w=>∃ f,Jn 17 a w [(0,.int .i32 x1),(3,.bool f)] (Fo) rs (mZ x1 f=some r)) (wG<|pr 3 E z λa E=>cs m (λb m=>pk 4 E (kc 6 z b) z λa E=>nt<|⟨_,_,E.to z,H,Y0,m⟩) λb m=>pk 4 E (kc 6 z b) z λa E=>nt<|⟨_,_,E.to z,H,Y0,m⟩) ?_;clear E H m;rintro a w ⟨f,i,E,H,c,m⟩;refine wif E m z (λm=>sq<|pn 1 E z λa E=>wR<|bM<|aJ<|o1 E z<|d_ m z (H.reads c)) λm=>?_;refine aN (λa w=>∃ g,Jn 17 a w [(10,.bool g)] (Fo) rs (mY g=some r)) (wG<|pr 3 E z λa E=>cs m (λd m=>pk 4 E (kc 13 z d) z λa E=>nt<|⟨_,_,E.to z,H,c,m⟩) λd m=>pk 4 E (kc 13 z d) z λa E=>nt<|⟨_,_,E.to z,H,c,m⟩) ?_;clear E H m;rintro a w ⟨g,j,E,H,e,m⟩;exact wif E m z (λm=>sq<|pn 1 E z λa E=>wR<|bM<|aJ<|o1 E z<|d_ m z (H.reads e)) λm=>wK<|bR<|aA<|sq<|pn 1 E z λa E=>wR<|o1 E z<|d_ m z (H.reads e)

def wO(c:BY):Nat->(Nat)->Option Int
  | 0,_=>none
  | d+1,b=>
    if decide (b < c.size)=true then (if (((Utf8.decode c b).1:Int) == 65533)=true then (some ((b:Int))) else (wO c d (b+(Utf8.decode c b).2))) else (some ((-1)))
def wP(b:Int)(c:BY):Nat->Option Int
  | 0=>none
  | j+1=>
    if (decide ((IntKind.i64.wrap (((Utf8.encode b).size:Int) - 1)) < (c.size:Int)))=true then ((idx c.data.toList (IntKind.i64.wrap (((Utf8.encode b).size:Int) - 1))).bind λd=>(idx (Utf8.encode b).data.toList (IntKind.i64.wrap (((Utf8.encode b).size:Int) - 1))).bind λe=>if ((d.toNat:Int) != (e.toNat:Int))=true then ((ck (0 <= (IntKind.i64.wrap ((IntKind.i64.wrap (((Utf8.encode b).size:Int) - 1))+1))/\(IntKind.i64.wrap ((IntKind.i64.wrap (((Utf8.encode b).size:Int) - 1))+1)) <= c.size)).bind λi=>(idx (Utf8.encode b).data.toList (IntKind.i64.wrap (((Utf8.encode b).size:Int) - 1))).bind λf=>(mE (c.extract (IntKind.i64.wrap ((IntKind.i64.wrap (((Utf8.encode b).size:Int) - 1))+1)).toNat c.size) (f.toNat:Int)).bind λg=>if (decide (g < 0))=true then (some ((-1))) else none) else none) else (some ((-1)))
def sI(b:BY)(c:Int)(e:Bool):Option Int:=
  if e=true then ((mE b (IntKind.u8.wrap c)).bind λf=>some (f)) else (if (c == 65533)=true then (wO b (b.size+2) 0) else ((pQ c).bind λd=>if (!d)=true then (some ((-1))) else (wP c b (((b.size:Int) - (IntKind.i64.wrap (((Utf8.encode c).size:Int) - 1)):Int).toNat+1))))
def vL(c:BY)(b:Int):Option Int:=
  if (decide (0 <= b))=true then (sI c b (decide (b < 128))) else (sI c b false)
theorem Kg{b:BY}{c:Int}(H:Sep w (Fo) rs){r:Int}(m:vL b c=some r) :
    Cf 283 [.string b,.int .i32 c] w λv w'=>.int .i64 r=v/\Sep w' (Fo) (rs):=by
 refine ent func283 z ntmps283 z z λa E=>sq<|pn 1 E z λa E=>wB<|aN (λa w=>∃ n,Jn 187 a w [(0,.string b),(1,.int .i32 c),(160,.bool n)] (Fo) rs (sI b c n=some r)) (wG<|pr 3 E z λa E=>cs m (λd m=>pk 4 E (kc 163 z d) z λa E=>nt<|⟨_,_,E.to z,H,Y0,m⟩) λd m=>pk 4 E (kc 163 z d) z λa E=>nt<|⟨_,_,E.to z,H,Y0,m⟩) ?_;clear E H m;rintro a w ⟨n,D,E,H,g,m⟩;refine wif E m z (λm=>sp 3 E z λa E=>bd m λL y m=>xk2 E z (cf_ 172) (M3 H y) λw H a E=>pn 1 E z λa E=>wR<|bM<|o1 E z<|d_ m z (H.reads g)) λm=>?_;refine sq<|pn 3 E z λa E=>wif E m z (λm=>?_) λm=>?_
 ·refine wS<|sp 1 E z λa E=>Vc E H (wn z) z z z z U9 λA w a H E=>nt<|wB<|bK (λj a w=>∃ o,Jn 187 a w [(175,pt A 0)] (Fz A (.stringIter b o)::Fo) rs (wO b j o=some r)) (b.size+2) (⟨_,_,E.to z,H,g,m⟩) ?_;clear E H m;rintro j a w ⟨o,B,E,H,e,m⟩;cases j with
  | zero=>exact (bH m z).elim
  | succ j=>
   unfold wO at m;exact sq<|cs m (λf m=>Vd (i:=0) E H (wn z) z z z z z f λw a H E=>pn 1 E z λa E=>wS<|wp_cond_true (E.eval z)<|wK<|aA<|wB<|sq<|pr 4 E z λa E=>nx<|pn 2 E z λa E=>wif E m z (λm=>sq<|pn 2 E z λa E=>wR<|bM<|aJ<|bM<|aJ<|bM<|o1 E z<|have H:=H.drop 0;d_ m z (H.reads e)) λm=>wK<|bR<|aA<|⟨j,nL j,_,_,E.to z,H,e,m⟩) λf m=>Ve (i:=0) E H (wn z) z z z z z f λa E=>pn 1 E z λa E=>wS<|wp_cond_false (E.eval z)<|wX<|aW<|aW<|cR<|aA<|sq<|pn 1 E z λa E=>wR<|bM<|o1 E z<|have H:=H.drop 0;d_ m z (H.reads e)
 ·refine sp 1 E z λa E=>bd m λF p m=>xk2 E z (cf_ 318) (Ej H p) λw H a E=>pn 2 E z λa E=>wif E m z (λm=>sq<|pn 1 E z λa E=>wR<|bM<|o1 E z<|d_ m z (H.reads g)) λm=>?_;refine wp_scope_straight<|sp 1 E z λa E=>sv2 E z (Ha E z z (v:=.string (Utf8.encode c)) (by kernel_rfl)) λa E=>pr 1 E z λa E=>xp 4 E z λa E=>xp 2 E z λa E=>nx<|pn 1 E z λa E=>wS<|wB<|bK (λl a w=>Jn 187 a w [(0,.string b),(7,.string (Utf8.encode c)),(8,i_ (IntKind.i64.wrap (((Utf8.encode c).size:Int) - 1))),(9,i_ (IntKind.i64.wrap (((Utf8.encode c).size:Int) - 1))),(10,i_ 0)] (Fo) rs (wP c b l=some r)) (((b.size:Int) - (IntKind.i64.wrap (((Utf8.encode c).size:Int) - 1)):Int).toNat+1) (⟨_,E.to z,H,g,m⟩) ?_;clear E H m;rintro l a w ⟨C,E,H,k,m⟩;cases l with
  | zero=>exact (bH m z).elim
  | succ l=>
   refine wS<|sq<|pn 4 E z λa E=>wif E m z (λm=>?_) λm=>wX<|aW<|aW<|cR<|aA<|wS<|sq<|pn 1 E z λa E=>wR<|aJ<|IB<|bM<|o1 E z<|d_ m z (H.reads k);refine wK<|aA<|wB<|wp_scope_straight<|wS<|wS<|dz [0,0,0,0,0,0,0] [] H λw W0 hI H=>fn 2 E z λa E=>bd m λG q m=>fv E z (λw hW=>(Kv E z z z U9 q)) λa E=>fn 2 E z λa E=>bd m λI s m=>fv E z (λw hW=>(Kv E z z z U9 s)) λa E=>fn 1 E z λa E=>bF<|?_;clear hI;refine aA<|wif E m z (λm=>?_) λm=>(bH m z).elim;refine wS<|dz [0,0,0,0,0,0,0,1,2] [] H λw W0 hI H=>fn 3 E z λa E=>bk m λt m=>fv E z (λw hW=>(Hb E z z z U9 t)) λa E=>fn 2 E z λa E=>bd m λJ u m=>fv E z (λw hW=>(Kv E z z z U9 u)) λa E=>bO z<|bd m λK x m=>xk2 E z (cf_ 172) (M3 H x) λw H a E=>nt<|⟨⟨_,_,H,(aM),(aP)⟩,bJ z<|pn 1 E z λa E=>bF<|?_⟩
   clear hI;exact aA<|wS<|sq<|pn 2 E z λa E=>wif E m z (λm=>sq<|pn 1 E z λa E=>wR<|aJ<|aJ<|IB<|bM<|aJ<|bM<|aJ<|IB<|bM<|o1 E z<|d_ m z (H.reads k)) λm=>(bH m z).elim

def sJ(b:BY)(c:Int):Option Bool:=
  (vL b c).bind λd=>some (decide (d ≥ 0))
theorem Gf{b:BY}{c:Int}(H:Sep w (Fo) rs){r:Bool}(m:sJ b c=some r) :
    Cf 237 [.string b,.int .i32 c] w λv w'=>.bool r=v/\Sep w' (Fo) (rs):=ent func237 z ntmps237 z z λa E=>sp 1 E z λa E=>xp 2 E z λa E=>bd m λe d m=>xk2 E z (cf_ 283) (Kg H d) λw H a E=>pn 2 E z λa E=>wR<|o1 E z<|d_ m z (H.reads Y0)

def K3(x1:Int):Option Bool:=
  (sJ (ByteArray.mk #[97,98,99,100,101,102,103,104,105,106,107,108,109,110,111,112,113,114,115,116,117,118,119,120,121,122,48,49,50,51,52,53,54,55,56,57,45]) x1).bind λb=>some (!b)
theorem Wh{x1:Int}(H:Sep w (Fo) rs){r:Bool}(m:K3 x1=some r) :
    Cf 236 [.int .i32 x1] w λv w'=>.bool r=v/\Sep w' (Fo) (rs):=ent func236 z ntmps236 z z λa E=>sp 1 E z λa E=>xp 1 E z λa E=>bd m λc b m=>xk2 E z (cf_ 237) (Gf H b) λw H a E=>pn 2 E z λa E=>wR<|o1 E z<|d_ m z (H.reads Y0)

def oC(b:BY)(c:Bool):Nat->(Nat)->Option Int
  | 0,_=>none
  | d+1,x4=>
    if decide (x4 < b.size)=true then ((K3 ((Utf8.decode b x4).1:Int)).bind λe=>if (e == c)=true then (some ((x4:Int))) else (oC b c d (x4+(Utf8.decode b x4).2))) else (some ((-1)))
def w5(b:BY)(c:Bool):Option Int:=
  oC b c (b.size+2) 0
theorem Kh{c:BY}{d:Bool}(H:Sep w (Fo) rs){r:Int}(m:w5 c d=some r) :
    Cf 317 [.string c,.func (.func 236) #[] #[],.bool d] w λv w'=>.int .i64 r=v/\Sep w' (Fo) (rs):=by
 refine ent func317 z ntmps317 z z λa E=>sq<|pn 1 E z λa E=>wS<|sp 1 E z λa E=>Vc E H (wn z) z z z z U9 λg w a H E=>nt<|wB<|bK (λb a w=>∃ x4,Jn 21 a w [(1,.func (.func 236) #[] #[]),(2,.bool d),(10,pt g 0)] (Fz g (.stringIter c x4)::Fo) rs (oC c d b x4=some r)) (c.size+2) (⟨_,_,E.to z,H,Y0,m⟩) ?_;clear E H m;rintro b a w ⟨x4,l,E,H,e,m⟩;cases b with
 | zero=>exact (bH m z).elim
 | succ b=>
  unfold oC at m;exact sq<|cs m (λf m=>Vd (i:=0) E H (wn z) z z z z z f λw a H E=>pn 1 E z λa E=>wS<|wp_cond_true (E.eval z)<|wK<|aA<|wB<|sq<|pr 4 E z λa E=>xp 2 E z λa E=>bd m λk j m=>bP E (wn z) z z (bT E z z z ((cf_ 236) _)) (Wh H j)<|op0 λw H a E=>pr 1 E z λa E=>sv2 E z (yR E z z z (v:=.bool (k == d)) (by kernel_rfl)) λa E=>nt<|wif E m z (λm=>sq<|pn 2 E z λa E=>wR<|bM<|aJ<|bM<|aJ<|o1 E z<|have H:=H.drop 0;d_ m z (H.reads e)) λm=>wK<|bR<|aA<|⟨b,nL b,_,_,E.to z,H,e,m⟩) λf m=>Ve (i:=0) E H (wn z) z z z z z f λa E=>pn 1 E z λa E=>wS<|wp_cond_false (E.eval z)<|wX<|aW<|aW<|cR<|aA<|sq<|pn 1 E z λa E=>wR<|o1 E z<|have H:=H.drop 0;d_ m z (H.reads e)

def w6(b:BY):Option Int:=
  (w5 b true).bind λc=>some (c)
theorem Ki{b:BY}(H:Sep w (Fo) rs){r:Int}(m:w6 b=some r) :
    Cf 282 [.string b,.func (.func 236) #[] #[]] w λv w'=>.int .i64 r=v/\Sep w' (Fo) (rs):=ent func282 z ntmps282 z z λa E=>sp 1 E z λa E=>xp 2 E z λa E=>bd m λd c m=>xk2 E z (cf_ 317) (Kh H c) λw H a E=>pn 1 E z λa E=>wR<|o1 E z<|d_ m z (H.reads Y0)

def wQ(b:BY):Option Bool:=
  (w6 b).bind λc=>some (decide (c ≥ 0))
theorem Gg{b:BY}(H:Sep w (Fo) rs){r:Bool}(m:wQ b=some r) :
    Cf 235 [.string b,.func (.func 236) #[] #[]] w λv w'=>.bool r=v/\Sep w' (Fo) (rs):=ent func235 z ntmps235 z z λa E=>sp 1 E z λa E=>xp 2 E z λa E=>bd m λd c m=>xk2 E z (cf_ 282) (Ki H c) λw H a E=>pn 2 E z λa E=>wR<|o1 E z<|d_ m z (H.reads Y0)

def D5(b:BY):Option Bool:=
  (wQ b).bind λc=>if (!(sEq b (ByteArray.mk #[])))=true then (if (decide ((b.size:Int) <= 12))=true then (some (!c)) else (some (false))) else (some (false))
theorem Gh{d:BY}(H:Sep w (Fo) rs){r:Bool}(m:D5 d=some r) :
    Cf 173 [.string d] w λv w'=>.bool r=v/\Sep w' (Fo) (rs):=ent func173 z ntmps173 z z λa E=>sp 1 E z λa E=>xp 1 E z λa E=>bd m λf e m=>xk2 E z (cf_ 235) (Gg H e) λw H a E=>pr 1 E z λa E=>nx<|pr 3 E z λa E=>cs m (λb m=>pk 5 E (kc 8 z b) z λa E=>cs m (λc m=>pk 4 E (kc 13 z c) z λa E=>nt<|wR<|o1 E z<|d_ m z (H.reads Y0)) λc m=>pk 4 E (kc 13 z c) z λa E=>nt<|wR<|o1 E z<|d_ m z (H.reads Y0)) λb m=>pk 9 E (kc 8 z b) z λa E=>nt<|wR<|o1 E z<|d_ m z (H.reads Y0)

def oD(rec_1:eC->Int->Int->Option O1)(d:Int)(b:eC)(c:Int):Option O1:=
  rec_1 b c (IntKind.i64.wrap (d+1))
def sK(rec_1:eC->Int->Int->Option O1)(b:Int)(c:Int)(d:BY)(e:eC)(f:Bool):Option O1:=
  if f=true then (some ([],false)) else ((ck (0 <= c/\c <= b/\b <= d.size)).bind λg=>(ck (e.length+([d.extract c.toNat b.toNat]:List BY).length <= LIM)).bind λi=>oD rec_1 b (e ++ ([d.extract c.toNat b.toNat]:List BY)) (IntKind.i64.wrap (b+1)))
def oE(rec_1:eC->Int->Int->Option O1)(b:Int)(c:Int)(d:BY)(e:eC):Option O1:=
  (ck (0 <= c/\c <= b/\b <= d.size)).bind λg=>(xE (d.extract c.toNat b.toNat)).bind λf=>if (!f)=true then (sK rec_1 b c d e true) else (sK rec_1 b c d e (decide ((e.length:Int) ≥ 6)))
def eJ(b:BY):Nat->eC->Int->Int->Option O1
  | 0,_,_,_=>none
  | e+1,d,f,c=>
    if (decide (c <= (b.size:Int)))=true then (if (decide (c < (b.size:Int)))=true then ((idx b.data.toList c).bind λg=>if ((g.toNat:Int) != 47)=true then (oD (eJ b e) c d f) else (oE (eJ b e) c f b d)) else (oE (eJ b e) c f b d)) else (some (d,true))
def sL(b:BY)(c:Bool):Option O1:=
  if c=true then (some ([],false)) else (eJ b (((b.size:Int) - 1:Int).toNat+2) [] 1 1)
def mF(b:BY):Option O1:=
  if (sEq b (ByteArray.mk #[47]))=true then (some ([],true)) else (if (sEq b (ByteArray.mk #[]))=true then (sL b true) else ((idx b.data.toList 0).bind λc=>sL b ((c.toNat:Int) != 47)))
theorem w7{b:BY}(H:Sep w (Fo) rs){r:eC×Bool}(m:mF b=some r) :
    Cf 163 [.string b] w λv w'=>∃ M,.tuple #[M,.bool r.2]=v/\Sep w' (Row 9 kS M r.1::Fo) (rs):=by
 refine ent func163 z ntmps163 z z λa E=>sq<|pn 2 E z λa E=>wS<|sq<|pn 2 E z λa E=>wif E m z (λm=>?_) λm=>?_
 ·refine sq<|pn 2 E z λa E=>wR<|aJ<|iW E z z z<|have H:=H.nilRow 9 kS;?_;cases m;exact ⟨_,z,H.reads Y0⟩
 ·refine wK<|aA<|wS<|aN (λa w=>∃ C,Jn 53 a w [(0,.string b),(15,.bool C)] (Fo) rs (sL b C=some r)) (wG<|pr 3 E z λa E=>cs m (λf m=>pk 4 E (kc 11 z f) z λa E=>nt<|⟨_,_,E.to z,H,Y0,m⟩) λf m=>pk 1 E (kc 11 z f) z λa E=>bd m λQ D m=>gv 11 E f z (Kv E z z z U9 D) λa E=>pk 2 E (kc 11 z f) z λa E=>nt<|⟨_,_,E.to z,H,Y0,m⟩) ?_;clear E H m;rintro a w ⟨C,R,E,H,B,m⟩;refine wif E m z (λm=>?_) λm=>?_
  ·refine sq<|pn 2 E z λa E=>wR<|aJ<|iW E z z z<|have H:=H.nilRow 9 kS;?_;cases m;exact ⟨_,z,H.reads B⟩
  ·refine wK<|aA<|sp 1 E z λa E=>nx<|pn 1 E z λa E=>wS<|sq<|pn 1 E z λa E=>wB<|bK (λl a w=>∃ o p g c,Jn 53 a w [(0,.string b),(4,o),(5,i_ g),(6,i_ c)] (Row 9 kS o p::Fo) rs (eJ b l p g c=some r)) (((b.size:Int) - 1:Int).toNat+2) (have H:=H.nilRow 9 kS;X5 ⟨E.to z,H,B,m⟩) ?_;clear E H m;rintro l a w ⟨o,p,g,c,S,E,H,n,m⟩;cases l with
   | zero=>exact (bH m z).elim
   | succ l=>
    unfold eJ at m;refine wS<|sq<|pn 4 E z λa E=>wif E m z (λm=>?_) λm=>?_
    ·refine wK<|aA<|aN (λa w=>∃ q s t,Jn 53 a w [(0,.string b),(4,q),(5,i_ t),(6,i_ c)] (Row 9 kS q s::Fo) rs (oD (eJ b l) c s t=some r)) ?_ ?_
     ·refine wB<|aN (λa w=>Jn 53 a w [(0,.string b),(4,o),(5,i_ g),(6,i_ c)] (Row 9 kS o p::Fo) rs (oE (eJ b l) c g b p=some r)) (sp 5 E z λa E=>cs m (λj m=>pk 2 E (kc 26 z j) z λa E=>bd m λT F m=>gv 26 E j z (Kv E z z z U9 F) λa E=>pk 2 E (kc 26 z j) z λa E=>nt<|wif E m z (λm=>wX<|aW<|cR<|aA<|X4 ⟨E.to z,H,n,m⟩) λm=>wK<|aA<|⟨_,E.to z,H,n,m⟩) λj m=>pk 5 E (kc 26 z j) z λa E=>nt<|wp_cond_false (E.eval z)<|wK<|aA<|⟨_,E.to z,H,n,m⟩) ?_;clear E H m;rintro a w ⟨N,E,H,u,m⟩;refine wS<|aN (λa w=>∃ y,Jn 53 a w [(0,.string b),(4,o),(5,i_ g),(6,i_ c),(42,.bool y)] (Row 9 kS o p::Fo) rs (sK (eJ b l) c g b p y=some r)) (wG<|pr 3 E z λa E=>bk m λG m=>sv2 E z (KX E z z z z U9 G) λa E=>bd m λU I m=>xk2 E z (cf_ 229) (Ls H I) λw H a E=>pr 2 E z λa E=>cs m (λk m=>pk 4 E (kc 38 z k) z λa E=>nt<|⟨_,_,E.to z,H,u,m⟩) λk m=>pk 1 E (kc 38 z k) z λa E=>gv 38 E k z (lF (i:=0) E H z z z U43) λa E=>pk 2 E (kc 38 z k) z λa E=>nt<|⟨_,_,E.to z,H,u,m⟩) ?_;clear E H m;rintro a w ⟨y,O,E,H,A,m⟩;refine wif E m z (λm=>?_) λm=>wK<|aA<|sp 4 E z λa E=>bk m λJ m=>sv2 E z (KX E z z z z U9 J) λa E=>tE (e:=9) (d:=kS) (cs:=[.string (b.extract g.toNat c.toNat)]) (xs:=[b.extract g.toNat c.toNat]) E H (wn z) z z z (E.evs z) (by kernel_rfl) z (λok hr=>(Rows.single (d:=kS) (cs:=[.string (b.extract g.toNat c.toNat)]) (x:=b.extract g.toNat c.toNat) z)) λV w a H E=>bk m λK m=>gG (i:=0) E H (wn z) z z z z z z (qS m0) U43 Yd z K z λW w a H E=>pn 1 E z λa E=>wG<|pr 3 E z λa E=>wN<|bR<|aA<|X4 ⟨E.to z,H,(Y1 A),m⟩;refine sq<|pn 2 E z λa E=>wR<|aJ<|bM<|aJ<|aJ<|bM<|aJ<|iW E z z z<|have H:=H.nilRow 9 kS;have H:=H.drop 1;?_;cases m;exact ⟨_,z,H.reads A⟩
     clear E H m;rintro a w ⟨q,s,t,P,E,H,L,m⟩;exact wG<|pn 3 E z λa E=>⟨l,nL l,X5 ⟨E.to z,H,L,m⟩⟩
    ·refine wX<|aW<|aW<|cR<|aA<|sq<|pn 3 E z λa E=>wR<|iW E z z z<|?_;cases m;exact ⟨_,z,H.reads n⟩

def jP(c:BY)(b:BY):Option Bool:=
  if (decide ((c.size:Int) ≥ (b.size:Int)))=true then ((ck (0 <= (b.size:Int)/\(b.size:Int) <= c.size)).bind λd=>some (sEq (c.extract 0 (b.size:Int).toNat) b)) else (some (false))
theorem Z4{c d:BY}(H:Sep w (Fo) rs){r:Bool}(m:jP c d=some r) :
    Cf 227 [.string c,.string d] w λv w'=>.bool r=v/\Sep w' (Fo) (rs):=ent func227 z ntmps227 z z λa E=>sp 1 E z λa E=>xp 6 E z λa E=>cs m (λb m=>pk 3 E (kc 10 z b) z λa E=>bk m λe m=>gv 10 E b z (Kw E z z z U9 e) λa E=>pk 4 E (kc 10 z b) z λa E=>nt<|wR<|o1 E z<|d_ m z (H.reads Y0)) λb m=>pk 8 E (kc 10 z b) z λa E=>nt<|wR<|o1 E z<|d_ m z (H.reads Y0)

def jQ(b:BY)(c:BY):Option Dp:=
  (jP b c).bind λd=>if (!d)=true then (some (b,false)) else ((ck (0 <= (c.size:Int)/\(c.size:Int) <= b.size)).bind λe=>some (b.extract (c.size:Int).toNat b.size,true))
theorem Z5{b c:BY}(H:Sep w (Fo) rs){r:BY×Bool}(m:jQ b c=some r) :
    Cf 160 [.string b,.string c] w λv w'=>.tuple #[.string r.1,.bool r.2]=v/\Sep w' (Fo) (rs):=by
 refine ent func160 z ntmps160 z z λa E=>sq<|pn 2 E z λa E=>wS<|sp 2 E z λa E=>bd m λf d m=>xk2 E z (cf_ 227) (Z4 H d) λw H a E=>pn 1 E z λa E=>wif E m z (λm=>?_) λm=>?_
 ·refine sq<|pn 3 E z λa E=>wR<|aJ<|iW E z z z<|?_;cases m;exact ⟨z,H.reads Y0⟩
 ·refine wK<|aA<|sp 3 E z λa E=>bk m λe m=>sv2 E z (Hb E z z z U9 e) λa E=>pn 2 E z λa E=>wR<|iW E z z z<|?_;cases m;exact ⟨z,H.reads Y0⟩

def mG(c:BY)(d:BY):Option Dp:=
  (jQ c d).bind λb=>some (b.1,b.2)
theorem Bg{b c:BY}(H:Sep w (Fo) rs){r:BY×Bool}(m:mG b c=some r) :
    Cf 92 [.string b,.string c] w λv w'=>.tuple #[.string r.1,.bool r.2]=v/\Sep w' (Fo) (rs):=by
 refine ent func92 z ntmps92 z z λa E=>sp 2 E z λa E=>xp 2 E z λa E=>bd m λe d m=>xk2 E z (cf_ 160) (Z5 H d) λw H a E=>pn 4 E z λa E=>wR<|iW E z z z<|?_;cases m;exact ⟨z,H.reads Y0⟩

def tZ:Option O1:=
  some ([],false)
def yB(rec_1:BY->eC->Option O1)(c:BY×Bool)(d:eC)(b:Int):Option O1:=
  (ck (0 <= b/\b <= c.1.size)).bind λf=>(D5 (c.1.extract 0 b.toNat)).bind λe=>if (!e)=true then (tZ) else ((ck (0 <= b/\b <= c.1.size)).bind λg=>(ck (d.length+([c.1.extract 0 b.toNat]:List BY).length <= LIM)).bind λi=>(ck (0 <= b/\b <= c.1.size)).bind λj=>rec_1 (c.1.extract b.toNat c.1.size) (d ++ ([c.1.extract 0 b.toNat]:List BY)))
def rL:Nat->BY->eC->Option O1
  | 0,_,_=>none
  | e+1,f,b=>
    if (!(sEq f (ByteArray.mk #[])))=true then ((mG f (ByteArray.mk #[47])).bind λc=>if (!c.2)=true then (tZ) else (if ((b.length:Int) == 6)=true then (tZ) else ((mE c.1 47).bind λd=>if (decide (d < 0))=true then (yB (rL e) c b (c.1.size:Int)) else (yB (rL e) c b d)))) else (if (decide ((b.length:Int) > 0))=true then (some (b,true)) else (some ([],false)))
def F2(b:BY):Option O1:=
  if (sEq b (ByteArray.mk #[47]))=true then (some ([],true)) else (rL (b.size+2) b [])
theorem Lt{o:BY}(H:Sep w (Fo) rs){r:eC×Bool}(m:F2 o=some r) :
    Cf 103 [.string o] w λv w'=>∃ C,.tuple #[C,.bool r.2]=v/\Sep w' (Row 9 kS C r.1::Fo) (rs):=by
 refine ent func103 z ntmps103 z z λa E=>sq<|pn 2 E z λa E=>wp_scope_jumps 0 (λa w=>Jn 48 a w [] (Fo) rs (tZ=some r)) (λ_ _=>0) z ?_ ?_
 ·refine sq<|pn 1 E z λa E=>wS<|sq<|pn 2 E z λa E=>wif E m z (λm=>?_) λm=>?_
  ·refine sq<|pn 2 E z λa E=>wR<|aJ<|Nh<|iW E z z z<|have H:=H.nilRow 9 kS;?_;cases m;exact ⟨_,z,H.reads Y0⟩
  refine wK<|aA<|wS<|wB<|bK (λg a w=>∃ k p l,Jn 48 a w [(0,.string p),(4,k)] (Row 9 kS k l::Fo) rs (rL g p l=some r)) (o.size+2) (have H:=H.nilRow 9 kS;X4 ⟨E.to z,H,Y0,m⟩) ?_;clear E H m;rintro g a w ⟨k,p,l,G,E,H,f,m⟩;cases g with
  | zero=>exact (bH m z).elim
  | succ g=>
   unfold rL at m;refine wS<|sq<|pn 2 E z λa E=>wif E m z (λm=>?_) λm=>?_
   ·refine wK<|aA<|wB<|sp 1 E z λa E=>bd m λj q m=>xk2 E z (cf_ 92) (Bg H q) λw H a E=>pn 5 E z λa E=>wS<|sp 3 E z λa E=>cs m (λb m=>pk 4 E (kc 19 z b) z λa E=>nt<|wp_cond_true (E.eval z)<|wp_goto<|Q8<|Gz<|Q8<|Gz<|Q8<|Xj<|have H:=H.drop 0;⟨_,E.nil,H,f,m⟩) λb m=>?_;refine pk 1 E (kc 19 z b) z λa E=>gv 19 E b z (lF (i:=0) E H z z z U43) λa E=>pk 2 E (kc 19 z b) z λa E=>nt<|wif E m z (λm=>wp_goto<|Q8<|Gz<|Q8<|Gz<|Q8<|Xj<|have H:=H.drop 0;⟨_,E.nil,H,f,m⟩) λm=>?_;refine wK<|aA<|sp 1 E z λa E=>bd m λI s m=>xk2 E z (cf_ 172) (M3 H s) λw H a E=>pn 1 E z λa E=>aN (λa w=>∃ c,Jn 48 a w [(4,k),(5,.string j.1),(7,i_ c)] (Row 9 kS k l::Fo) rs (yB (rL g) j l c=some r)) (sq<|pn 2 E z λa E=>wif E m z (λm=>wG<|pn 3 E z λa E=>⟨_,_,E.to z,H,f,m⟩) λm=>wK<|aA<|⟨_,_,E.to z,H,f,m⟩) ?_;clear E H m;rintro a w ⟨c,F,E,H,n,m⟩;exact wS<|sp 2 E z λa E=>bk m λt m=>sv2 E z (Kw E z z z U9 t) λa E=>bd m λJ u m=>xk2 E z (cf_ 173) (Gh H u) λw H a E=>pn 1 E z λa E=>wif E m z (λm=>wp_goto<|Q8<|Gz<|Q8<|Gz<|Q8<|Xj<|have H:=H.drop 0;⟨_,E.nil,H,n,m⟩) λm=>wK<|aA<|sp 3 E z λa E=>bk m λy m=>sv2 E z (Kw E z z z U9 y) λa E=>tE (e:=9) (d:=kS) (cs:=[.string (j.1.extract 0 c.toNat)]) (xs:=[j.1.extract 0 c.toNat]) E H (wn z) z z z (E.evs z) (by kernel_rfl) z (λok hr=>(Rows.single (d:=kS) (cs:=[.string (j.1.extract 0 c.toNat)]) (x:=j.1.extract 0 c.toNat) z)) λK w a H E=>bk m λA m=>gG (i:=0) E H (wn z) z z z z z z (qS m0) U43 Yd z A z λL w a H E=>pn 1 E z λa E=>wG<|pr 2 E z λa E=>bk m λB m=>sv2 E z (Hb E z z z U9 B) λa E=>pr 1 E z λa E=>wN<|bR<|aA<|⟨g,nL g,X4 ⟨E.to z,H,(Y1 n),m⟩⟩
   refine wX<|aW<|aW<|cR<|aA<|wS<|sp 1 E z λa E=>sv2 E z (lF (i:=0) E H z z z U43) λa E=>pn 1 E z λa E=>wif E m z (λm=>?_) λm=>?_
   ·refine sq<|pn 3 E z λa E=>wR<|aJ<|Nh<|iW E z z z<|?_;cases m;exact ⟨_,z,H.reads f⟩
   refine wK<|aA<|wS<|wp_label<|aA<|sq<|pn 2 E z λa E=>wR<|Nh<|iW E z z z<|have H:=H.nilRow 9 kS;have H:=H.drop 1;?_;cases m;exact ⟨_,z,H.reads f⟩
 ·clear E H m;rintro a w ⟨M,E,H,D,m⟩;refine wS<|wK<|aA<|sq<|pn 2 E z λa E=>wR<|Nh<|iW E z z z<|have H:=H.nilRow 9 kS;?_;cases m;exact ⟨_,z,H.reads D⟩

def oY(d:List BY):Nat->BY->Int->Option BY
  | 0,_,_=>none
  | f+1,b,e=>
    if (decide (e < (d.length:Int)))=true then ((ck (b.size+(ByteArray.mk #[47]).size <= 4611686018427387904)).bind λi=>(idx d e).bind λc=>(ck ((b ++ (ByteArray.mk #[47])).size+c.size <= 4611686018427387904)).bind λg=>oY d f ((b ++ (ByteArray.mk #[47])) ++ c) (IntKind.i64.wrap (e+1))) else (some (b))
def xF(b:List BY):Option BY:=
  if ((b.length:Int) == 0)=true then (some ((ByteArray.mk #[47]))) else (oY b (((b.length:Int) - 0:Int).toNat+1) (ByteArray.mk #[]) 0)
theorem Lu{f:VL}{e:List BY}(H:Sep w (Fo) rs)(d:rSl kS f e ∈ rs){r:BY}(m:xF e=some r) :
    Cf 230 [f] w λv w'=>.string r=v/\Sep w' (Fo) (rs):=by
 refine ent func230 z ntmps230 z z λa E=>sq<|pn 1 E z λa E=>wS<|sp 1 E z λa E=>lS E H d U43 z λa E=>pr 1 E z λa E=>nt<|wif E m z (λm=>sq<|pn 1 E z λa E=>wR<|aJ<|o1 E z<|d_ m z (H.reads Y0)) λm=>?_;refine wK<|aA<|sq<|pn 1 E z λa E=>wS<|sq<|pn 1 E z λa E=>wB<|bK (λc a w=>∃ g i,Jn 22 a w [(0,f),(3,.string g),(4,i_ i)] (Fo) rs (oY e c g i=some r)) (((e.length:Int) - 0:Int).toNat+1) (X3 ⟨E.to z,H,Y0,m⟩) ?_;clear E H m;rintro c a w ⟨g,i,n,E,H,b,m⟩;cases c with
 | zero=>exact (bH m z).elim
 | succ c=>
  unfold oY at m;exact wS<|sp 2 E z λa E=>lS E H (b _ d) U43 z λa E=>pn 1 E z λa E=>wif E m z (λm=>wK<|aA<|wS<|wB<|wG<|pr 1 E z λa E=>bk m λl m=>sv2 E z (Rm E z z z l) λa E=>pr 2 E z λa E=>bd m λo j m=>dH E H (wn z) z z z z z (b _ d) U43 sz9 j λq12 a H E=>sv2 E z (rI E H z z m0 U9 z) λa E=>bk m λk m=>sv2 E z (Rm E z z z k) λa E=>pr 1 E z λa E=>wN<|bR<|aA<|wG<|pn 3 E z λa E=>⟨c,nL c,X3 ⟨E.to z,H,(Y1 b),m⟩⟩) λm=>wX<|aW<|aW<|cR<|aA<|sq<|pn 2 E z λa E=>wR<|o1 E z<|d_ m z (H.reads b)

def qT(b:eC×Bool)(d:Bool):Option Dp:=
  if d=true then (some ((ByteArray.mk #[]),false)) else ((ck (0 <= (IntKind.i64.wrap ((b.1.length:Int) - 1))/\(IntKind.i64.wrap ((b.1.length:Int) - 1)) <= b.1.length)).bind λe=>(xF (b.1.take (IntKind.i64.wrap ((b.1.length:Int) - 1)).toNat)).bind λc=>some (c,true))
def uA(c:BY):Option Dp:=
  (mF c).bind λb=>if (!b.2)=true then (qT b true) else (qT b ((b.1.length:Int) == 0))
theorem Iy{f:BY}(H:Sep w (Fo) rs){r:BY×Bool}(m:uA f=some r) :
    Cf 164 [.string f] w λv w'=>.tuple #[.string r.1,.bool r.2]=v/\Sep w' (Fo) (rs):=by
 refine ent func164 z ntmps164 z z λa E=>sp 2 E z λa E=>xp 1 E z λa E=>bd m λg j m=>xc2 E z (cf_ 163) (w7 H j)<|op1 λk w H a E=>pn 5 E z λa E=>wS<|aN (λa w=>∃ d,Jn 24 a w [(4,k),(17,.bool d)] (Row 9 kS k g.1::Fo) rs (qT g d=some r)) (wG<|pr 3 E z λa E=>cs m (λb m=>pk 4 E (kc 13 z b) z λa E=>nt<|⟨_,_,E.to z,H,Y0,m⟩) λb m=>pk 1 E (kc 13 z b) z λa E=>gv 13 E b z (lF (i:=0) E H z z z U43) λa E=>pk 2 E (kc 13 z b) z λa E=>nt<|⟨_,_,E.to z,H,Y0,m⟩) ?_;clear E H m;rintro a w ⟨d,n,E,H,c,m⟩;refine wif E m z (λm=>?_) λm=>?_
 ·refine sq<|pn 2 E z λa E=>wR<|aJ<|iW E z z z<|have H:=H.drop 0;?_;cases m;exact ⟨z,H.reads c⟩
 ·refine wK<|aA<|sp 2 E z λa E=>sv2 E z (lF (i:=0) E H z z z U43) λa E=>pr 1 E z λa E=>have H:=H.thaw (i:=0) z;bk m λl m=>LQ E H (wn z) z z z z z m0 U43 sz9 l λo a H E=>bd m λp e m=>xk2 E z (cf_ 230) (Lu H m0 e) λw H a E=>pn 2 E z λa E=>wR<|iW E z z z<|?_;cases m;exact ⟨z,H.reads (Y2 c)⟩

def eV(b:BY):Nat->Int->Int->Option Int
  | 0,_,_=>none
  | c+1,x3,x4=>
    if (decide (x4 ≥ 0))=true then ((idx b.data.toList x4).bind λd=>if ((d.toNat:Int) == x3)=true then (some (x4)) else (eV b c x3 (IntKind.i64.wrap (x4 - 1)))) else (some ((-1)))
def jX(b:BY)(c:Int):Option Int:=
  eV b (((IntKind.i64.wrap ((b.size:Int) - 1)) - 0:Int).toNat+2) c (IntKind.i64.wrap ((b.size:Int) - 1))
theorem M4{c:BY}{e:Int}(H:Sep w (Fo) rs){r:Int}(m:jX c e=some r) :
    Cf 311 [.string c,.int .u8 e] w λv w'=>.int .i64 r=v/\Sep w' (Fo) (rs):=by
 refine ent func311 z ntmps311 z z λa E=>sq<|pn 1 E z λa E=>wS<|sq<|pn 4 E z λa E=>wB<|bK (λb a w=>∃ x3 x4,Jn 19 a w [(0,.string c),(1,.int .u8 x3),(5,i_ x4)] (Fo) rs (eV c b x3 x4=some r)) (((IntKind.i64.wrap ((c.size:Int) - 1)) - 0:Int).toNat+2) (X3 ⟨E.to z,H,Y0,m⟩) ?_;clear E H m;rintro b a w ⟨x3,x4,g,E,H,d,m⟩;cases b with
 | zero=>exact (bH m z).elim
 | succ b=>
  unfold eV at m;exact wS<|sq<|pn 2 E z λa E=>wif E m z (λm=>wK<|aA<|wS<|wB<|sp 2 E z λa E=>bd m λi f m=>sv2 E z (Kv E z z z U9 f) λa E=>pr 2 E z λa E=>nt<|wif E m z (λm=>sq<|pn 2 E z λa E=>wR<|bM<|aJ<|aJ<|bM<|aJ<|o1 E z<|d_ m z (H.reads d)) λm=>wK<|bR<|aA<|wG<|pn 3 E z λa E=>⟨b,nL b,X3 ⟨E.to z,H,d,m⟩⟩) λm=>wX<|aW<|aW<|cR<|aA<|sq<|pn 1 E z λa E=>wR<|o1 E z<|d_ m z (H.reads d)

def nV(b:BY)(c:BY):Option Bool:=
  if (decide ((b.size:Int) ≥ (c.size:Int)))=true then ((ck (0 <= (IntKind.i64.wrap ((b.size:Int) - (c.size:Int)))/\(IntKind.i64.wrap ((b.size:Int) - (c.size:Int))) <= b.size)).bind λd=>some (sEq (b.extract (IntKind.i64.wrap ((b.size:Int) - (c.size:Int))).toNat b.size) c)) else (some (false))
theorem Z6{c d:BY}(H:Sep w (Fo) rs){r:Bool}(m:nV c d=some r) :
    Cf 228 [.string c,.string d] w λv w'=>.bool r=v/\Sep w' (Fo) (rs):=ent func228 z ntmps228 z z λa E=>sp 1 E z λa E=>xp 6 E z λa E=>cs m (λb m=>pk 6 E (kc 10 z b) z λa E=>bk m λe m=>gv 10 E b z (Hb E z z z U9 e) λa E=>pk 4 E (kc 10 z b) z λa E=>nt<|wR<|o1 E z<|d_ m z (H.reads Y0)) λb m=>pk 11 E (kc 10 z b) z λa E=>nt<|wR<|o1 E z<|d_ m z (H.reads Y0)

def mT(b:BY)(c:BY):Option BY:=
  (nV b c).bind λd=>if d=true then ((ck (0 <= (IntKind.i64.wrap ((b.size:Int) - (c.size:Int)))/\(IntKind.i64.wrap ((b.size:Int) - (c.size:Int))) <= b.size)).bind λe=>some (b.extract 0 (IntKind.i64.wrap ((b.size:Int) - (c.size:Int))).toNat)) else (some (b))
theorem V5{b c:BY}(H:Sep w (Fo) rs){r:BY}(m:mT b c=some r) :
    Cf 161 [.string b,.string c] w λv w'=>.string r=v/\Sep w' (Fo) (rs):=ent func161 z ntmps161 z z λa E=>sq<|pn 1 E z λa E=>wS<|sp 2 E z λa E=>bd m λf d m=>xk2 E z (cf_ 228) (Z6 H d) λw H a E=>nt<|wif E m z (λm=>sp 6 E z λa E=>bk m λe m=>sv2 E z (Kw E z z z U9 e) λa E=>pn 1 E z λa E=>wR<|aJ<|o1 E z<|d_ m z (H.reads Y0)) λm=>wK<|aA<|sq<|pn 2 E z λa E=>wR<|o1 E z<|d_ m z (H.reads Y0)

def iY(b:BY)(c:BY):Option BY:=
  (mT b c).bind λd=>some (d)
theorem Aw{b c:BY}(H:Sep w (Fo) rs){r:BY}(m:iY b c=some r) :
    Cf 93 [.string b,.string c] w λv w'=>.string r=v/\Sep w' (Fo) (rs):=ent func93 z ntmps93 z z λa E=>sp 1 E z λa E=>xp 2 E z λa E=>bd m λe d m=>xk2 E z (cf_ 161) (V5 H d) λw H a E=>pn 1 E z λa E=>wR<|o1 E z<|d_ m z (H.reads Y0)

def zG(d:BY)(c:BY)(e:Bool):Option Dp:=
  if e=true then (some ((ByteArray.mk #[]),false)) else ((iY d (ByteArray.mk #[47])).bind λb=>(ck (b.size+(ByteArray.mk #[47]).size <= 4611686018427387904)).bind λf=>(ck ((b ++ (ByteArray.mk #[47])).size+c.size <= 4611686018427387904)).bind λg=>some ((b ++ (ByteArray.mk #[47])) ++ c,true))
def L9(b:BY)(c:BY):Option Dp:=
  (F2 b).bind λd=>if (!d.2)=true then (zG b c true) else ((D5 c).bind λe=>if (!e)=true then (zG b c true) else (zG b c ((d.1.length:Int) == 6)))
theorem Pn{d e:BY}(H:Sep w (Fo) rs){r:BY×Bool}(m:L9 d e=some r) :
    Cf 176 [.string d,.string e] w λv w'=>.tuple #[.string r.1,.bool r.2]=v/\Sep w' (Fo) (rs):=by
 refine ent func176 z ntmps176 z z λa E=>sp 2 E z λa E=>xp 1 E z λa E=>bd m λs o m=>xc2 E z (cf_ 103) (Lt H o)<|op1 λt w H a E=>pn 5 E z λa E=>wS<|aN (λa w=>∃ g,Jn 30 a w [(0,.string d),(1,.string e),(24,.bool g)] (Fo) rs (zG d e g=some r)) (wG<|pr 3 E z λa E=>cs m (λb m=>pk 9 E (kc 15 z b) z λa E=>nt<|have H:=H.drop 0;⟨_,_,E.to z,H,Y0,m⟩) λb m=>pk 1 E (kc 15 z b) z λa E=>bd m λp j m=>gc 15 E b z (cf_ 173) (Gh H j)<|op0 λw H a E=>pk 3 E (kc 15 z b) z λa E=>cs m (λc m=>pk 4 E (kc 20 z c) z λa E=>nt<|have H:=H.drop 0;⟨_,_,E.to z,H,Y0,m⟩) λc m=>pk 1 E (kc 20 z c) z λa E=>gv 20 E c z (lF (i:=0) E H z z z U43) λa E=>pk 2 E (kc 20 z c) z λa E=>nt<|have H:=H.drop 0;⟨_,_,E.to z,H,Y0,m⟩) ?_;clear E H m;rintro a w ⟨g,q,E,H,f,m⟩;refine wif E m z (λm=>?_) λm=>?_
 ·refine sq<|pn 2 E z λa E=>wR<|aJ<|iW E z z z<|?_;cases m;exact ⟨z,H.reads f⟩
 ·refine wK<|aA<|sp 1 E z λa E=>bd m λu k m=>xk2 E z (cf_ 93) (Aw H k) λw H a E=>bk m λl m=>sv2 E z (Rm E z z z l) λa E=>pr 1 E z λa E=>bk m λn m=>sv2 E z (Rm E z z z n) λa E=>pn 2 E z λa E=>wR<|iW E z z z<|?_;cases m;exact ⟨z,H.reads f⟩

def gM(b:BY):Option Bool:=
  (F2 b).bind λc=>some (c.2)
theorem lK{b:BY}(H:Sep w (Fo) rs){r:Bool}(m:gM b=some r) :
    Cf 56 [.string b] w λv w'=>.bool r=v/\Sep w' (Fo) (rs):=ent func56 z ntmps56 z z λa E=>sp 1 E z λa E=>xp 1 E z λa E=>bd m λd c m=>xc2 E z (cf_ 103) (Lt H c)<|op1 λe w H a E=>pr 5 E z λa E=>nx<|pn 2 E z λa E=>wR<|o1 E z<|have H:=H.drop 0;d_ m z (H.reads Y0)

def vD(b:BY)(c:Int):Option Int:=
  (jX b c).bind λd=>some (d)
theorem Ew{b:BY}{c:Int}(H:Sep w (Fo) rs){r:Int}(m:vD b c=some r) :
    Cf 265 [.string b,.int .u8 c] w λv w'=>.int .i64 r=v/\Sep w' (Fo) (rs):=ent func265 z ntmps265 z z λa E=>sp 1 E z λa E=>xp 2 E z λa E=>bd m λe d m=>xk2 E z (cf_ 311) (M4 H d) λw H a E=>pn 1 E z λa E=>wR<|o1 E z<|d_ m z (H.reads Y0)

def K4(b:BY)(d:Bool):Option (BY×BY×Bool):=
  if d=true then (some ((ByteArray.mk #[]),(ByteArray.mk #[]),false)) else ((vD b 47).bind λc=>(ck (0 <= (max c 1)/\(max c 1) <= b.size)).bind λe=>(ck (0 <= (IntKind.i64.wrap (c+1))/\(IntKind.i64.wrap (c+1)) <= b.size)).bind λf=>some (b.extract 0 (max c 1).toNat,b.extract (IntKind.i64.wrap (c+1)).toNat b.size,true))
def R3(b:BY):Option (BY×BY×Bool):=
  (gM b).bind λc=>if (!c)=true then (K4 b true) else (K4 b (sEq b (ByteArray.mk #[47])))
theorem Sx{c:BY}(H:Sep w (Fo) rs){r:BY×BY×Bool}(m:R3 c=some r) :
    Cf 194 [.string c] w λv w'=>.tuple #[.string r.1,.string r.2.1,.bool r.2.2]=v/\Sep w' (Fo) (rs):=by
 refine ent func194 z ntmps194 z z λa E=>sq<|pn 3 E z λa E=>wS<|aN (λa w=>∃ e,Jn 23 a w [(0,.string c),(12,.bool e)] (Fo) rs (K4 c e=some r)) (wG<|pr 1 E z λa E=>bd m λk f m=>xk2 E z (cf_ 56) (lK H f) λw H a E=>pr 2 E z λa E=>cs m (λb m=>pk 3 E (kc 9 z b) z λa E=>nt<|⟨_,_,E.to z,H,Y0,m⟩) λb m=>pk 3 E (kc 9 z b) z λa E=>nt<|⟨_,_,E.to z,H,Y0,m⟩) ?_;clear E H m;rintro a w ⟨e,l,E,H,d,m⟩;refine wif E m z (λm=>?_) λm=>?_
 ·refine sq<|pn 3 E z λa E=>wR<|aJ<|Xk E z z z z<|?_;cases m;exact ⟨z,H.reads d⟩
 ·refine wK<|aA<|sp 1 E z λa E=>bd m λn i m=>xk2 E z (cf_ 265) (Ew H i) λw H a E=>pn 1 E z λa E=>wS<|dz [0,0,0,0,0,0,0,0,1,2,2] [] H λw W0 hI H=>fn 2 E z λa E=>fv E z (λw hW=>(UH (t:=0) E z z z)) λa E=>bk m λj m=>fv E z (λw hW=>(Kw E z z z U9 j)) λa E=>fn 3 E z λa E=>bk m λg m=>fv E z (λw hW=>(Hb E z z z U9 g)) λa E=>bO z<|pn 1 E z λa E=>⟨⟨_,_,H,(aM),(aP)⟩,bJ z<|pn 1 E z λa E=>bJ z<|pn 1 E z λa E=>bF<|?_⟩
  clear hI;refine aA<|wR<|Xk E z z z z<|?_;cases m;exact ⟨z,H.reads d⟩

def D6(b:BY):Option BY:=
  (R3 b).bind λc=>some (c.2.1)
theorem Gi{b:BY}(H:Sep w (Fo) rs){r:BY}(m:D6 b=some r) :
    Cf 256 [.string b] w λv w'=>.string r=v/\Sep w' (Fo) (rs):=ent func256 z ntmps256 z z λa E=>sp 1 E z λa E=>xp 1 E z λa E=>bd m λd c m=>xk2 E z (cf_ 194) (Sx H c) λw H a E=>pr 7 E z λa E=>nx<|pn 2 E z λa E=>wR<|o1 E z<|d_ m z (H.reads Y0)

def xG(b:Int)(c:BY)(e:Bool):Option Dp:=
  if e=true then (some ((ByteArray.mk #[]),false)) else ((ck (-9223372036854775808 <= IntKind.i64.wrap (10000+b)/\IntKind.i64.wrap (10000+b) <= 9223372036854775807)).bind λg=>(ck (0 <= (1:Int)/\(1:Int) <= (ByteArray.mk (Lib.itoa (IntKind.i64.wrap (10000+b))).toArray).size)).bind λi=>(ck (c.size+((ByteArray.mk (Lib.itoa (IntKind.i64.wrap (10000+b))).toArray).extract (1:Int).toNat (ByteArray.mk (Lib.itoa (IntKind.i64.wrap (10000+b))).toArray).size).size <= 4611686018427387904)).bind λf=>(D5 (c ++ ((ByteArray.mk (Lib.itoa (IntKind.i64.wrap (10000+b))).toArray).extract (1:Int).toNat (ByteArray.mk (Lib.itoa (IntKind.i64.wrap (10000+b))).toArray).size))).bind λd=>if (!d)=true then (some ((ByteArray.mk #[]),false)) else (some (c ++ ((ByteArray.mk (Lib.itoa (IntKind.i64.wrap (10000+b))).toArray).extract (1:Int).toNat (ByteArray.mk (Lib.itoa (IntKind.i64.wrap (10000+b))).toArray).size),true)))
def B3(c:BY)(b:Int):Option Dp:=
  if (decide (b < 0))=true then (xG b c true) else (xG b c (decide (b > 9999)))
theorem Sy{e:BY}{d:Int}(H:Sep w (Fo) rs)(k:Z2 Tryz.prog ∈ rs){r:BY×Bool}(m:B3 e d=some r) :
    Cf 255 [.string e,i_ d] w λv w'=>.tuple #[.string r.1,.bool r.2]=v/\Sep w' (Fo) (rs):=by
 refine ent func255 z ntmps255 z z λa E=>sq<|pn 2 E z λa E=>wS<|aN (λa w=>∃ f,Jn 23 a w [(0,.string e),(1,i_ d),(12,.bool f)] (Fo) rs (xG d e f=some r)) (wG<|pr 3 E z λa E=>cs m (λb m=>pk 3 E (kc 9 z b) z λa E=>nt<|⟨_,_,E.to z,H,Y0,m⟩) λb m=>pk 3 E (kc 9 z b) z λa E=>nt<|⟨_,_,E.to z,H,Y0,m⟩) ?_;clear E H m;rintro a w ⟨f,n,E,H,c,m⟩;refine wif E m z (λm=>?_) λm=>?_
 ·refine sq<|pn 2 E z λa E=>wR<|aJ<|iW E z z z<|?_;cases m;exact ⟨z,H.reads c⟩
 ·refine wK<|aA<|sp 3 E z λa E=>bk m λl m=>xc2 E z (cf_ 305) (SP H (c _ k) (IntKind.i64.wrap (10000+d)) l)<|opr λw H a E=>bk m λg m=>sv2 E z (Hb E z z z U9 g) λa E=>bk m λi m=>sv2 E z (Rm E z z z i) λa E=>pn 1 E z λa E=>wS<|sp 1 E z λa E=>bd m λo j m=>xk2 E z (cf_ 173) (Gh H j) λw H a E=>pn 1 E z λa E=>wif E m z (λm=>?_) λm=>?_
  ·refine sq<|pn 2 E z λa E=>wR<|aJ<|iW E z z z<|?_;cases m;exact ⟨z,H.reads c⟩
  ·refine wK<|aA<|sq<|pn 3 E z λa E=>wR<|iW E z z z<|?_;cases m;exact ⟨z,H.reads c⟩

def uZ(c:BY):Option Dp:=
  (R3 c).bind λb=>some (b.1,b.2.2)
theorem W4{b:BY}(H:Sep w (Fo) rs){r:BY×Bool}(m:uZ b=some r) :
    Cf 135 [.string b] w λv w'=>.tuple #[.string r.1,.bool r.2]=v/\Sep w' (Fo) (rs):=by
 refine ent func135 z ntmps135 z z λa E=>sp 2 E z λa E=>xp 1 E z λa E=>bd m λd c m=>xk2 E z (cf_ 194) (Sx H c) λw H a E=>pr 7 E z λa E=>nx<|pn 4 E z λa E=>wR<|iW E z z z<|?_;cases m;exact ⟨z,H.reads Y0⟩

def rS:Nat->eC->eC->Int->Option Bool
  | 0,_,_,_=>none
  | g+1,d,c,b=>
    if (decide (b < (c.length:Int)))=true then ((idx c b).bind λe=>(idx d b).bind λf=>if (!(sEq e f))=true then (some (false)) else (rS g d c (IntKind.i64.wrap (b+1)))) else (some (true))
def rT(b:eC×Bool)(c:eC×Bool)(d:Bool):Option Bool:=
  if d=true then (some (false)) else (rS (((b.1.length:Int) - 0:Int).toNat+1) c.1 b.1 0)
def zR(d:BY)(e:BY):Option Bool:=
  (mF d).bind λb=>(mF e).bind λc=>if (!b.2)=true then (rT c b true) else (if (!c.2)=true then (rT c b true) else (rT c b (decide ((c.1.length:Int) > (b.1.length:Int)))))
theorem Qr{F G:BY}(H:Sep w (Fo) rs){r:Bool}(m:zR F G=some r) :
    Cf 97 [.string F,.string G] w λv w'=>.bool r=v/\Sep w' (Fo) (rs):=by
 refine ent func97 z ntmps97 z z λa E=>sp 1 E z λa E=>xp 1 E z λa E=>bd m λI J m=>xc2 E z (cf_ 163) (w7 H J)<|op1 λK w H a E=>pr 5 E z λa E=>xp 1 E z λa E=>bd m λt L m=>xc2 E z (cf_ 163) (w7 H L)<|op1 λM w H a E=>pn 5 E z λa E=>wS<|aN (λa w=>∃ u,Jn 48 a w [(5,K),(7,M),(32,.bool u)] (Row 9 kS K I.1::Row 9 kS M t.1::Fo) rs (rT t I u=some r)) (wG<|pr 3 E z λa E=>cs m (λd m=>pk 10 E (kc 22 z d) z λa E=>nt<|have H:=H.frs [0,1] z;⟨_,_,E.to z,H,Y0,m⟩) λd m=>pk 4 E (kc 22 z d) z λa E=>cs m (λb m=>pk 6 E (kc 26 z b) z λa E=>nt<|have H:=H.frs [0,1] z;⟨_,_,E.to z,H,Y0,m⟩) λb m=>pk 1 E (kc 26 z b) z λa E=>gv 26 E b z (lF (i:=0) E H z z z U43) λa E=>pk 1 E (kc 26 z b) z λa E=>gv 26 E b z (lF (i:=1) E H z z z U43) λa E=>pk 2 E (kc 26 z b) z λa E=>nt<|have H:=H.frs [0,1] z;⟨_,_,E.to z,H,Y0,m⟩) ?_;clear E H m;rintro a w ⟨u,N,E,H,j,m⟩;refine wif E m z (λm=>sq<|pn 1 E z λa E=>wR<|aJ<|o1 E z<|have H:=H.drs [0,0];d_ m z (H.reads j)) λm=>?_;refine wK<|aA<|wS<|sq<|pn 1 E z λa E=>wB<|bK (λg a w=>∃ l n o p q c,Env 48 a [(5,l),(7,n),(9,i_ q)]/\Sep w (Fo) c/\(∀ r,r ∈ rs->r ∈ c)/\rSl kS l o ∈ c/\rSl kS n p ∈ c/\rS g o p q=some r) (((t.1.length:Int) - 0:Int).toNat+1) (have H:=H.thaw (i:=0) z;have H:=H.thaw (i:=0) z;X6 ⟨E.to z,H,(Y2 j),mm1,m0,m⟩) ?_;clear E H m;rintro g a w ⟨l,n,o,p,q,c,E,H,e,s,f,m⟩;cases g with
 | zero=>exact (bH m z).elim
 | succ g=>
  unfold rS at m;refine wS<|sp 2 E z λa E=>lS E H f U43 z λa E=>pn 1 E z λa E=>wif E m z (λm=>?_) λm=>wX<|aW<|aW<|cR<|aA<|sq<|pn 1 E z λa E=>wR<|o1 E z<|d_ m z (H.reads e);refine wK<|aA<|wS<|wB<|wS<|?_;obtain ⟨O,H⟩:=H.raw f;obtain ⟨Q,H⟩:=H.raw (t1 s);refine dw [(0,0),(1,0),(2,0),(3,0),(4,0),(5,0),(6,0),(7,0),(8,0)] [] [1,0] H (by kernel_rfl) (λ_ _ _ h=>False.elim h.2) λw W0 hI H=>fn 2 E z λa E=>bd m λR x m=>?_;obtain ⟨q25,S,y,A⟩:=eU (P:=Tryz.prog) (k:=.i64) hI (eT (.head _)) U43 sz9 x;refine fv E z (λw hW=>gL E z z z (y w)) λa E=>fa E z (wn z) z z z z A U9 z λa E=>fn 2 E z λa E=>bd m λT B m=>?_;obtain ⟨q31,U,C,D⟩:=eU (P:=Tryz.prog) (k:=.i64) hI (eT (.tail _ (.head _))) U43 sz9 B;refine fv E z (λw hW=>gL E z z z (C w)) λa E=>fa E z (wn z) z z z z D U9 z λa E=>fn 1 E z λa E=>bF<|?_;clear hI;exact aA<|wif E m z (λm=>sq<|pn 1 E z λa E=>wR<|bM<|aJ<|aJ<|bM<|aJ<|o1 E z<|d_ m z (H.reads (Y2 e))) λm=>wK<|bR<|aA<|wG<|pn 3 E z λa E=>⟨g,nL g,X6 ⟨E.to z,H,(Y2 e),(t2 s),(t2 f),m⟩⟩

def Jz:Option Unit:=
  some ()
theorem Wi(H:Sep w (Fo) rs){r:Unit}(m:Jz=some r) :
    Cf 233 [] w λv w'=>.agg #[i_ 0,i_ 13,i_ 2,i_ 19,i_ 18,i_ 16,i_ 16,i_ 20]=v/\Sep w' (Fo) (rs):=by
 refine ent func233 z ntmps233 z z λa E=>sq<|al2 E H z UR λb w a H E=>nx<|sv2 E z (cP E z (E.evs z) (v:=.agg #[i_ 0,i_ 13,i_ 2,i_ 19,i_ 18,i_ 16,i_ 16,i_ 20]) (by kernel_rfl)) λa E=>ss 0 E H z LE z λw H=>nt<|wR<|oB 0 [i_ 0,i_ 13,i_ 2,i_ 19,i_ 18,i_ 16,i_ 16,i_ 20] E H QY z LE<|have H:=H.drop 0;?_;cases m;exact ⟨z,H.reads Y0⟩

def Bv(x1:Int)(b:Int):Option Bool:=
  if (decide (x1 ≥ 0))=true then (some (decide (x1 <= b))) else (some (false))
theorem Ul{x1 c:Int}(H:Sep w (Fo) rs){r:Bool}(m:Bv x1 c=some r) :
    Cf 232 [i_ x1,i_ c] w λv w'=>.bool r=v/\Sep w' (Fo) (rs):=ent func232 z ntmps232 z z λa E=>sp 1 E z λa E=>xp 3 E z λa E=>cs m (λb m=>pk 5 E (kc 7 z b) z λa E=>nt<|wR<|o1 E z<|d_ m z (H.reads Y0)) λb m=>pk 5 E (kc 7 z b) z λa E=>nt<|wR<|o1 E z<|d_ m z (H.reads Y0)

def R4(x1:fO)(b:Int)(c:Bool):Option Bool:=
  if c=true then (Jz.bind λe=>(idx ([0,13,2,19,18,16,16,20]:List Int) x1.Kind).bind λd=>if ((Tw .i64 b d) == 0)=true then (if (x1.Kind != 7)=true then (some (true)) else (some (decide (x1.Owner > 0)))) else (some (false))) else (some (false))
def R5(x1:fO)(b:Int):Option Bool:=
  if (decide (x1.Version ≥ (-1)))=true then (R4 x1 b (decide (x1.Version <= 281474976710656))) else (R4 x1 b false)
def R6(x1:fO)(b:Int):Option Bool:=
  if (sEq x1.Path (ByteArray.mk #[47]))=true then (R5 x1 (ior .i64 b 16)) else (R5 x1 b)
def R7(x1:fO)(b:Int):Option Bool:=
  if x1.Turns=true then (R6 x1 (ior .i64 b 8)) else (R6 x1 b)
def R8(x1:fO)(b:Int):Option Bool:=
  if (x1.Owner != 0)=true then (R7 x1 (ior .i64 b 4)) else (R7 x1 b)
def R9(x1:fO)(b:Int):Option Bool:=
  if (x1.Version != 0)=true then (R8 x1 (ior .i64 b 2)) else (R8 x1 b)
def wA(x1:fO)(b:Bool):Option Bool:=
  if b=true then (some (false)) else (if (!(sEq x1.Data (ByteArray.mk #[])))=true then (R9 x1 (ior .i64 0 1)) else (R9 x1 0))
def Cp(x1:fO):Option Bool:=
  if (decide (x1.Kind < 1))=true then (wA x1 true) else (if (decide (x1.Kind > 7))=true then (wA x1 true) else ((gM x1.Path).bind λb=>if (!b)=true then (wA x1 true) else (if (decide ((x1.Data.size:Int) > 256))=true then (wA x1 true) else ((Bv x1.Owner 1099511627776).bind λc=>wA x1 (!c)))))
theorem Po{x1:fO}(H:Sep w (Fo) rs){r:Bool}(m:Cp x1=some r) :
    Cf 167 [.agg (vY x1).toArray] w λv w'=>.bool r=v/\Sep w' (Fo) (rs):=by
 refine ent func167 z ntmps167 z z λa E=>sq<|bx E H z λe w a H E=>pn 1 E z λa E=>wS<|aN (λa w=>∃ C,Jn 83 a w [(1,pt e 0),(30,.bool C)] (Blk e 93 (vY x1)::Fo) rs (wA x1 C=some r)) (wG<|pr 1 E z λa E=>lb2 E H 0 U3 z λa E=>pr 2 E z λa E=>cs m (λi m=>pk 22 E (kc 8 z i) z λa E=>nt<|⟨_,_,E.to z,H,Y0,m⟩) λi m=>pk 1 E (kc 8 z i) z λa E=>gl 8 E H 0 i U3 z λa E=>pk 3 E (kc 8 z i) z λa E=>cs m (λf m=>pk 17 E (kc 13 z f) z λa E=>nt<|⟨_,_,E.to z,H,Y0,m⟩) λf m=>pk 1 E (kc 13 z f) z λa E=>gl 13 E H 0 f U9 z λa E=>bd m λQ D m=>gc 13 E f z (cf_ 56) (lK H D)<|op0 λw H a E=>pk 3 E (kc 13 z f) z λa E=>cs m (λj m=>pk 11 E (kc 19 z j) z λa E=>nt<|⟨_,_,E.to z,H,Y0,m⟩) λj m=>pk 1 E (kc 19 z j) z λa E=>gl 19 E H 0 j U9 z λa E=>pk 4 E (kc 19 z j) z λa E=>cs m (λg m=>pk 5 E (kc 25 z g) z λa E=>nt<|⟨_,_,E.to z,H,Y0,m⟩) λg m=>pk 1 E (kc 25 z g) z λa E=>gl 25 E H 0 g U2 z λa E=>bd m λR F m=>gc 25 E g z (cf_ 232) (Ul H F)<|op0 λw H a E=>pk 2 E (kc 25 z g) z λa E=>nt<|⟨_,_,E.to z,H,Y0,m⟩) ?_;clear E H m;rintro a w ⟨C,S,E,H,p,m⟩;refine wif E m z (λm=>sq<|pn 1 E z λa E=>wR<|aJ<|o1 E z<|have H:=H.drop 0;d_ m z (H.reads p)) λm=>?_;refine wK<|aA<|sq<|pn 1 E z λa E=>aN (λa w=>∃ G,Jn 83 a w [(1,pt e 0),(3,i_ G)] (Blk e 93 (vY x1)::Fo) rs (R9 x1 G=some r)) (sp 1 E z λa E=>lb2 E H 0 U9 z λa E=>pn 1 E z λa E=>wif E m z (λm=>wG<|pn 3 E z λa E=>⟨_,_,E.to z,H,p,m⟩) λm=>wK<|aA<|⟨_,_,E.to z,H,p,m⟩) ?_;clear E H m;rintro a w ⟨G,T,E,H,B,m⟩;refine aN (λa w=>∃ I,Jn 83 a w [(1,pt e 0),(3,i_ I)] (Blk e 93 (vY x1)::Fo) rs (R8 x1 I=some r)) (sp 1 E z λa E=>lb2 E H 0 U2 z λa E=>pn 1 E z λa E=>wif E m z (λm=>wG<|pn 3 E z λa E=>⟨_,_,E.to z,H,B,m⟩) λm=>wK<|aA<|⟨_,_,E.to z,H,B,m⟩) ?_;clear E H m;rintro a w ⟨I,L,E,H,q,m⟩;refine aN (λa w=>∃ s,Jn 83 a w [(1,pt e 0),(3,i_ s)] (Blk e 93 (vY x1)::Fo) rs (R7 x1 s=some r)) (sp 1 E z λa E=>lb2 E H 0 U2 z λa E=>pn 1 E z λa E=>wif E m z (λm=>wG<|pn 3 E z λa E=>⟨_,_,E.to z,H,q,m⟩) λm=>wK<|aA<|⟨_,_,E.to z,H,q,m⟩) ?_;clear E H m;rintro a w ⟨s,M,E,H,t,m⟩;refine aN (λa w=>∃ u,Jn 83 a w [(1,pt e 0),(3,i_ u)] (Blk e 93 (vY x1)::Fo) rs (R6 x1 u=some r)) (sp 1 E z λa E=>lb2 E H 0 U4 z λa E=>nt<|wif E m z (λm=>wG<|pn 3 E z λa E=>⟨_,_,E.to z,H,t,m⟩) λm=>wK<|aA<|⟨_,_,E.to z,H,t,m⟩) ?_;clear E H m;rintro a w ⟨u,N,E,H,x,m⟩;refine aN (λa w=>∃ o,Jn 83 a w [(1,pt e 0),(3,i_ o)] (Blk e 93 (vY x1)::Fo) rs (R5 x1 o=some r)) (sp 1 E z λa E=>lb2 E H 0 U9 z λa E=>pn 1 E z λa E=>wif E m z (λm=>wG<|pn 3 E z λa E=>⟨_,_,E.to z,H,x,m⟩) λm=>wK<|aA<|⟨_,_,E.to z,H,x,m⟩) ?_;clear E H m;rintro a w ⟨o,O,E,H,y,m⟩;refine aN (λa w=>∃ A,Jn 83 a w [(1,pt e 0),(3,i_ o),(4,.bool A)] (Blk e 93 (vY x1)::Fo) rs (R4 x1 o A=some r)) (wG<|pr 1 E z λa E=>lb2 E H 0 U2 z λa E=>pr 2 E z λa E=>cs m (λk m=>pk 1 E (kc 58 z k) z λa E=>gl 58 E H 0 k U2 z λa E=>pk 3 E (kc 58 z k) z λa E=>nt<|⟨_,_,E.to z,H,y,m⟩) λk m=>pk 5 E (kc 58 z k) z λa E=>nt<|⟨_,_,E.to z,H,y,m⟩) ?_;clear E H m;rintro a w ⟨A,P,E,H,n,m⟩;refine wS<|dw [(0,0),(1,0),(2,0),(4,0),(5,0),(3,1),(6,0),(7,0),(8,0),(9,0),(10,0),(11,0),(12,0),(13,0),(14,0),(15,0),(16,0),(17,0),(18,0),(19,0),(20,2)] [0] [] H (by kernel_rfl) (λ_ _ _ h=>False.elim h.2) λw W0 hI H=>fn 2 E z λa E=>cs m (λb m=>?_) λb m=>?_
 ·refine fk 2 E (kc 64 z b) z λa E=>fb E z (ws' (d:=64) E z z z z b) z z z z m0 z U3 z λa E=>bO z<|bd m λU J m=>gc 64 E b z (cf_ 233) (Wi H J)<|op0 λw H a E=>nt<|⟨sx H [0] z,bd m λV K m=>dU E z (ws' (d:=64) E z z z z b) z z (λw hW=>(LV (vs:=[i_ 0,i_ 13,i_ 2,i_ 19,i_ 18,i_ 16,i_ 16,i_ 20]) E z z z QY z sz3 U3 z (LW (Value.int .i64) (xs:=([0,13,2,19,18,16,16,20]:List Int)) K))) λa E=>fk 4 E (kc 64 z b) z λa E=>cs m (λc m=>?_) λc m=>?_⟩
  ·refine fk 1 E (kc 73 z c) z λa E=>fb E z (ws' (d:=73) E z z z z c) z z z z m0 z U3 z λa E=>fk 2 E (kc 73 z c) z λa E=>cs m (λl m=>?_) λl m=>?_
   ·refine fk 5 E (kc' (kc 77 z l) 73 z c) z λa E=>bJ z<|pn 1 E z λa E=>bF<|?_;clear hI;exact aA<|wR<|o1 E z<|have H:=H.drop 0;d_ m z (H.reads n)
   refine fk 1 E (kc 77 z l) z λa E=>fb E z (ws' (d:=77) E z z z z l) z z z z m0 z U2 z λa E=>fk 3 E (kc' (kc 77 z l) 73 z c) z λa E=>bJ z<|pn 1 E z λa E=>bF<|?_;clear hI;exact aA<|wR<|o1 E z<|have H:=H.drop 0;d_ m z (H.reads n)
  refine fk 9 E (kc 73 z c) z λa E=>bJ z<|pn 1 E z λa E=>bF<|?_;clear hI;exact aA<|wR<|o1 E z<|have H:=H.drop 0;d_ m z (H.reads n)
 ·refine fk 3 E (kc 64 z b) z λa E=>bO z<|pk 1 E (kc 64 z b) z λa E=>nt<|⟨sx H [0] z,fk 14 E (kc 64 z b) z λa E=>bJ z<|pn 1 E z λa E=>bF<|?_⟩
  clear hI;exact aA<|wR<|o1 E z<|have H:=H.drop 0;d_ m z (H.reads n)

def mH(b:BY):Option Bool:=
  (mF b).bind λc=>some (c.2)
theorem M5{b:BY}(H:Sep w (Fo) rs){r:Bool}(m:mH b=some r) :
    Cf 96 [.string b] w λv w'=>.bool r=v/\Sep w' (Fo) (rs):=ent func96 z ntmps96 z z λa E=>sp 1 E z λa E=>xp 1 E z λa E=>bd m λd c m=>xc2 E z (cf_ 163) (w7 H c)<|op1 λe w H a E=>pr 5 E z λa E=>nx<|pn 2 E z λa E=>wR<|o1 E z<|have H:=H.drop 0;d_ m z (H.reads Y0)

def oF(x4:Int):Option Bool:=
  some (decide (x4 ≥ 5000))
def hU(b:List aH):Nat->Int->Int->Option Bool
  | 0,_,_=>none
  | f+1,c,d=>
    if (decide (d < (b.length:Int)))=true then (if (decide (c < 5000))=true then ((idx b d).bind λe=>(idx b d).bind λx20=>hU b f (IntKind.i64.wrap ((IntKind.i64.wrap (c+(min (e.Path.size:Int) 5000)))+(min (x20.Data.size:Int) 5000))) (IntKind.i64.wrap (d+1))) else (oF c)) else (oF c)
def vM(b:List aH):Option Bool:=
  hU b 5002 (IntKind.i64.wrap (3 * (b.length:Int))) 0
theorem Kj{f:VL}{g:List aH}(H:Sep w (Fo) rs)(e:rSl aB f g ∈ rs){r:Bool}(m:vM g=some r) :
    Cf 22 [f] w λv w'=>.bool r=v/\Sep w' (Fo) (rs):=by
 refine ent func22 z ntmps22 z z λa E=>sp 1 E z λa E=>xp 1 E z λa E=>lS E H e U22 z λa E=>pn 2 E z λa E=>aN (λa w=>∃ x4,Jn 37 a w [(3,i_ x4)] (Fo) rs (oF x4=some r)) ?_ ?_
 ·refine sq<|pn 1 E z λa E=>wB<|bK (λd a w=>∃ i j,Jn 37 a w [(0,f),(3,i_ i),(4,i_ j)] (Fo) rs (hU g d i j=some r)) (5002) (X3 ⟨E.to z,H,Y0,m⟩) ?_;clear E H m;rintro d a w ⟨i,j,A,E,H,b,m⟩;cases d with
  | zero=>exact (bH m z).elim
  | succ d=>
   unfold hU at m;refine wS<|sp 2 E z λa E=>lS E H (b _ e) U22 z λa E=>pr 2 E z λa E=>cs m (λc m=>?_) λc m=>pk 3 E (kc 12 z c) z λa E=>nt<|wp_cond_false (E.eval z)<|wX<|aW<|aW<|cR<|aA<|⟨_,_,E.to z,H,b,m⟩
   refine pk 3 E (kc 12 z c) z λa E=>nt<|wif E m z (λm=>?_) λm=>wX<|aW<|aW<|cR<|aA<|⟨_,_,E.to z,H,b,m⟩
   refine wK<|aA<|wS<|wB<|?_;obtain ⟨B,H⟩:=H.raw (b _ e);refine dw [(0,0),(1,0),(2,0),(3,0),(4,0),(5,0),(6,0),(7,0),(8,0),(9,0),(10,0),(11,0),(12,0),(13,0),(14,0),(15,0),(16,0),(17,2)] [] [0] H (by kernel_rfl) (λ_ _ _ h=>False.elim h.2) λw W0 hI H=>fn 3 E z λa E=>bd m λC l m=>?_;obtain ⟨q15,D,n,o⟩:=eU (P:=Tryz.prog) (k:=.i64) hI (eT (.head _)) U22 iL l;refine fv E z (λw hW=>gL E z z z (n w)) λa E=>?_;have p:=pM o (λ_ _ _ h=>Bs h);refine fn 1 E z λa E=>fa E z (wn z) z z z z p U9 z λa E=>fn 1 E z λa E=>fv E z (λw hW=>(Rn (t:=0) E z z z)) λa E=>fn 3 E z λa E=>bd m λx20 q m=>?_;obtain ⟨q22,F,s,u⟩:=eU (P:=Tryz.prog) (k:=.i64) hI (eT (.head _)) U22 iL q;refine fv E z (λw hW=>gL E z z z (s w)) λa E=>?_;have x:=pM u (λ_ _ _ h=>Ud h);refine fn 1 E z λa E=>fa E z (wn z) z z z z x U9 z λa E=>fn 1 E z λa E=>fv E z (λw hW=>(Rn (t:=0) E z z z)) λa E=>fn 1 E z λa E=>bJ z<|pn 1 E z λa E=>bF<|?_;clear hI;exact bR<|aA<|wG<|pn 3 E z λa E=>⟨d,nL d,X3 ⟨E.to z,H,(Y1 b),m⟩⟩
 ·clear E H m;rintro a w ⟨x4,G,E,H,y,m⟩;exact sq<|pn 3 E z λa E=>wR<|o1 E z<|d_ m z (H.reads y)

def oZ(c:List BY)(d:List BY):Nat->Int->Option Bool
  | 0,_=>none
  | g+1,b=>
    if (decide (b < (c.length:Int)))=true then ((idx c b).bind λe=>(idx d b).bind λf=>if (!(sEq e f))=true then (some (false)) else (oZ c d g (IntKind.i64.wrap (b+1)))) else (some (true))
def xH(b:List BY)(c:List BY):Option Bool:=
  if ((b.length:Int) != (c.length:Int))=true then (some (false)) else (oZ b c (((b.length:Int) - 0:Int).toNat+1) 0)
theorem Lv{g i:VL}{e j:List BY}(H:Sep w (Fo) rs)(d:rSl kS g e ∈ rs)(f:rSl kS i j ∈ rs){r:Bool}(m:xH e j=some r) :
    Cf 162 [g,i] w λv w'=>.bool r=v/\Sep w' (Fo) (rs):=by
 refine ent func162 z ntmps162 z z λa E=>sq<|pn 1 E z λa E=>wS<|sp 1 E z λa E=>lS E H d U43 z λa E=>pr 1 E z λa E=>lS E H f U43 z λa E=>pn 1 E z λa E=>wif E m z (λm=>sq<|pn 1 E z λa E=>wR<|aJ<|o1 E z<|d_ m z (H.reads Y0)) λm=>?_;refine wK<|aA<|wS<|sq<|pn 1 E z λa E=>wB<|bK (λc a w=>∃ l,Jn 26 a w [(0,g),(1,i),(5,i_ l)] (Fo) rs (oZ e j c l=some r)) (((e.length:Int) - 0:Int).toNat+1) (⟨_,_,E.to z,H,Y0,m⟩) ?_;clear E H m;rintro c a w ⟨l,u,E,H,b,m⟩;cases c with
 | zero=>exact (bH m z).elim
 | succ c=>
  unfold oZ at m;refine wS<|sp 2 E z λa E=>lS E H (b _ d) U43 z λa E=>pn 1 E z λa E=>wif E m z (λm=>?_) λm=>wX<|aW<|aW<|cR<|aA<|sq<|pn 1 E z λa E=>wR<|o1 E z<|d_ m z (H.reads b);refine wK<|aA<|wS<|wB<|wS<|?_;obtain ⟨x,H⟩:=H.raw (b _ d);obtain ⟨y,H⟩:=H.raw (t1 (b _ f));refine dw [(0,0),(1,0),(2,0),(3,0),(4,0),(5,0),(6,0),(7,0),(8,0)] [] [1,0] H (by kernel_rfl) (λ_ _ _ h=>False.elim h.2) λw W0 hI H=>fn 2 E z λa E=>bd m λA n m=>?_;obtain ⟨q14,B,o,p⟩:=eU (P:=Tryz.prog) (k:=.i64) hI (eT (.head _)) U43 sz9 n;refine fv E z (λw hW=>gL E z z z (o w)) λa E=>fa E z (wn z) z z z z p U9 z λa E=>fn 2 E z λa E=>bd m λC q m=>?_;obtain ⟨q20,D,s,t⟩:=eU (P:=Tryz.prog) (k:=.i64) hI (eT (.tail _ (.head _))) U43 sz9 q;refine fv E z (λw hW=>gL E z z z (s w)) λa E=>fa E z (wn z) z z z z t U9 z λa E=>fn 1 E z λa E=>bF<|?_;clear hI;exact aA<|wif E m z (λm=>sq<|pn 1 E z λa E=>wR<|bM<|aJ<|aJ<|bM<|aJ<|o1 E z<|d_ m z (H.reads (Y2 b))) λm=>wK<|bR<|aA<|wG<|pn 3 E z λa E=>⟨c,nL c,_,_,E.to z,H,(Y2 b),m⟩

def pA(e:List aH)(f:List aH):Nat->Int->Option Bool
  | 0,_=>none
  | g+1,d=>
    if (decide (d < (e.length:Int)))=true then ((idx e d).bind λb=>(idx f d).bind λc=>if (!((sEq b.Path c.Path) && ((sEq b.Data c.Data) && ((b.Version == c.Version) && ((b.Turn == c.Turn) && (b.Owner == c.Owner))))))=true then (some (false)) else (pA e f g (IntKind.i64.wrap (d+1)))) else (some (true))
def xI(b:List aH)(c:List aH):Option Bool:=
  if ((b.length:Int) != (c.length:Int))=true then (some (false)) else (pA b c (((b.length:Int) - 0:Int).toNat+1) 0)
theorem Lw{j l:VL}{g n:List aH}(H:Sep w (Fo) rs)(f:rSl aB j g ∈ rs)(i:rSl aB l n ∈ rs){r:Bool}(m:xI g n=some r) :
    Cf 48 [j,l] w λv w'=>.bool r=v/\Sep w' (Fo) (rs):=by
 refine ent func48 z ntmps48 z z λa E=>sq<|pn 1 E z λa E=>wS<|sp 1 E z λa E=>lS E H f U22 z λa E=>pr 1 E z λa E=>lS E H i U22 z λa E=>pn 1 E z λa E=>wif E m z (λm=>sq<|pn 1 E z λa E=>wR<|aJ<|o1 E z<|d_ m z (H.reads Y0)) λm=>?_;refine wK<|aA<|wS<|sq<|pn 1 E z λa E=>wB<|bK (λe a w=>∃ o,Jn 26 a w [(0,j),(1,l),(5,i_ o)] (Fo) rs (pA g n e o=some r)) (((g.length:Int) - 0:Int).toNat+1) (⟨_,_,E.to z,H,Y0,m⟩) ?_;clear E H m;rintro e a w ⟨o,y,E,H,d,m⟩;cases e with
 | zero=>exact (bH m z).elim
 | succ e=>
  unfold pA at m;refine wS<|sp 2 E z λa E=>lS E H (d _ f) U22 z λa E=>pn 1 E z λa E=>wif E m z (λm=>?_) λm=>wX<|aW<|aW<|cR<|aA<|sq<|pn 1 E z λa E=>wR<|o1 E z<|d_ m z (H.reads d);refine wK<|aA<|wS<|wB<|wS<|?_;obtain ⟨A,H⟩:=H.raw (d _ f);obtain ⟨B,H⟩:=H.raw (t1 (d _ i));refine dw [(0,0),(1,0),(2,0),(3,0),(4,0),(5,0),(6,0),(7,0),(8,0)] [] [1,0] H (by kernel_rfl) (λ_ _ _ h=>False.elim h.2) λw W0 hI H=>fn 2 E z λa E=>bd m λb p m=>?_;obtain ⟨q14,C,q,s⟩:=eU (P:=Tryz.prog) (k:=.i64) hI (eT (.head _)) U22 iL p;refine fv E z (λw hW=>gL E z z z (q w)) λa E=>fv E z (λw hW=>kT E z z (xA (cs:=[.string b.Path,.string b.Data,i_ b.Version,i_ b.Turn,i_ b.Owner]) (DR.ir (r9 s)) (λ_ _ _ h=>rJ h) U80 z iL w hW)) λa E=>fn 2 E z λa E=>bd m λc t m=>?_;obtain ⟨q20,D,u,x⟩:=eU (P:=Tryz.prog) (k:=.i64) hI (eT (.tail _ (.head _))) U22 iL t;refine fv E z (λw hW=>gL E z z z (u w)) λa E=>fv E z (λw hW=>kT E z z (xA (cs:=[.string c.Path,.string c.Data,i_ c.Version,i_ c.Turn,i_ c.Owner]) (DR.ir (r9 x)) (λ_ _ _ h=>rJ h) U80 z iL w hW)) λa E=>fv E z (λw hW=>(yR E z z z (v:=.bool (!((sEq b.Path c.Path) && ((sEq b.Data c.Data) && ((b.Version == c.Version) && ((b.Turn == c.Turn) && (b.Owner == c.Owner))))))) (Rs VK (Fd U80 VJ (zP (by rfl) (by kernel_rfl) (by kernel_rfl) (Cv U9) (zP (by rfl) (by kernel_rfl) (by kernel_rfl) (Cv U9) (zP (by rfl) (by kernel_rfl) (by kernel_rfl) (V4 U2) (zP (by rfl) (by kernel_rfl) (by kernel_rfl) (V4 U2) (Im (by rfl) (by kernel_rfl) (by kernel_rfl) (V4 U2)))))))))) λa E=>bF<|?_;clear hI;exact aA<|wif E m z (λm=>sq<|pn 1 E z λa E=>wR<|bM<|aJ<|aJ<|bM<|aJ<|o1 E z<|d_ m z (H.reads (Y2 d))) λm=>wK<|bR<|aA<|wG<|pn 3 E z λa E=>⟨e,nL e,_,_,E.to z,H,(Y2 d),m⟩

def tF(x1:dA)(x3:dA):Option Bool:=
  if (x1.Err == x3.Err)=true then (if (sEq x1.Path x3.Path)=true then (if (sEq x1.Data x3.Data)=true then (if (x1.Version == x3.Version)=true then ((xH x1.Names x3.Names).bind λb=>some (b)) else (some (false))) else (some (false))) else (some (false))) else (some (false))
theorem Hk{x1 x3:dA}{g i:VL}(H:Sep w (Fo) rs)(j:rSl kS g x1.Names ∈ rs)(k:rSl kS i x3.Names ∈ rs){r:Bool}(m:tF x1 x3=some r) :
    Cf 94 [.agg (Ar x1 g).toArray,.agg (Ar x3 i).toArray] w λv w'=>.bool r=v/\Sep w' (Fo) (rs):=ent func94 z ntmps94 z z λa E=>sq<|bx E H z λn w a H E=>bx E H z λo w a H E=>pr 1 E z λa E=>xp 1 E z λa E=>lb2 E H 1 U34 z λa E=>pr 1 E z λa E=>lb2 E H 0 U34 z λa E=>pr 2 E z λa E=>cs m (λe m=>pk 1 E (kc 10 z e) z λa E=>gl 10 E H 1 e U9 z λa E=>pk 1 E (kc 10 z e) z λa E=>gl 10 E H 0 e U9 z λa E=>pk 3 E (kc 10 z e) z λa E=>cs m (λc m=>pk 1 E (kc 17 z c) z λa E=>gl 17 E H 1 c U9 z λa E=>pk 1 E (kc 17 z c) z λa E=>gl 17 E H 0 c U9 z λa E=>pk 3 E (kc 17 z c) z λa E=>cs m (λd m=>pk 1 E (kc 24 z d) z λa E=>gl 24 E H 1 d U2 z λa E=>pk 1 E (kc 24 z d) z λa E=>gl 24 E H 0 d U2 z λa E=>pk 3 E (kc 24 z d) z λa E=>cs m (λb m=>pk 1 E (kc 31 z b) z λa E=>gl 31 E H 1 b U43 z λa E=>pk 1 E (kc 31 z b) z λa E=>gl 31 E H 0 b U43 z λa E=>bd m λl f m=>gc 31 E b z (cf_ 162) (Lv H j k f)<|op0 λw H a E=>pk 2 E (kc 31 z b) z λa E=>nt<|wR<|o1 E z<|have H:=H.drs [0,0];d_ m z (H.reads Y0)) λb m=>pk 7 E (kc 31 z b) z λa E=>nt<|wR<|o1 E z<|have H:=H.drs [0,0];d_ m z (H.reads Y0)) λd m=>pk 14 E (kc 24 z d) z λa E=>nt<|wR<|o1 E z<|have H:=H.drs [0,0];d_ m z (H.reads Y0)) λc m=>pk 21 E (kc 17 z c) z λa E=>nt<|wR<|o1 E z<|have H:=H.drs [0,0];d_ m z (H.reads Y0)) λe m=>pk 28 E (kc 10 z e) z λa E=>nt<|wR<|o1 E z<|have H:=H.drs [0,0];d_ m z (H.reads Y0)

def Df(x1:fO):Option Bool:=
  (Cp x1).bind λb=>some (!b)
theorem Wj{x1:fO}(H:Sep w (Fo) rs){r:Bool}(m:Df x1=some r) :
    Cf 166 [.agg (vY x1).toArray] w λv w'=>.bool r=v/\Sep w' (Fo) (rs):=ent func166 z ntmps166 z z λa E=>sq<|bx E H z λc w a H E=>pr 1 E z λa E=>nx<|ln 0 (vY x1) E H U93 z Ln λa E=>bd m λd b m=>xk2 E z (cf_ 167) (Po H b) λw H a E=>pr 2 E z λa E=>nt<|wR<|o1 E z<|have H:=H.drop 0;d_ m z (H.reads Y0)

def lZ(b:List fO):Nat->Int->Option Int
  | 0,_=>none
  | d+1,x4=>
    if (decide (x4 < (b.length:Int)))=true then ((idx b x4).bind λe=>(Df e).bind λc=>if c=true then (some (x4)) else (lZ b d (IntKind.i64.wrap (x4+1)))) else (some ((-1)))
def sZ(b:List fO):Option Int:=
  lZ b (((b.length:Int) - 0:Int).toNat+1) 0
theorem Z7{f:VL}{d:List fO}(H:Sep w (Fo) rs)(e:rSl Y9 f d ∈ rs){r:Int}(m:sZ d=some r) :
    Cf 231 [f,.func (.func 166) #[] #[]] w λv w'=>.int .i64 r=v/\Sep w' (Fo) (rs):=by
 refine ent func231 z ntmps231 z z λa E=>sq<|pn 1 E z λa E=>wS<|sp 1 E z λa E=>lS E H e U94 z λa E=>pr 1 E z λa E=>nt<|wB<|bK (λc a w=>∃ x4,Jn 19 a w [(0,f),(1,.func (.func 166) #[] #[]),(7,i_ (d.length:Int)),(8,i_ x4)] (Fo) rs (lZ d c x4=some r)) (((d.length:Int) - 0:Int).toNat+1) (⟨_,_,E.to z,H,Y0,m⟩) ?_;clear E H m;rintro c a w ⟨x4,j,E,H,b,m⟩;cases c with
 | zero=>exact (bH m z).elim
 | succ c=>
  unfold lZ at m;exact sq<|pn 1 E z λa E=>wS<|wif E m z (λm=>wK<|aA<|wS<|wB<|sp 2 E z λa E=>xp 3 E z λa E=>bd m λl i m=>dH E H (wn z) z z z z z (b _ e) U94 Ln i λq9 a H E=>ldf Jy E H z z z z z m0 U93 z Ln λa E=>bd m λk g m=>bP E (wn z) z z (bT E z z z ((cf_ 166) _)) (Wj H g)<|op0 λw H a E=>nt<|wif E m z (λm=>sq<|pn 2 E z λa E=>wR<|bM<|aJ<|aJ<|bM<|aJ<|o1 E z<|d_ m z (H.reads (Y1 b))) λm=>wK<|bR<|aA<|wG<|pn 2 E z λa E=>⟨c,nL c,_,_,E.to z,H,(Y1 b),m⟩) λm=>wX<|aW<|aW<|cR<|aA<|sq<|pn 1 E z λa E=>wR<|o1 E z<|d_ m z (H.reads b)

def qI(b:List fO):Option Bool:=
  (sZ b).bind λc=>some (decide (c ≥ 0))
theorem S6{b:VL}{c:List fO}(H:Sep w (Fo) rs)(d:rSl Y9 b c ∈ rs){r:Bool}(m:qI c=some r) :
    Cf 165 [b,.func (.func 166) #[] #[]] w λv w'=>.bool r=v/\Sep w' (Fo) (rs):=ent func165 z ntmps165 z z λa E=>sp 1 E z λa E=>xp 2 E z λa E=>bd m λf e m=>xk2 E z (cf_ 231) (Z7 H d e) λw H a E=>pn 2 E z λa E=>wR<|o1 E z<|d_ m z (H.reads Y0)

def Gj(b:List fO):Option Bool:=
  (qI b).bind λc=>if (decide ((b.length:Int) > 0))=true then (if (decide ((b.length:Int) <= 8))=true then (some (!c)) else (some (false))) else (some (false))
theorem AW{e:VL}{f:List fO}(H:Sep w (Fo) rs)(c:rSl Y9 e f ∈ rs){r:Bool}(m:Gj f=some r) :
    Cf 99 [e] w λv w'=>.bool r=v/\Sep w' (Fo) (rs):=ent func99 z ntmps99 z z λa E=>sp 1 E z λa E=>xp 1 E z λa E=>bd m λi g m=>xk2 E z (cf_ 165) (S6 H c g) λw H a E=>pr 1 E z λa E=>nx<|pr 1 E z λa E=>lS E H c U94 z λa E=>pr 2 E z λa E=>cs m (λb m=>pk 1 E (kc 9 z b) z λa E=>gv 9 E b z (vJ E H z z c U94) λa E=>pk 3 E (kc 9 z b) z λa E=>cs m (λd m=>pk 4 E (kc 14 z d) z λa E=>nt<|wR<|o1 E z<|d_ m z (H.reads Y0)) λd m=>pk 4 E (kc 14 z d) z λa E=>nt<|wR<|o1 E z<|d_ m z (H.reads Y0)) λb m=>pk 9 E (kc 9 z b) z λa E=>nt<|wR<|o1 E z<|d_ m z (H.reads Y0)

def wT(b:List bL)(c:List bL):Option Iu:=
  (ck (c.length+b.length <= LIM)).bind λd=>some (c ++ b)
theorem D7{c d:VL}{e f:List bL}{b:Nat}(H:Sep w (Blk b 158 [d]::Row 144 dC d f::Fo) rs)(g:rSl dC c e ∈ rs){r:Iu}(m:wT e f=some r) :
    Cf 168 [c,pt b 0] w λv w'=>∃ j,.tuple #[]=v/\Sep w' (Blk b 158 [j]::Row 144 dC j r::Fo) (rs):=by
 refine ent func168 z ntmps168 z z λa E=>wG<|lb2 E H 0 Yf z λa E=>pr 1 E z λa E=>bk m λk m=>gG (i:=1) E H (wn z) z z z z z z (qS g) Yf QZ z k z λn w a H E=>?_;obtain ⟨q10,l,rfl⟩:=H.rowform (i:=1) z;refine ss 0 E H z UV z λw H=>wN<|yJ E z<|?_;cases m;exact ⟨_,z,H.reads Y0⟩

def D8(x1:Int)(b:BY)(c:BY):Option bL:=
  some ((⟨x1,b,c,(ByteArray.mk #[]),0,0,false⟩:bL))
theorem V6{x1:Int}{j k:Nat}{b c:BY}{d e f g i:VL}(H:Sep w (Blk j 9 [.string b]::Blk k 93 [d,.string c,e,f,g,i]::Fo) rs){r:bL}(m:D8 x1 b c=some r) :
    Cf 169 [i_ x1,pt j 0,pt k 0] w λv w'=>.agg (cI r).toArray=v/\Sep w' (Blk j 9 [.string b]::Blk k 93 [d,.string c,e,f,g,i]::Fo) (rs):=by
 refine ent func169 z ntmps169 z z λa E=>sq<|al2 E H z Ir λl w a H E=>xp 1 E z λa E=>lb2 E H 1 U9 z λa E=>pr 1 E z λa E=>lb2 E H 2 U9 z λa E=>sv2 E z (cP E z (E.evs z) (v:=.agg #[i_ x1,.string b,.string c,.string (ByteArray.mk #[]),i_ 0,i_ 0,.bool false]) (by kernel_rfl)) λa E=>ss 0 E H z iX z λw H=>nt<|wR<|oB 0 [i_ x1,.string b,.string c,.string (ByteArray.mk #[]),i_ 0,i_ 0,.bool false] E H sX z iX<|have H:=H.drop 0;?_;cases m;exact ⟨z,H.reads Y0⟩

def V7(x1:Int)(b:BY)(c:Int):Option bL:=
  some ((⟨x1,b,b,(ByteArray.mk #[]),0,c,false⟩:bL))
theorem Gk{x1 c:Int}{g:Nat}{b:BY}{i d e f:VL}(H:Sep w (Blk g 93 [i,.string b,d,e,i_ c,f]::Fo) rs){r:bL}(m:V7 x1 b c=some r) :
    Cf 170 [i_ x1,pt g 0] w λv w'=>.agg (cI r).toArray=v/\Sep w' (Blk g 93 [i,.string b,d,e,i_ c,f]::Fo) (rs):=by
 refine ent func170 z ntmps170 z z λa E=>sq<|al2 E H z Ir λj w a H E=>xp 2 E z λa E=>lb2 E H 1 U9 z λa E=>pr 1 E z λa E=>lb2 E H 1 U9 z λa E=>pr 1 E z λa E=>lb2 E H 1 U2 z λa E=>sv2 E z (cP E z (E.evs z) (v:=.agg #[i_ x1,.string b,.string b,.string (ByteArray.mk #[]),i_ 0,i_ c,.bool false]) (by kernel_rfl)) λa E=>ss 0 E H z iX z λw H=>nt<|wR<|oB 0 [i_ x1,.string b,.string b,.string (ByteArray.mk #[]),i_ 0,i_ c,.bool false] E H sX z iX<|have H:=H.drop 0;?_;cases m;exact ⟨z,H.reads Y0⟩

def V8(x1:Int)(c:BY)(d:BY)(e:Int):Option bL:=
  (D8 x1 c d).bind λb=>some ((⟨b.Kind,b.Dir,b.Path,b.Data,e,b.Owner,b.Turns⟩:bL))
theorem Gl{x1 c:Int}{k e d:Nat}{l n:BY}{f g i j:VL}(H:Sep w (Blk k 222 [.func (.func 169) #[] #[pt e 0,pt d 0]]::Blk e 9 [.string l]::Blk d 93 [f,.string n,g,i_ c,i,j]::Fo) rs){r:bL}(m:V8 x1 l n c=some r) :
    Cf 171 [i_ x1,pt k 0,pt d 0] w λv w'=>.agg (cI r).toArray=v/\Sep w' (Blk k 222 [.func (.func 169) #[] #[pt e 0,pt d 0]]::Blk e 9 [.string l]::Blk d 93 [f,.string n,g,i_ c,i,j]::Fo) (rs):=by
 refine ent func171 z ntmps171 z z λa E=>sq<|al2 E H z Ir λp w a H E=>nx<|lb2 E H 1 Ye z λa E=>pr 1 E z λa E=>have H:=H.frs [1,1,3,3] z;bd m λb o m=>bP E (wn z) z z (bT E z z z ((cf_ 169) _)) (V6 H o)<|op0 λw H a E=>al2 E H z Ir λq w a H E=>ss 0 E H z iX z λw H=>xp 1 E z λa E=>lb2 E H 2 U2 z λa E=>pr 1 E z λa E=>ss 0 E H z sz2 z λw H=>nx<|ln 0 [i_ b.Kind,.string b.Dir,.string b.Path,.string b.Data,i_ c,i_ b.Owner,.bool b.Turns] E H sX z iX λa E=>ss 3 E H z iX z λw H=>nt<|wR<|oB 3 [i_ b.Kind,.string b.Dir,.string b.Path,.string b.Data,i_ c,i_ b.Owner,.bool b.Turns] E H sX z iX<|have H:=H.drs [0,2];have H:=H.frs [1,1,2] z;?_;cases m;exact ⟨z,H.reads Y0⟩

def P4(c:BY):Option BY:=
  (uZ c).bind λb=>if b.2=true then (some (b.1)) else (some ((ByteArray.mk #[47])))
theorem Lx{b:BY}(H:Sep w (Fo) rs){r:BY}(m:P4 b=some r) :
    Cf 159 [.string b] w λv w'=>.string r=v/\Sep w' (Fo) (rs):=ent func159 z ntmps159 z z λa E=>sq<|pn 1 E z λa E=>wS<|sp 1 E z λa E=>bd m λd c m=>xk2 E z (cf_ 135) (W4 H c) λw H a E=>pr 5 E z λa E=>nx<|pn 1 E z λa E=>wif E m z (λm=>sq<|pn 2 E z λa E=>wR<|aJ<|o1 E z<|d_ m z (H.reads Y0)) λm=>wK<|aA<|sq<|pn 1 E z λa E=>wR<|o1 E z<|d_ m z (H.reads Y0)

def sM(b:Iu):Option Iu:=
  some (b)
def Ly(x1:fO):Option Iu:=
  (Cp x1).bind λx=>if (!x)=true then (some ([])) else ((P4 x1.Path).bind λc=>if (x1.Kind == 1)=true then ((D8 2 c x1.Path).bind λd=>(P4 c).bind λe=>(wT ([(⟨1,e,c,(ByteArray.mk #[]),0,0,false⟩:bL),(⟨d.Kind,d.Dir,d.Path,x1.Data,d.Version,x1.Owner,x1.Turns⟩:bL)]:List bL) []).bind λf=>sM f) else (if (x1.Kind == 2)=true then ((V8 3 c x1.Path x1.Version).bind λg=>(V7 4 x1.Path x1.Owner).bind λi=>(wT ([g,i]:List bL) []).bind λj=>sM j) else (if (x1.Kind == 3)=true then ((V8 5 c x1.Path x1.Version).bind λb=>(wT ([(⟨b.Kind,b.Dir,b.Path,x1.Data,b.Version,b.Owner,b.Turns⟩:bL)]:List bL) []).bind λk=>sM k) else (if (x1.Kind == 4)=true then ((V8 6 c x1.Path x1.Version).bind λl=>(wT ([l]:List bL) []).bind λm=>sM m) else (if (x1.Kind == 5)=true then ((D8 7 c x1.Path).bind λn=>(wT ([n]:List bL) []).bind λo=>sM o) else (if (x1.Kind == 6)=true then ((D8 8 c x1.Path).bind λp=>(V7 9 x1.Path x1.Owner).bind λq=>(wT ([p,q]:List bL) []).bind λs=>sM s) else (if (x1.Kind == 7)=true then ((D8 8 c x1.Path).bind λt=>(V7 10 x1.Path x1.Owner).bind λu=>(wT ([t,u]:List bL) []).bind λv=>sM v) else (sM []))))))))
theorem GD{x1:fO}(H:Sep w (Fo) rs){r:Iu}(m:Ly x1=some r) :
    Cf 100 [.agg (vY x1).toArray] w λv w'=>∃ U,U=v/\Sep w' (Row 144 dC U r::Fo) (rs):=by
 refine ent func100 z ntmps100 z z λa E=>sq<|bx E H z λd2 w a H E=>pn 1 E z λa E=>wS<|sq<|ln 0 (vY x1) E H U93 z Ln λa E=>bd m λd3 V m=>xk2 E z (cf_ 167) (Po H V) λw H a E=>pn 1 E z λa E=>wif E m z (λm=>?_) λm=>?_
 ·refine sq<|pn 1 E z λa E=>wR<|aJ<|o1 E z<|have H:=H.nilRow 144 dC;have H:=H.drop 1;?_;cases m;exact ⟨_,z,H.reads Y0⟩
 ·refine wK<|aA<|sq<|al1 E H z z z z US z λW w a H E=>nx<|sv2 E z (oP E z z z) λa E=>pr 1 E z λa E=>xp 1 E z λa E=>lb2 E H 1 U9 z λa E=>bd m λs X m=>xk2 E z (cf_ 159) (Lx H X) λw H a E=>al1 E H z z z z zr9 z λd4 w a H E=>ss 0 E H z sz9 z λw H=>nx<|sv2 E z (oP E z z z) λa E=>al1 E H z z z z UT z λd5 w a H E=>ss 0 E H z UU z λw H=>nx<|sv2 E z (oP E z z z) λa E=>pr 1 E z λa E=>nx<|sv2 E z (oP E z z z) λa E=>pn 1 E z λa E=>aN (λa w=>∃ t u,Jn 97 a w [(3,pt W 0)] (Blk W 158 [t]::Row 144 dC t u::Fo) rs (sM u=some r)) ?_ ?_
  ·refine sp 1 E z λa E=>lb2 E H 3 U3 z λa E=>nt<|wB<|sq<|pn 2 E z λa E=>wif E m z (λm=>?_) λm=>sq<|pn 2 E z λa E=>wif E m z (λm=>wG<|pr 2 E z λa E=>have H:=H.frs [2,3,3,3] z;bd m λf C m=>bP E (wn z) z z (bT E z z z ((cf_ 171) _)) (Gl H C)<|op0 λw H a E=>pr 1 E z λa E=>have H:=H.frs [3,2,2,3] z;bd m λg D m=>bP E (wn z) z z (bT E z z z ((cf_ 170) _)) (Gk H D)<|op0 λw H a E=>pL (e:=144) (d:=dC) (cs:=[i_ f.Kind,.string f.Dir,.string f.Path,.string f.Data,i_ f.Version,i_ f.Owner,.bool f.Turns,i_ g.Kind,.string g.Dir,.string g.Path,.string g.Data,i_ g.Version,i_ g.Owner,.bool g.Turns]) (xs:=[f,g]) E H (wn z) z z z (E.evs z) (by kernel_rfl) z z (λok hr=>(Rows.append (Rows.single (d:=dC) (cs:=[i_ f.Kind,.string f.Dir,.string f.Path,.string f.Data,i_ f.Version,i_ f.Owner,.bool f.Turns]) (x:=f) lC) (Rows.single (d:=dC) (cs:=[i_ g.Kind,.string g.Dir,.string g.Path,.string g.Data,i_ g.Version,i_ g.Owner,.bool g.Turns]) (x:=g) lC))) λb3 w a H E=>have H:=H.thaw (i:=0) z;have H:=H.nilRow 144 dC;have H:=H.frs [3,3,3,3,4] z;bd m λb4 F m=>bP E (wn z) z z (bT E z z z ((cf_ 168) _)) (D7 H m0 F)<|op1 λb5 w H a E=>wN<|bR<|aA<|have H:=H.drs [2,2,2];X3 ⟨E.to z,H,(Y1 Y0),m⟩) λm=>sq<|pn 2 E z λa E=>wif E m z (λm=>sp 1 E z λa E=>have H:=H.frs [2,3,3,3] z;bd m λb G m=>bP E (wn z) z z (bT E z z z ((cf_ 171) _)) (Gl H G)<|op0 λw H a E=>al2 E H z Ir λb6 w a H E=>ss 0 E H z iX z λw H=>xp 1 E z λa E=>lb2 E H 3 U9 z λa E=>pr 1 E z λa E=>ss 0 E H z sz9 z λw H=>nt<|wG<|pr 1 E z λa E=>ln 0 [i_ b.Kind,.string b.Dir,.string b.Path,.string x1.Data,i_ b.Version,i_ b.Owner,.bool b.Turns] E H sX z iX λa E=>pL (e:=144) (d:=dC) (cs:=[i_ b.Kind,.string b.Dir,.string b.Path,.string x1.Data,i_ b.Version,i_ b.Owner,.bool b.Turns]) (xs:=[(⟨b.Kind,b.Dir,b.Path,x1.Data,b.Version,b.Owner,b.Turns⟩:bL)]) E H (wn z) z z z (E.evs z) (by kernel_rfl) z z (λok hr=>(Rows.single (d:=dC) (cs:=[i_ b.Kind,.string b.Dir,.string b.Path,.string x1.Data,i_ b.Version,i_ b.Owner,.bool b.Turns]) (x:=(⟨b.Kind,b.Dir,b.Path,x1.Data,b.Version,b.Owner,b.Turns⟩:bL)) lC)) λb7 w a H E=>have H:=H.thaw (i:=0) z;have H:=H.nilRow 144 dC;have H:=H.frs [4,4,4,4,4,5] z;bd m λb8 I m=>bP E (wn z) z z (bT E z z z ((cf_ 168) _)) (D7 H m0 I)<|op1 λb9 w H a E=>wN<|bR<|aA<|have H:=H.drs [2,2,2,2];X3 ⟨E.to z,H,(Y1 Y0),m⟩) λm=>sq<|pn 2 E z λa E=>wif E m z (λm=>wG<|pr 2 E z λa E=>have H:=H.frs [2,3,3,3] z;bd m λj J m=>bP E (wn z) z z (bT E z z z ((cf_ 171) _)) (Gl H J)<|op0 λw H a E=>pL (e:=144) (d:=dC) (cs:=[i_ j.Kind,.string j.Dir,.string j.Path,.string j.Data,i_ j.Version,i_ j.Owner,.bool j.Turns]) (xs:=[j]) E H (wn z) z z z (E.evs z) (by kernel_rfl) z z (λok hr=>(Rows.single (d:=dC) (cs:=[i_ j.Kind,.string j.Dir,.string j.Path,.string j.Data,i_ j.Version,i_ j.Owner,.bool j.Turns]) (x:=j) lC)) λc0 w a H E=>have H:=H.thaw (i:=0) z;have H:=H.nilRow 144 dC;have H:=H.frs [3,3,3,3,4] z;bd m λc1 K m=>bP E (wn z) z z (bT E z z z ((cf_ 168) _)) (D7 H m0 K)<|op1 λc2 w H a E=>wN<|bR<|aA<|have H:=H.drs [2,2,2];X3 ⟨E.to z,H,(Y1 Y0),m⟩) λm=>sq<|pn 2 E z λa E=>wif E m z (λm=>wG<|pr 1 E z λa E=>lb2 E H 0 Ye z λa E=>have H:=H.frs [2,1,3,3] z;bd m λk L m=>bP E (wn z) z z (bT E z z z ((cf_ 169) _)) (V6 H L)<|op0 λw H a E=>pL (e:=144) (d:=dC) (cs:=[i_ k.Kind,.string k.Dir,.string k.Path,.string k.Data,i_ k.Version,i_ k.Owner,.bool k.Turns]) (xs:=[k]) E H (wn z) z z z (E.evs z) (by kernel_rfl) z z (λok hr=>(Rows.single (d:=dC) (cs:=[i_ k.Kind,.string k.Dir,.string k.Path,.string k.Data,i_ k.Version,i_ k.Owner,.bool k.Turns]) (x:=k) lC)) λc3 w a H E=>have H:=H.thaw (i:=0) z;have H:=H.nilRow 144 dC;have H:=H.frs [3,3,3,3,4] z;bd m λc4 M m=>bP E (wn z) z z (bT E z z z ((cf_ 168) _)) (D7 H m0 M)<|op1 λc5 w H a E=>wN<|bR<|aA<|have H:=H.drs [2,2,2];X3 ⟨E.to z,H,(Y1 Y0),m⟩) λm=>sq<|pn 2 E z λa E=>wif E m z (λm=>wG<|pr 1 E z λa E=>lb2 E H 0 Ye z λa E=>have H:=H.frs [2,1,3,3] z;bd m λl N m=>bP E (wn z) z z (bT E z z z ((cf_ 169) _)) (V6 H N)<|op0 λw H a E=>pr 1 E z λa E=>have H:=H.frs [3,3,2,3] z;bd m λn O m=>bP E (wn z) z z (bT E z z z ((cf_ 170) _)) (Gk H O)<|op0 λw H a E=>pL (e:=144) (d:=dC) (cs:=[i_ l.Kind,.string l.Dir,.string l.Path,.string l.Data,i_ l.Version,i_ l.Owner,.bool l.Turns,i_ n.Kind,.string n.Dir,.string n.Path,.string n.Data,i_ n.Version,i_ n.Owner,.bool n.Turns]) (xs:=[l,n]) E H (wn z) z z z (E.evs z) (by kernel_rfl) z z (λok hr=>(Rows.append (Rows.single (d:=dC) (cs:=[i_ l.Kind,.string l.Dir,.string l.Path,.string l.Data,i_ l.Version,i_ l.Owner,.bool l.Turns]) (x:=l) lC) (Rows.single (d:=dC) (cs:=[i_ n.Kind,.string n.Dir,.string n.Path,.string n.Data,i_ n.Version,i_ n.Owner,.bool n.Turns]) (x:=n) lC))) λc6 w a H E=>have H:=H.thaw (i:=0) z;have H:=H.nilRow 144 dC;have H:=H.frs [3,3,3,3,4] z;bd m λc7 P m=>bP E (wn z) z z (bT E z z z ((cf_ 168) _)) (D7 H m0 P)<|op1 λc8 w H a E=>wN<|bR<|aA<|have H:=H.drs [2,2,2];X3 ⟨E.to z,H,(Y1 Y0),m⟩) λm=>sq<|pn 2 E z λa E=>wif E m z (λm=>wG<|pr 1 E z λa E=>lb2 E H 0 Ye z λa E=>have H:=H.frs [2,1,3,3] z;bd m λo Q m=>bP E (wn z) z z (bT E z z z ((cf_ 169) _)) (V6 H Q)<|op0 λw H a E=>pr 1 E z λa E=>have H:=H.frs [3,3,2,3] z;bd m λp R m=>bP E (wn z) z z (bT E z z z ((cf_ 170) _)) (Gk H R)<|op0 λw H a E=>pL (e:=144) (d:=dC) (cs:=[i_ o.Kind,.string o.Dir,.string o.Path,.string o.Data,i_ o.Version,i_ o.Owner,.bool o.Turns,i_ p.Kind,.string p.Dir,.string p.Path,.string p.Data,i_ p.Version,i_ p.Owner,.bool p.Turns]) (xs:=[o,p]) E H (wn z) z z z (E.evs z) (by kernel_rfl) z z (λok hr=>(Rows.append (Rows.single (d:=dC) (cs:=[i_ o.Kind,.string o.Dir,.string o.Path,.string o.Data,i_ o.Version,i_ o.Owner,.bool o.Turns]) (x:=o) lC) (Rows.single (d:=dC) (cs:=[i_ p.Kind,.string p.Dir,.string p.Path,.string p.Data,i_ p.Version,i_ p.Owner,.bool p.Turns]) (x:=p) lC))) λc9 w a H E=>have H:=H.thaw (i:=0) z;have H:=H.nilRow 144 dC;have H:=H.frs [3,3,3,3,4] z;bd m λd0 S m=>bP E (wn z) z z (bT E z z z ((cf_ 168) _)) (D7 H m0 S)<|op1 λd1 w H a E=>wN<|bR<|aA<|have H:=H.drs [2,2,2];X3 ⟨E.to z,H,(Y1 Y0),m⟩) λm=>wK<|bR<|aA<|have H:=H.nilRow 144 dC;have H:=H.drs [1,1,2];have H:=H.frs [0,1] z;X3 ⟨E.to z,H,Y0,m⟩;refine sq<|lb2 E H 0 Ye z λa E=>have H:=H.frs [2,1,3,3] z;bd m λc y m=>bP E (wn z) z z (bT E z z z ((cf_ 169) _)) (V6 H y)<|op0 λw H a E=>al2 E H z Ir λZ w a H E=>ss 0 E H z iX z λw H=>nt<|wS<|dz [0,0,0,0,0,0,0,1,0,1,2,2] [2] H λw W0 hI H=>fn 1 E z λa E=>fb2 E m0 U9 z λa E=>fn 1 E z λa E=>fb2 E m0 U2 z λa E=>fn 1 E z λa E=>fb2 E m0 U4 z λa E=>fn 1 E z λa E=>bO z<|ss 0 E H z sz9 z λw H=>nt<|⟨sx H [2] z,fn 1 E z λa E=>bO z<|ss 0 E H z sz2 z λw H=>nt<|⟨sx H [2] z,bJ z<|pn 1 E z λa E=>bJ z<|ss 0 E H z sz4 z λw H=>nt<|bF<|?_⟩⟩
   clear hI;refine aA<|dw [(0,0),(1,0),(3,0),(5,0),(2,1),(4,0),(6,1),(7,1)] [0,1] [] H (by kernel_rfl) (λ_ _ _ h=>False.elim h.2) λw W0 hI H=>fn 1 E z λa E=>fb2 E mm1 U9 z λa E=>fb2 E mm1 U9 z λa E=>fbn E [i_ c.Kind,.string c.Dir,.string c.Path,.string x1.Data,i_ c.Version,i_ x1.Owner,.bool x1.Turns] z (wn z) z z z z m0 z sX z iX λa E=>bO z<|bd m λq A m=>xk2 E z (cf_ 159) (Lx H A) λw H a E=>nt<|⟨sx H [0,1] z,fv E z (λw hW=>(cP E z (E.evs z) (v:=.agg #[i_ 1,.string q,.string s,.string (ByteArray.mk #[]),i_ 0,i_ 0,.bool false]) (by kernel_rfl))) λa E=>bO z<|pL (e:=144) (d:=dC) (cs:=[i_ 1,.string q,.string s,.string (ByteArray.mk #[]),i_ 0,i_ 0,.bool false,i_ c.Kind,.string c.Dir,.string c.Path,.string x1.Data,i_ c.Version,i_ x1.Owner,.bool x1.Turns]) (xs:=[(⟨1,q,s,(ByteArray.mk #[]),0,0,false⟩:bL),(⟨c.Kind,c.Dir,c.Path,x1.Data,c.Version,x1.Owner,x1.Turns⟩:bL)]) E H (wn z) z z z (E.evs z) (by kernel_rfl) z z (λok hr=>(Rows.append (Rows.single (d:=dC) (cs:=[i_ 1,.string q,.string s,.string (ByteArray.mk #[]),i_ 0,i_ 0,.bool false]) (x:=(⟨1,q,s,(ByteArray.mk #[]),0,0,false⟩:bL)) lC) (Rows.single (d:=dC) (cs:=[i_ c.Kind,.string c.Dir,.string c.Path,.string x1.Data,i_ c.Version,i_ x1.Owner,.bool x1.Turns]) (x:=(⟨c.Kind,c.Dir,c.Path,x1.Data,c.Version,x1.Owner,x1.Turns⟩:bL)) lC))) λb0 w a H E=>nt<|⟨sx H [1,2] z,bO z<|have H:=H.thaw (i:=0) z;have H:=H.nilRow 144 dC;have H:=H.frs [4,4,4,4,4,5] z;bd m λb1 B m=>bP E (wn z) z z (bT E z z z ((cf_ 168) _)) (D7 H m0 B)<|?_⟩⟩
   rintro _ w ⟨b2,rfl,H⟩ a E;refine nt<|⟨sx H [2,3] z,bF<|?_⟩
   clear hI;exact bR<|aA<|have H:=H.drs [2,2,2,2];X3 ⟨E.to z,H,(Y1 Y0),m⟩
  ·clear E H m;rintro a w ⟨t,u,Y,E,H,T,m⟩;refine sq<|lb2 E H 0 Yf z λa E=>pn 1 E z λa E=>wR<|o1 E z<|have H:=H.drop 0;?_;cases m;exact ⟨_,z,H.reads T⟩

def W5(rec_1:J3->Int->Option J3)(b:Iu)(d:Int):Nat->J3->Int->Option J3
  | 0,_,_=>none
  | f+1,c,x20=>
    if (decide (x20 < (b.length:Int)))=true then ((idx b x20).bind λe=>(ck (c.length+([(⟨d,e⟩:dE)]:List dE).length <= LIM)).bind λg=>W5 rec_1 b d f (c ++ ([(⟨d,e⟩:dE)]:List dE)) (IntKind.i64.wrap (x20+1))) else (rec_1 c (IntKind.i64.wrap (d+1)))
def K5(c:List fO):Nat->J3->Int->Option J3
  | 0,_,_=>none
  | g+1,e,d=>
    if (decide (d < (c.length:Int)))=true then ((idx c d).bind λf=>(Ly f).bind λb=>W5 (K5 c g) b d (((b.length:Int) - 0:Int).toNat+1) e 0) else (some (e))
def Iz(b:List fO):Option J3:=
  (Gj b).bind λc=>if (!c)=true then (some ([])) else (K5 b (((b.length:Int) - 0:Int).toNat+1) [] 0)
theorem DU{u:VL}{f:List fO}(H:Sep w (Fo) rs)(o:rSl Y9 u f ∈ rs){r:J3}(m:Iz f=some r) :
    Cf 49 [u] w λv w'=>∃ G,G=v/\Sep w' (Row 146 bU G r::Fo) (rs):=by
 refine ent func49 z ntmps49 z z λa E=>sq<|pn 1 E z λa E=>wS<|sp 1 E z λa E=>bd m λS I m=>xk2 E z (cf_ 99) (AW H o I) λw H a E=>pn 1 E z λa E=>wif E m z (λm=>?_) λm=>?_
 ·refine sq<|pn 1 E z λa E=>wR<|aJ<|o1 E z<|have H:=H.nilRow 146 bU;?_;cases m;exact ⟨_,z,H.reads Y0⟩
 ·refine wK<|aA<|sq<|pn 1 E z λa E=>wS<|sp 1 E z λa E=>lS E H o U94 z λa E=>pn 1 E z λa E=>wB<|bK (λg a w=>∃ A B c,Jn 34 a w [(3,A),(11,u),(12,i_ (f.length:Int)),(13,i_ c)] (Row 146 bU A B::Fo) rs (K5 f g B c=some r)) (((f.length:Int) - 0:Int).toNat+1) (have H:=H.nilRow 146 bU;X4 ⟨E.to z,H,Y0,m⟩) ?_;clear E H m;rintro g a w ⟨A,B,c,L,E,H,j,m⟩;cases g with
  | zero=>exact (bH m z).elim
  | succ g=>
   unfold K5 at m;refine sq<|pn 1 E z λa E=>wS<|wif E m z (λm=>?_) λm=>?_
   ·refine wK<|aA<|wS<|wB<|sp 1 E z λa E=>bd m λJ C m=>dH E H (wn z) z z z z z (j _ o) U94 Ln C λq13 a H E=>ldf Jy E H z z z z z m0 U93 z Ln λa E=>al2 E H z WA λM w a H E=>pr 1 E z λa E=>ss 0 E H z Ln z λw H=>nx<|ln 0 (vY J) E H U93 z Ln λa E=>bd m λl D m=>xc2 E z (cf_ 100) (GD H D)<|op1 λy w H a E=>sv2 E z (lF (i:=0) E H z z z Yf) λa E=>pn 1 E z λa E=>wB<|bK (λn a w=>∃ p q x20,Jn 34 a w [(3,p),(4,i_ c),(11,u),(12,i_ (f.length:Int)),(13,i_ c),(19,y),(20,i_ (l.length:Int)),(21,i_ x20)] (Row 146 bU p q::Row 144 dC y l::Fo) rs (W5 (K5 f g) l c n q x20=some r)) (((l.length:Int) - 0:Int).toNat+1) (have H:=H.drop 1;have H:=H.frs [0,1] z;X4 ⟨E.to z,H,(Y1 j),m⟩) ?_;clear E H m;rintro n a w ⟨p,q,x20,K,E,H,s,m⟩;cases n with
    | zero=>exact (bH m z).elim
    | succ n=>
     unfold W5 at m;refine sq<|pn 1 E z λa E=>wS<|wif E m z (λm=>?_) λm=>wX<|aW<|aW<|cR<|bR<|aA<|wG<|pn 2 E z λa E=>have H:=H.drop 1;⟨g,nL g,X4 ⟨E.to z,H,s,m⟩⟩;refine wK<|aA<|wS<|wB<|sq<|bd m λb k m=>?_;obtain ⟨N,O,t⟩:=H.rowformNE (i:=1) z k;exact sv2 E z (dS (d:=dC) E t z z z z Yf iX k) λa E=>sv2 E z (lG (i:=1) E H Fm t z z z k (us:=[i_ b.Kind,.string b.Dir,.string b.Path,.string b.Data,i_ b.Version,i_ b.Owner,.bool b.Turns]) z sX z iX) λa E=>al2 E H z Ir λP w a H E=>ss 0 E H z iX z λw H=>nt<|wG<|pr 2 E z λa E=>ln 0 (cI b) E H sX z iX λa E=>sv2 E z (cP E z (E.evs z) (v:=.agg #[i_ c,i_ b.Kind,.string b.Dir,.string b.Path,.string b.Data,i_ b.Version,i_ b.Owner,.bool b.Turns]) (by kernel_rfl)) λa E=>tE (e:=146) (d:=bU) (cs:=[i_ c,i_ b.Kind,.string b.Dir,.string b.Path,.string b.Data,i_ b.Version,i_ b.Owner,.bool b.Turns]) (xs:=[(⟨c,b⟩:dE)]) E H (wn z) z z z (E.evs z) (by kernel_rfl) z (λok hr=>(Rows.single (d:=bU) (cs:=[i_ c,i_ b.Kind,.string b.Dir,.string b.Path,.string b.Data,i_ b.Version,i_ b.Owner,.bool b.Turns]) (x:=(⟨c,b⟩:dE)) Hh)) λQ w a H E=>bk m λF m=>gG (i:=1) E H (wn z) z z z z z z (qS m0) U42 RA z F z λR w a H E=>pr 1 E z λa E=>wN<|bR<|aA<|wG<|pr 2 E z λa E=>nt<|have H:=H.drop 0;⟨n,nL n,X4 ⟨E.to z,H,(Y1 s),m⟩⟩
   ·refine wX<|aW<|aW<|cR<|aA<|sq<|pn 2 E z λa E=>wR<|o1 E z<|?_;cases m;exact ⟨_,z,H.reads j⟩

def yL(x1:Int)(b:Int)(x3:Int):Option Bool:=
  if (decide (x1 ≥ b))=true then (some (decide (x1 <= x3))) else (some (false))
theorem Dg{x1 c x3:Int}(H:Sep w (Fo) rs){r:Bool}(m:yL x1 c x3=some r) :
    Cf 57 [i_ x1,i_ c,i_ x3] w λv w'=>.bool r=v/\Sep w' (Fo) (rs):=ent func57 z ntmps57 z z λa E=>sp 1 E z λa E=>xp 4 E z λa E=>cs m (λb m=>pk 5 E (kc 10 z b) z λa E=>nt<|wR<|o1 E z<|d_ m z (H.reads Y0)) λb m=>pk 5 E (kc 10 z b) z λa E=>nt<|wR<|o1 E z<|d_ m z (H.reads Y0)

def A2(d:BY)(e:BY)(x3:Int)(x4:Int)(f:Int):Option Bool:=
  (gM d).bind λg=>if g=true then (if (decide ((e.size:Int) <= 256))=true then ((yL x3 x4 281474976710656).bind λb=>if b=true then ((yL f 0 1099511627776).bind λc=>some (c)) else (some (false))) else (some (false))) else (some (false))
theorem Ka{g i:BY}{x3 x4 j:Int}(H:Sep w (Fo) rs){r:Bool}(m:A2 g i x3 x4 j=some r) :
    Cf 53 [.string g,.string i,i_ x3,i_ x4,i_ j] w λv w'=>.bool r=v/\Sep w' (Fo) (rs):=ent func53 z ntmps53 z z λa E=>sp 1 E z λa E=>xp 1 E z λa E=>bd m λo k m=>xk2 E z (cf_ 56) (lK H k) λw H a E=>pr 1 E z λa E=>cs m (λd m=>pk 5 E (kc 13 z d) z λa E=>cs m (λc m=>pk 2 E (kc 18 z c) z λa E=>bd m λl e m=>gc 18 E c z (cf_ 57) (Dg H e)<|op0 λw H a E=>pk 2 E (kc 18 z c) z λa E=>cs m (λb m=>pk 1 E (kc 23 z b) z λa E=>bd m λn f m=>gc 23 E b z (cf_ 57) (Dg H f)<|op0 λw H a E=>pk 2 E (kc 23 z b) z λa E=>nt<|wR<|o1 E z<|d_ m z (H.reads Y0)) λb m=>pk 4 E (kc 23 z b) z λa E=>nt<|wR<|o1 E z<|d_ m z (H.reads Y0)) λc m=>pk 9 E (kc 18 z c) z λa E=>nt<|wR<|o1 E z<|d_ m z (H.reads Y0)) λd m=>pk 14 E (kc 13 z d) z λa E=>nt<|wR<|o1 E z<|d_ m z (H.reads Y0)

def A3(x1:bL)(b:BY):Option Bool:=
  (A2 x1.Path x1.Data x1.Version (-1) x1.Owner).bind λc=>if c=true then (if (sEq x1.Dir b)=true then (if (decide (x1.Kind ≥ 1))=true then (if (decide (x1.Kind <= 10))=true then (if (x1.Kind != 2)=true then (some (true)) else (some (!(sEq x1.Path (ByteArray.mk #[47]))))) else (some (false))) else (some (false))) else (some (false))) else (some (false))
def A4(x1:bL)(c:BY)(b:Bool):Option Bool:=
  if b=true then (A3 x1 x1.Path) else (A3 x1 c)
def S7(x1:bL):Option Bool:=
  (P4 x1.Path).bind λb=>if (x1.Kind == 4)=true then (A4 x1 b true) else (if (x1.Kind == 9)=true then (A4 x1 b true) else (A4 x1 b (x1.Kind == 10)))
theorem Sz{x1:bL}(H:Sep w (Fo) rs){r:Bool}(m:S7 x1=some r) :
    Cf 89 [.agg (cI x1).toArray] w λv w'=>.bool r=v/\Sep w' (Fo) (rs):=by
 refine ent func89 z ntmps89 z z λa E=>sq<|bx E H z λn w a H E=>pr 1 E z λa E=>xp 1 E z λa E=>lb2 E H 0 U9 z λa E=>bd m λp q m=>xk2 E z (cf_ 159) (Lx H q) λw H a E=>pn 1 E z λa E=>aN (λa w=>∃ o,Jn 57 a w [(1,pt n 0),(3,.string o)] (Blk n 144 (cI x1)::Fo) rs (A3 x1 o=some r)) ?_ ?_
 ·refine aN (λa w=>∃ k,Jn 57 a w [(1,pt n 0),(3,.string p),(19,.bool k)] (Blk n 144 (cI x1)::Fo) rs (A4 x1 p k=some r)) (wG<|pr 1 E z λa E=>lb2 E H 0 U3 z λa E=>pr 2 E z λa E=>cs m (λc m=>pk 9 E (kc 10 z c) z λa E=>nt<|⟨_,_,E.to z,H,Y0,m⟩) λc m=>pk 1 E (kc 10 z c) z λa E=>gl 10 E H 0 c U3 z λa E=>pk 3 E (kc 10 z c) z λa E=>cs m (λd m=>pk 4 E (kc 15 z d) z λa E=>nt<|⟨_,_,E.to z,H,Y0,m⟩) λd m=>pk 1 E (kc 15 z d) z λa E=>gl 15 E H 0 d U3 z λa E=>pk 2 E (kc 15 z d) z λa E=>nt<|⟨_,_,E.to z,H,Y0,m⟩) ?_;clear E H m;rintro a w ⟨k,t,E,H,l,m⟩;exact wif E m z (λm=>wG<|pr 1 E z λa E=>lb2 E H 0 U9 z λa E=>pn 1 E z λa E=>⟨_,_,E.to z,H,l,m⟩) λm=>wK<|aA<|⟨_,_,E.to z,H,l,m⟩
 ·clear E H m;rintro a w ⟨o,u,E,H,j,m⟩;exact sp 1 E z λa E=>lb2 E H 0 U9 z λa E=>pr 1 E z λa E=>lb2 E H 0 U9 z λa E=>pr 1 E z λa E=>lb2 E H 0 U2 z λa E=>pr 1 E z λa E=>lb2 E H 0 U2 z λa E=>bd m λx s m=>xk2 E z (cf_ 53) (Ka H s) λw H a E=>pr 1 E z λa E=>cs m (λe m=>pk 1 E (kc 31 z e) z λa E=>gl 31 E H 0 e U9 z λa E=>pk 4 E (kc 31 z e) z λa E=>cs m (λf m=>pk 1 E (kc 37 z f) z λa E=>gl 37 E H 0 f U3 z λa E=>pk 3 E (kc 37 z f) z λa E=>cs m (λg m=>pk 1 E (kc 42 z g) z λa E=>gl 42 E H 0 g U3 z λa E=>pk 3 E (kc 42 z g) z λa E=>cs m (λb m=>pk 1 E (kc 47 z b) z λa E=>gl 47 E H 0 b U3 z λa E=>pk 2 E (kc 47 z b) z λa E=>cs m (λi m=>pk 6 E (kc' (kc 51 z i) 47 z b) z λa E=>nt<|wR<|o1 E z<|have H:=H.drop 0;d_ m z (H.reads j)) λi m=>pk 1 E (kc 51 z i) z λa E=>gl 51 E H 0 i U9 z λa E=>pk 4 E (kc' (kc 51 z i) 47 z b) z λa E=>nt<|wR<|o1 E z<|have H:=H.drop 0;d_ m z (H.reads j)) λb m=>pk 10 E (kc 47 z b) z λa E=>nt<|wR<|o1 E z<|have H:=H.drop 0;d_ m z (H.reads j)) λg m=>pk 15 E (kc 42 z g) z λa E=>nt<|wR<|o1 E z<|have H:=H.drop 0;d_ m z (H.reads j)) λf m=>pk 20 E (kc 37 z f) z λa E=>nt<|wR<|o1 E z<|have H:=H.drop 0;d_ m z (H.reads j)) λe m=>pk 26 E (kc 31 z e) z λa E=>nt<|wR<|o1 E z<|have H:=H.drop 0;d_ m z (H.reads j)

def F3(x1:aH):Option BY:=
  some (x1.Path)
theorem Hl{x1:aH}(H:Sep w (Fo) rs){r:BY}(m:F3 x1=some r) :
    Cf 59 [.agg (nR x1).toArray] w λv w'=>.string r=v/\Sep w' (Fo) (rs):=ent func59 z ntmps59 z z λa E=>sq<|bx E H z λb w a H E=>pr 1 E z λa E=>xp 1 E z λa E=>lb2 E H 0 U9 z λa E=>pn 1 E z λa E=>wR<|o1 E z<|have H:=H.drop 0;d_ m z (H.reads Y0)

def oQ(rec_1:Int->Option Bool)(x4:Int)(b:Bool):Option Bool:=
  if b=true then (some (false)) else (rec_1 (IntKind.i64.wrap (x4+1)))
def fZ(b:List aH):Nat->Int->Option Bool
  | 0,_=>none
  | c+1,x4=>
    if (decide (x4 < (b.length:Int)))=true then (if (decide (x4 > 0))=true then ((idx b (IntKind.i64.wrap (x4 - 1))).bind λd=>(idx b x4).bind λe=>(F3 d).bind λf=>(F3 e).bind λg=>oQ (fZ b c) x4 (!(sLt f g))) else (oQ (fZ b c) x4 false)) else (some (true))
def wU(b:List aH):Option Bool:=
  fZ b (((b.length:Int) - 0:Int).toNat+1) 0
theorem Gm{j:VL}{f:List aH}(H:Sep w (Fo) rs)(l:rSl aB j f ∈ rs){r:Bool}(m:wU f=some r) :
    Cf 58 [j,.func (.func 59) #[] #[]] w λv w'=>.bool r=v/\Sep w' (Fo) (rs):=by
 refine ent func58 z ntmps58 z z λa E=>sq<|pn 1 E z λa E=>wS<|sp 1 E z λa E=>lS E H l U22 z λa E=>pr 1 E z λa E=>nt<|wB<|bK (λg a w=>∃ x4,Jn 30 a w [(0,j),(1,.func (.func 59) #[] #[]),(7,i_ (f.length:Int)),(8,i_ x4)] (Fo) rs (fZ f g x4=some r)) (((f.length:Int) - 0:Int).toNat+1) (⟨_,_,E.to z,H,Y0,m⟩) ?_;clear E H m;rintro g a w ⟨x4,B,E,H,i,m⟩;cases g with
 | zero=>exact (bH m z).elim
 | succ g=>
  unfold fZ at m;refine sq<|pn 1 E z λa E=>wS<|wif E m z (λm=>?_) λm=>wX<|aW<|aW<|cR<|aA<|sq<|pn 1 E z λa E=>wR<|o1 E z<|d_ m z (H.reads i);refine wK<|aA<|wS<|wB<|sq<|pn 2 E z λa E=>aN (λa w=>∃ o,Jn 30 a w [(0,j),(1,.func (.func 59) #[] #[]),(7,i_ (f.length:Int)),(8,i_ x4),(28,.bool o)] (Fo) rs (oQ (fZ f g) x4 o=some r)) ?_ ?_
  ·obtain ⟨C,H⟩:=H.raw (i _ l);refine dw [(0,0),(1,0),(2,0),(3,0),(4,0),(5,0),(6,0),(7,0),(8,0),(10,0),(11,0),(12,0),(13,0),(14,0),(9,1),(15,1),(16,0),(17,0)] [] [0] H (by kernel_rfl) (λ_ _ _ h=>False.elim h.2) λw W0 hI H=>fn 3 E z λa E=>cs m (λb m=>?_) λb m=>?_
   ·refine fk 4 E (kc 13 z b) z λa E=>bd m λc p m=>?_;obtain ⟨q14,D,q,s⟩:=eU (P:=Tryz.prog) (k:=.i64) hI (eT (.head _)) U22 iL p;refine dU E z (ws' (d:=13) E z z z z b) z z (λw hW=>gL E z z z (q w)) λa E=>dU E z (ws' (d:=13) E z z z z b) z z (λw hW=>kT E z z (xA (cs:=[.string c.Path,.string c.Data,i_ c.Version,i_ c.Turn,i_ c.Owner]) (DR.ir (r9 s)) (λ_ _ _ h=>rJ h) U80 z iL w hW)) λa E=>fk 3 E (kc 13 z b) z λa E=>bd m λe t m=>?_;obtain ⟨q20,F,u,x⟩:=eU (P:=Tryz.prog) (k:=.i64) hI (eT (.head _)) U22 iL t;refine dU E z (ws' (d:=13) E z z z z b) z z (λw hW=>gL E z z z (u w)) λa E=>dU E z (ws' (d:=13) E z z z z b) z z (λw hW=>kT E z z (xA (cs:=[.string e.Path,.string e.Data,i_ e.Version,i_ e.Turn,i_ e.Owner]) (DR.ir (r9 x)) (λ_ _ _ h=>rJ h) U80 z iL w hW)) λa E=>bO z<|bd m λG y m=>bP E (ws' (d:=13) E z z z z b) z z (bT E z z z ((cf_ 59) _)) (Hl H y)<|op0 λw H a E=>nt<|⟨⟨_,_,H,(aM),(aD m0 (aP))⟩,bO z<|bd m λI A m=>bP E (ws' (d:=13) E z z z z b) z z (bT E z z z ((cf_ 59) _)) (Hl H A)<|?_⟩
    rintro _ w ⟨rfl,H⟩ a E;refine nt<|⟨⟨_,_,H,(aM),(aD m0 (aP))⟩,fk 2 E (kc 13 z b) z λa E=>bF<|?_⟩
    clear hI;exact aA<|⟨_,_,E.to z,H,(Y1 i),m⟩
   refine fk 11 E (kc 13 z b) z λa E=>bO z<|pk 1 E (kc 13 z b) z λa E=>nt<|⟨⟨_,_,H,(aM),(aD m0 (aP))⟩,bO z<|pk 1 E (kc 13 z b) z λa E=>nt<|⟨⟨_,_,H,(aM),(aD m0 (aP))⟩,fk 2 E (kc 13 z b) z λa E=>bF<|?_⟩⟩
   clear hI;exact aA<|⟨_,_,E.to z,H,(Y1 i),m⟩
  ·clear E H m;rintro a w ⟨o,J,E,H,n,m⟩;exact wif E m z (λm=>sq<|pn 1 E z λa E=>wR<|bM<|aJ<|aJ<|bM<|aJ<|o1 E z<|d_ m z (H.reads n)) λm=>wK<|bR<|aA<|wG<|pn 2 E z λa E=>⟨g,nL g,_,_,E.to z,H,n,m⟩

def F4(x1:aQ):Option BY:=
  some (x1.Dir)
theorem Hm{x1:aQ}(H:Sep w (Fo) rs){r:BY}(m:F4 x1=some r) :
    Cf 61 [.agg #[.string x1.Dir,i_ x1.Next]] w λv w'=>.string r=v/\Sep w' (Fo) (rs):=ent func61 z ntmps61 z z λa E=>sq<|bx E H z λb w a H E=>pr 1 E z λa E=>xp 1 E z λa E=>lb2 E H 0 U9 z λa E=>pn 1 E z λa E=>wR<|o1 E z<|have H:=H.drop 0;d_ m z (H.reads Y0)

def oR(rec_1:Int->Option Bool)(x4:Int)(b:Bool):Option Bool:=
  if b=true then (some (false)) else (rec_1 (IntKind.i64.wrap (x4+1)))
def gA(b:List aQ):Nat->Int->Option Bool
  | 0,_=>none
  | c+1,x4=>
    if (decide (x4 < (b.length:Int)))=true then (if (decide (x4 > 0))=true then ((idx b (IntKind.i64.wrap (x4 - 1))).bind λd=>(idx b x4).bind λe=>(F4 d).bind λf=>(F4 e).bind λg=>oR (gA b c) x4 (!(sLt f g))) else (oR (gA b c) x4 false)) else (some (true))
def wV(b:List aQ):Option Bool:=
  gA b (((b.length:Int) - 0:Int).toNat+1) 0
theorem Gn{g:VL}{c:List aQ}(H:Sep w (Fo) rs)(i:rSl aC g c ∈ rs){r:Bool}(m:wV c=some r) :
    Cf 60 [g,.func (.func 61) #[] #[]] w λv w'=>.bool r=v/\Sep w' (Fo) (rs):=by
 refine ent func60 z ntmps60 z z λa E=>sq<|pn 1 E z λa E=>wS<|sp 1 E z λa E=>lS E H i U23 z λa E=>pr 1 E z λa E=>nt<|wB<|bK (λe a w=>∃ x4,Jn 30 a w [(0,g),(1,.func (.func 61) #[] #[]),(7,i_ (c.length:Int)),(8,i_ x4)] (Fo) rs (gA c e x4=some r)) (((c.length:Int) - 0:Int).toNat+1) (⟨_,_,E.to z,H,Y0,m⟩) ?_;clear E H m;rintro e a w ⟨x4,B,E,H,f,m⟩;cases e with
 | zero=>exact (bH m z).elim
 | succ e=>
  unfold gA at m;refine sq<|pn 1 E z λa E=>wS<|wif E m z (λm=>?_) λm=>wX<|aW<|aW<|cR<|aA<|sq<|pn 1 E z λa E=>wR<|o1 E z<|d_ m z (H.reads f);refine wK<|aA<|wS<|wB<|sq<|pn 2 E z λa E=>aN (λa w=>∃ o,Jn 30 a w [(0,g),(1,.func (.func 61) #[] #[]),(7,i_ (c.length:Int)),(8,i_ x4),(28,.bool o)] (Fo) rs (oR (gA c e) x4 o=some r)) ?_ ?_
  ·obtain ⟨C,H⟩:=H.raw (f _ i);refine dw [(0,0),(1,0),(2,0),(3,0),(4,0),(5,0),(6,0),(7,0),(8,0),(10,0),(11,0),(12,0),(13,0),(14,0),(9,1),(15,1),(16,0),(17,0)] [] [0] H (by kernel_rfl) (λ_ _ _ h=>False.elim h.2) λw W0 hI H=>fn 3 E z λa E=>cs m (λb m=>?_) λb m=>?_
   ·refine fk 4 E (kc 13 z b) z λa E=>bd m λj p m=>?_;obtain ⟨q14,D,q,s⟩:=eU (P:=Tryz.prog) (k:=.i64) hI (eT (.head _)) U23 nU p;refine dU E z (ws' (d:=13) E z z z z b) z z (λw hW=>gL E z z z (q w)) λa E=>dU E z (ws' (d:=13) E z z z z b) z z (λw hW=>kT E z z (xA (cs:=[.string j.Dir,i_ j.Next]) (DR.ir (r9 s)) (λ_ _ _ h=>tX h) U71 z nU w hW)) λa E=>fk 3 E (kc 13 z b) z λa E=>bd m λl t m=>?_;obtain ⟨q20,F,u,x⟩:=eU (P:=Tryz.prog) (k:=.i64) hI (eT (.head _)) U23 nU t;refine dU E z (ws' (d:=13) E z z z z b) z z (λw hW=>gL E z z z (u w)) λa E=>dU E z (ws' (d:=13) E z z z z b) z z (λw hW=>kT E z z (xA (cs:=[.string l.Dir,i_ l.Next]) (DR.ir (r9 x)) (λ_ _ _ h=>tX h) U71 z nU w hW)) λa E=>bO z<|bd m λG y m=>bP E (ws' (d:=13) E z z z z b) z z (bT E z z z ((cf_ 61) _)) (Hm H y)<|op0 λw H a E=>nt<|⟨⟨_,_,H,(aM),(aD m0 (aP))⟩,bO z<|bd m λI A m=>bP E (ws' (d:=13) E z z z z b) z z (bT E z z z ((cf_ 61) _)) (Hm H A)<|?_⟩
    rintro _ w ⟨rfl,H⟩ a E;refine nt<|⟨⟨_,_,H,(aM),(aD m0 (aP))⟩,fk 2 E (kc 13 z b) z λa E=>bF<|?_⟩
    clear hI;exact aA<|⟨_,_,E.to z,H,(Y1 f),m⟩
   refine fk 11 E (kc 13 z b) z λa E=>bO z<|pk 1 E (kc 13 z b) z λa E=>nt<|⟨⟨_,_,H,(aM),(aD m0 (aP))⟩,bO z<|pk 1 E (kc 13 z b) z λa E=>nt<|⟨⟨_,_,H,(aM),(aD m0 (aP))⟩,fk 2 E (kc 13 z b) z λa E=>bF<|?_⟩⟩
   clear hI;exact aA<|⟨_,_,E.to z,H,(Y1 f),m⟩
  ·clear E H m;rintro a w ⟨o,J,E,H,n,m⟩;exact wif E m z (λm=>sq<|pn 1 E z λa E=>wR<|bM<|aJ<|aJ<|bM<|aJ<|o1 E z<|d_ m z (H.reads n)) λm=>wK<|bR<|aA<|wG<|pn 2 E z λa E=>⟨e,nL e,_,_,E.to z,H,n,m⟩

def F5(x1:aH):Option Bool:=
  if (x1.Turn != 0)=true then (some (true)) else ((A2 x1.Path x1.Data x1.Version 0 x1.Owner).bind λb=>some (!b))
theorem Um{x1:aH}(H:Sep w (Fo) rs){r:Bool}(m:F5 x1=some r) :
    Cf 52 [.agg (nR x1).toArray] w λv w'=>.bool r=v/\Sep w' (Fo) (rs):=ent func52 z ntmps52 z z λa E=>sq<|bx E H z λd w a H E=>pr 1 E z λa E=>xp 1 E z λa E=>lb2 E H 0 U2 z λa E=>pr 2 E z λa E=>cs m (λb m=>pk 12 E (kc 6 z b) z λa E=>nt<|wR<|o1 E z<|have H:=H.drop 0;d_ m z (H.reads Y0)) λb m=>pk 1 E (kc 6 z b) z λa E=>gl 6 E H 0 b U9 z λa E=>pk 1 E (kc 6 z b) z λa E=>gl 6 E H 0 b U9 z λa E=>pk 1 E (kc 6 z b) z λa E=>gl 6 E H 0 b U2 z λa E=>pk 1 E (kc 6 z b) z λa E=>gl 6 E H 0 b U2 z λa E=>bd m λe c m=>gc 6 E b z (cf_ 53) (Ka H c)<|op0 λw H a E=>pk 3 E (kc 6 z b) z λa E=>nt<|wR<|o1 E z<|have H:=H.drop 0;d_ m z (H.reads Y0)

def eH(b:List aH):Nat->Int->Option Int
  | 0,_=>none
  | d+1,x4=>
    if (decide (x4 < (b.length:Int)))=true then ((idx b x4).bind λe=>(F5 e).bind λc=>if c=true then (some (x4)) else (eH b d (IntKind.i64.wrap (x4+1)))) else (some ((-1)))
def lL(b:List aH):Option Int:=
  eH b (((b.length:Int) - 0:Int).toNat+1) 0
theorem P5{f:VL}{d:List aH}(H:Sep w (Fo) rs)(e:rSl aB f d ∈ rs){r:Int}(m:lL d=some r) :
    Cf 101 [f,.func (.func 52) #[] #[]] w λv w'=>.int .i64 r=v/\Sep w' (Fo) (rs):=by
 refine ent func101 z ntmps101 z z λa E=>sq<|pn 1 E z λa E=>wS<|sp 1 E z λa E=>lS E H e U22 z λa E=>pr 1 E z λa E=>nt<|wB<|bK (λc a w=>∃ x4,Jn 19 a w [(0,f),(1,.func (.func 52) #[] #[]),(7,i_ (d.length:Int)),(8,i_ x4)] (Fo) rs (eH d c x4=some r)) (((d.length:Int) - 0:Int).toNat+1) (⟨_,_,E.to z,H,Y0,m⟩) ?_;clear E H m;rintro c a w ⟨x4,j,E,H,b,m⟩;cases c with
 | zero=>exact (bH m z).elim
 | succ c=>
  unfold eH at m;exact sq<|pn 1 E z λa E=>wS<|wif E m z (λm=>wK<|aA<|wS<|wB<|sp 2 E z λa E=>xp 3 E z λa E=>bd m λl i m=>dH E H (wn z) z z z z z (b _ e) U22 iL i λq9 a H E=>ldf cZ E H z z z z z m0 U80 z iL λa E=>bd m λk g m=>bP E (wn z) z z (bT E z z z ((cf_ 52) _)) (Um H g)<|op0 λw H a E=>nt<|wif E m z (λm=>sq<|pn 2 E z λa E=>wR<|bM<|aJ<|aJ<|bM<|aJ<|o1 E z<|d_ m z (H.reads (Y1 b))) λm=>wK<|bR<|aA<|wG<|pn 2 E z λa E=>⟨c,nL c,_,_,E.to z,H,(Y1 b),m⟩) λm=>wX<|aW<|aW<|cR<|aA<|sq<|pn 1 E z λa E=>wR<|o1 E z<|d_ m z (H.reads b)

def jK(b:List aH):Option Bool:=
  (lL b).bind λc=>some (decide (c ≥ 0))
theorem K6{b:VL}{c:List aH}(H:Sep w (Fo) rs)(d:rSl aB b c ∈ rs){r:Bool}(m:jK c=some r) :
    Cf 51 [b,.func (.func 52) #[] #[]] w λv w'=>.bool r=v/\Sep w' (Fo) (rs):=ent func51 z ntmps51 z z λa E=>sp 1 E z λa E=>xp 2 E z λa E=>bd m λf e m=>xk2 E z (cf_ 101) (P5 H d e) λw H a E=>pn 2 E z λa E=>wR<|o1 E z<|d_ m z (H.reads Y0)

def F6(x1:aQ):Option Bool:=
  (gM x1.Dir).bind λb=>if (!b)=true then (some (true)) else ((yL x1.Next 1 10000).bind λc=>some (!c))
theorem Un{x1:aQ}(H:Sep w (Fo) rs){r:Bool}(m:F6 x1=some r) :
    Cf 55 [.agg #[.string x1.Dir,i_ x1.Next]] w λv w'=>.bool r=v/\Sep w' (Fo) (rs):=ent func55 z ntmps55 z z λa E=>sq<|bx E H z λe w a H E=>pr 1 E z λa E=>xp 1 E z λa E=>lb2 E H 0 U9 z λa E=>bd m λf c m=>xk2 E z (cf_ 56) (lK H c) λw H a E=>pr 2 E z λa E=>cs m (λb m=>pk 6 E (kc 7 z b) z λa E=>nt<|wR<|o1 E z<|have H:=H.drop 0;d_ m z (H.reads Y0)) λb m=>pk 1 E (kc 7 z b) z λa E=>gl 7 E H 0 b U2 z λa E=>bd m λg d m=>gc 7 E b z (cf_ 57) (Dg H d)<|op0 λw H a E=>pk 3 E (kc 7 z b) z λa E=>nt<|wR<|o1 E z<|have H:=H.drop 0;d_ m z (H.reads Y0)

def eI(b:List aQ):Nat->Int->Option Int
  | 0,_=>none
  | d+1,x4=>
    if (decide (x4 < (b.length:Int)))=true then ((idx b x4).bind λe=>(F6 e).bind λc=>if c=true then (some (x4)) else (eI b d (IntKind.i64.wrap (x4+1)))) else (some ((-1)))
def lM(b:List aQ):Option Int:=
  eI b (((b.length:Int) - 0:Int).toNat+1) 0
theorem P6{f:VL}{d:List aQ}(H:Sep w (Fo) rs)(e:rSl aC f d ∈ rs){r:Int}(m:lM d=some r) :
    Cf 102 [f,.func (.func 55) #[] #[]] w λv w'=>.int .i64 r=v/\Sep w' (Fo) (rs):=by
 refine ent func102 z ntmps102 z z λa E=>sq<|pn 1 E z λa E=>wS<|sp 1 E z λa E=>lS E H e U23 z λa E=>pr 1 E z λa E=>nt<|wB<|bK (λc a w=>∃ x4,Jn 19 a w [(0,f),(1,.func (.func 55) #[] #[]),(7,i_ (d.length:Int)),(8,i_ x4)] (Fo) rs (eI d c x4=some r)) (((d.length:Int) - 0:Int).toNat+1) (⟨_,_,E.to z,H,Y0,m⟩) ?_;clear E H m;rintro c a w ⟨x4,j,E,H,b,m⟩;cases c with
 | zero=>exact (bH m z).elim
 | succ c=>
  unfold eI at m;exact sq<|pn 1 E z λa E=>wS<|wif E m z (λm=>wK<|aA<|wS<|wB<|sp 2 E z λa E=>xp 3 E z λa E=>bd m λl i m=>dH E H (wn z) z z z z z (b _ e) U23 nU i λq9 a H E=>ldf eE E H z z z z z m0 U71 z nU λa E=>bd m λk g m=>bP E (wn z) z z (bT E z z z ((cf_ 55) _)) (Un H g)<|op0 λw H a E=>nt<|wif E m z (λm=>sq<|pn 2 E z λa E=>wR<|bM<|aJ<|aJ<|bM<|aJ<|o1 E z<|d_ m z (H.reads (Y1 b))) λm=>wK<|bR<|aA<|wG<|pn 2 E z λa E=>⟨c,nL c,_,_,E.to z,H,(Y1 b),m⟩) λm=>wX<|aW<|aW<|cR<|aA<|sq<|pn 1 E z λa E=>wR<|o1 E z<|d_ m z (H.reads b)

def jL(b:List aQ):Option Bool:=
  (lM b).bind λc=>some (decide (c ≥ 0))
theorem K7{b:VL}{c:List aQ}(H:Sep w (Fo) rs)(d:rSl aC b c ∈ rs){r:Bool}(m:jL c=some r) :
    Cf 54 [b,.func (.func 55) #[] #[]] w λv w'=>.bool r=v/\Sep w' (Fo) (rs):=ent func54 z ntmps54 z z λa E=>sp 1 E z λa E=>xp 2 E z λa E=>bd m λf e m=>xk2 E z (cf_ 102) (P6 H d e) λw H a E=>pn 2 E z λa E=>wR<|o1 E z<|d_ m z (H.reads Y0)

def sN(x1:aG):Option Bool:=
  (jK x1.Nodes).bind λd=>(jL x1.Turns).bind λe=>if (!d)=true then (if (!e)=true then ((wU x1.Nodes).bind λb=>if b=true then ((wV x1.Turns).bind λc=>some (c)) else (some (false))) else (some (false))) else (some (false))
theorem Ax{x1:aG}{k l:VL}(H:Sep w (Fo) rs)(e:rSl aB k x1.Nodes ∈ rs)(f:rSl aC l x1.Turns ∈ rs){r:Bool}(m:sN x1=some r) :
    Cf 20 [.agg #[k,l]] w λv w'=>.bool r=v/\Sep w' (Fo) (rs):=ent func20 z ntmps20 z z λa E=>sq<|bx E H z λq w a H E=>pr 1 E z λa E=>xp 1 E z λa E=>lb2 E H 0 U22 z λa E=>bd m λs n m=>xk2 E z (cf_ 51) (K6 H e n) λw H a E=>pr 1 E z λa E=>xp 1 E z λa E=>lb2 E H 0 U23 z λa E=>bd m λt g m=>xk2 E z (cf_ 54) (K7 H f g) λw H a E=>pr 1 E z λa E=>xp 3 E z λa E=>cs m (λd m=>pk 4 E (kc 13 z d) z λa E=>cs m (λb m=>pk 1 E (kc 17 z b) z λa E=>gl 17 E H 0 b U22 z λa E=>bd m λo i m=>gc 17 E b z (cf_ 58) (Gm H e i)<|op0 λw H a E=>pk 2 E (kc 17 z b) z λa E=>cs m (λc m=>pk 1 E (kc 22 z c) z λa E=>gl 22 E H 0 c U23 z λa E=>bd m λp j m=>gc 22 E c z (cf_ 60) (Gn H f j)<|op0 λw H a E=>pk 2 E (kc 22 z c) z λa E=>nt<|wR<|o1 E z<|have H:=H.drop 0;d_ m z (H.reads Y0)) λc m=>pk 5 E (kc 22 z c) z λa E=>nt<|wR<|o1 E z<|have H:=H.drop 0;d_ m z (H.reads Y0)) λb m=>pk 10 E (kc 17 z b) z λa E=>nt<|wR<|o1 E z<|have H:=H.drop 0;d_ m z (H.reads Y0)) λd m=>pk 14 E (kc 13 z d) z λa E=>nt<|wR<|o1 E z<|have H:=H.drop 0;d_ m z (H.reads Y0)

def iM(b:Int):Option Int:=
  some (b)
theorem tA{e:Nat}{b:Int}{c d f g i j k:VL}(H:Sep w (Blk e 240 [c,d,f,g,i,j,k]::Fo) rs){r:Int}(m:iM b=some r) :
    Cf 252 [pt e 0,i_ b] w λv w'=>.tuple #[]=v/\Sep w' (Blk e 240 [c,d,i_ r,.string (ByteArray.mk #[]),.string (ByteArray.mk #[]),i_ 0,nS]::Fo) (rs):=by
 refine ent func252 z ntmps252 z z λa E=>wG<|pr 2 E z λa E=>sv2 E z (cP E z (E.evs z) (v:=.agg #[i_ b,.string (ByteArray.mk #[]),.string (ByteArray.mk #[]),i_ 0,nS]) (by kernel_rfl)) λa E=>pr 2 E z λa E=>ss 0 E H z A9 z λw H=>wN<|yJ E z<|?_;cases m;exact ⟨z,H.reads Y0⟩

def tB(b:BY)(c:BY):Option Int:=
  some (Extern.BytealgCompare.cmp b c)
theorem Z8{b c:BY}(H:Sep w (Fo) rs){r:Int}(m:tB b c=some r) :
    Cf 145 [.string b,.string c] w λv w'=>.int .i64 r=v/\Sep w' (Fo) (rs):=ent func145 z ntmps145 z z λa E=>sp 1 E z λa E=>xp 2 E z λa E=>sv2 E z (Nl E z z (FY _ _ _)) λa E=>pn 1 E z λa E=>wR<|o1 E z<|d_ m z (H.reads Y0)

def rE(b:BY)(c:BY):Option Int:=
  (tB b c).bind λd=>some (d)
theorem yS{b c:BY}(H:Sep w (Fo) rs){r:Int}(m:rE b c=some r) :
    Cf 81 [.string b,.string c] w λv w'=>.int .i64 r=v/\Sep w' (Fo) (rs):=ent func81 z ntmps81 z z λa E=>sp 1 E z λa E=>xp 2 E z λa E=>bd m λe d m=>xk2 E z (cf_ 145) (Z8 H d) λw H a E=>pn 1 E z λa E=>wR<|o1 E z<|d_ m z (H.reads Y0)

def vN(x1:aH)(b:BY):Option Int:=
  (rE x1.Path b).bind λc=>some (c)
theorem Bh{x1:aH}{b:BY}(H:Sep w (Fo) rs){r:Int}(m:vN x1 b=some r) :
    Cf 307 [.agg (nR x1).toArray,.string b] w λv w'=>.int .i64 r=v/\Sep w' (Fo) (rs):=ent func307 z ntmps307 z z λa E=>sq<|bx E H z λd w a H E=>pr 1 E z λa E=>xp 1 E z λa E=>lb2 E H 0 U9 z λa E=>pr 1 E z λa E=>bd m λe c m=>xk2 E z (cf_ 81) (yS H c) λw H a E=>pn 1 E z λa E=>wR<|o1 E z<|have H:=H.drop 0;d_ m z (H.reads Y0)

def cK(b:List aH)(d:BY):Nat->Int->Int->Option B2
  | 0,_,_=>none
  | e+1,x4,c=>
    if (decide (x4 < c))=true then ((idx b (IntKind.i64.wrap (vB .u64 (IntKind.u64.wrap (IntKind.i64.wrap (x4+c))) 1))).bind λj=>(vN j d).bind λf=>if (decide (f < 0))=true then (cK b d e (IntKind.i64.wrap ((IntKind.i64.wrap (vB .u64 (IntKind.u64.wrap (IntKind.i64.wrap (x4+c))) 1))+1)) c) else (cK b d e x4 (IntKind.i64.wrap (vB .u64 (IntKind.u64.wrap (IntKind.i64.wrap (x4+c))) 1)))) else (if (decide (x4 < (b.length:Int)))=true then ((idx b x4).bind λg=>(vN g d).bind λi=>some (x4,i == 0)) else (some (x4,false)))
def gB(b:List aH)(c:BY):Option B2:=
  cK b c (((b.length:Int) - 0:Int).toNat+1) 0 (b.length:Int)
theorem zC{k:VL}{f:List aH}{q:BY}(H:Sep w (Row 80 aB k f::Fo) rs){r:Int×Bool}(m:gB f q=some r) :
    Cf 306 [k,.string q,.func (.func 307) #[] #[]] w λv w'=>.tuple #[i_ r.1,.bool r.2]=v/\Sep w' (Row 80 aB k f::Fo) (rs):=by
 refine ent func306 z ntmps306 z z λa E=>sp 2 E z λa E=>xp 1 E z λa E=>sv2 E z (lF (i:=0) E H z z z U22) λa E=>pr 1 E z λa E=>xp 3 E z λa E=>nt<|wS<|wB<|bK (λc a w=>∃ x4 s,Jn 49 a w [(0,k),(1,.string q),(2,.func (.func 307) #[] #[]),(8,i_ (f.length:Int)),(9,i_ x4),(10,i_ s)] (Row 80 aB k f::Fo) rs (cK f q c x4 s=some r)) (((f.length:Int) - 0:Int).toNat+1) (X3 ⟨E.to z,H,Y0,m⟩) ?_;clear E H m;rintro c a w ⟨x4,s,x,E,H,j,m⟩;cases c with
 | zero=>exact (bH m z).elim
 | succ c=>
  unfold cK at m;refine wS<|sq<|pn 3 E z λa E=>wif E m z (λm=>?_) λm=>?_
  ·refine wK<|aA<|wB<|sp 4 E z λa E=>sv2 E z (Ii E z z z (by decide)) λa E=>pr 2 E z λa E=>xp 3 E z λa E=>bd m λl n m=>?_;obtain ⟨y,A,o⟩:=H.rowformNE (i:=0) z n;exact sv2 E z (dS (d:=aB) E o z z z z U22 iL n) λa E=>sv2 E z (lG (i:=0) E H cZ o z z z n (us:=[.string l.Path,.string l.Data,i_ l.Version,i_ l.Turn,i_ l.Owner]) z U80 z iL) λa E=>pr 1 E z λa E=>bd m λB t m=>bP E (wn z) z z (bT E z z z ((cf_ 307) _)) (Bh H t)<|op0 λw H a E=>pn 1 E z λa E=>wif E m z (λm=>wG<|pr 3 E z λa E=>wN<|bR<|aA<|⟨c,nL c,X3 ⟨E.to z,H,j,m⟩⟩) λm=>wG<|pr 2 E z λa E=>wN<|bR<|aA<|⟨c,nL c,X3 ⟨E.to z,H,j,m⟩⟩
  ·refine wX<|aW<|aW<|cR<|aA<|sp 5 E z λa E=>cs m (λb m=>?_) λb m=>?_
   ·refine pk 3 E (kc 39 z b) z λa E=>bd m λe g m=>?_;obtain ⟨C,D,p⟩:=H.rowformNE (i:=0) z g;refine gv 39 E b z (dS (d:=aB) E p z z z z U22 iL g) λa E=>gv 39 E b z (lG (i:=0) E H cZ p z z z g (us:=[.string e.Path,.string e.Data,i_ e.Version,i_ e.Turn,i_ e.Owner]) z U80 z iL) λa E=>pk 1 E (kc 39 z b) z λa E=>bd m λF u m=>bP E (ws' (d:=39) E z z z z b) z z (bT E z z z ((cf_ 307) _)) (Bh H u)<|op0 λw H a E=>pk 4 E (kc 39 z b) z λa E=>nt<|wR<|iW E z z z<|?_;cases m;exact ⟨z,H.reads j⟩
   ·refine pk 11 E (kc 39 z b) z λa E=>nt<|wR<|iW E z z z<|?_;cases m;exact ⟨z,H.reads j⟩

def oM(d:List aH)(c:BY):Option B2:=
  (gB d c).bind λb=>some (b.1,b.2)
theorem V1{k:Nat}{b c d e f g i:VL}{l:List aH}{j:BY}(H:Sep w (Blk k 240 [b,c,d,e,f,g,i]::Row 80 aB b l::Fo) rs){r:Int×Bool}(m:oM l j=some r) :
    Cf 257 [pt k 0,.string j] w λv w'=>.tuple #[i_ r.1,.bool r.2]=v/\Sep w' (Blk k 240 [b,c,d,e,f,g,i]::Row 80 aB b l::Fo) (rs):=by
 refine ent func257 z ntmps257 z z λa E=>sp 2 E z λa E=>xp 4 E z λa E=>lb2 E H 0 U22 z λa E=>pr 1 E z λa E=>have H:=H.frs [0,1] z;bd m λo n m=>xk2 E z (cf_ 306) (zC H n) λw H a E=>pn 4 E z λa E=>wR<|iW E z z z<|have H:=H.frs [0,1] z;?_;cases m;exact ⟨z,H.reads Y0⟩

def vO(x20:Int):Option Xd:=
  some ((-1),x20,(ByteArray.mk #[]),(ByteArray.mk #[]),0,[])
def rU(f:List aH)(b:Int×Bool)(g:Int)(i:BY)(j:BY)(k:Int)(c:List BY)(d:Bool):Option Xd:=
  if d=true then ((iM 63).bind λe=>vO e) else ((idx f b.1).bind λl=>some (b.1,g,i,j,k,c))
def rV(d:List aH)(b:Int×Bool)(f:Int)(g:BY)(i:BY)(j:Int)(c:List BY)(e:bL)(k:Bool):Option Xd:=
  if (!b.2)=true then ((iM 62).bind λl=>vO l) else (if k=true then (if (decide (e.Version ≥ 0))=true then ((idx d b.1).bind λm=>rU d b f g i j c (e.Version != m.Version)) else (rU d b f g i j c false)) else (rU d b f g i j c false))
def jR(e:List aH)(f:Int)(g:BY)(i:BY)(j:Int)(c:List BY)(b:bL):Option Xd:=
  (oM e b.Path).bind λd=>if (b.Kind == 3)=true then (rV e d f g i j c b true) else (if (b.Kind == 5)=true then (rV e d f g i j c b true) else (rV e d f g i j c b (b.Kind == 6)))
theorem wC{o:Nat}{c j p:VL}{q:List aH}{y A:Int}{B C:BY}{l:List BY}{x:bL}(H:Sep w (Blk o 240 [c,p,i_ y,.string B,.string C,i_ A,j]::Row 80 aB c q::Row 9 kS j l::Fo) rs){r:Int×Int×BY×BY×Int×eC}(m:jR q y B C A l x=some r) :
    Cf 251 [pt o 0,.agg (cI x).toArray] w λv w'=>∃ P,orp c r.1 5=v/\Sep w' (Blk o 240 [c,p,i_ r.2.1,.string r.2.2.1,.string r.2.2.2.1,i_ r.2.2.2.2.1,P]::Row 80 aB c q::Row 9 kS P r.2.2.2.2.2::Fo) (rs):=by
 refine ent func251 z ntmps251 z z λa E=>sq<|bx E H z λK w a H E=>pr 1 E z λa E=>xp 2 E z λa E=>lb2 E H 0 U9 z λa E=>have H:=H.frs [3,1,3,3] z;bd m λs L m=>xk2 E z (cf_ 257) (V1 H L) λw H a E=>pn 5 E z λa E=>aN (λa w=>∃ D,Jn 63 a w [(0,pt o 0),(3,pt K 0),(5,i_ s.1),(6,.bool s.2),(7,.bool D)] (Blk o 240 [c,p,i_ y,.string B,.string C,i_ A,j]::Blk K 144 (cI x)::Row 80 aB c q::Row 9 kS j l::Fo) rs (rV q s y B C A l x D=some r)) (wG<|pr 1 E z λa E=>lb2 E H 2 U3 z λa E=>pr 2 E z λa E=>cs m (λe m=>pk 10 E (kc 18 z e) z λa E=>nt<|have H:=H.frs [3,2,3,3] z;⟨_,_,E.to z,H,Y0,m⟩) λe m=>pk 1 E (kc 18 z e) z λa E=>gl 18 E H 2 e U3 z λa E=>pk 3 E (kc 18 z e) z λa E=>cs m (λf m=>pk 5 E (kc 23 z f) z λa E=>nt<|have H:=H.frs [3,2,3,3] z;⟨_,_,E.to z,H,Y0,m⟩) λf m=>pk 1 E (kc 23 z f) z λa E=>gl 23 E H 2 f U3 z λa E=>pk 3 E (kc 23 z f) z λa E=>nt<|have H:=H.frs [3,2,3,3] z;⟨_,_,E.to z,H,Y0,m⟩) ?_;clear E H m;rintro a w ⟨D,Q,E,H,n,m⟩;refine aN (λa w=>∃ x20,Jn 63 a w [] (Blk o 240 [c,p,i_ x20,.string (ByteArray.mk #[]),.string (ByteArray.mk #[]),i_ 0,nS]::Row 80 aB c q::Fo) rs (vO x20=some r)) ?_ ?_
 ·refine wB<|sq<|pn 3 E z λa E=>wif E m z (λm=>wG<|pr 1 E z λa E=>bd m λT M m=>xk2 E z (cf_ 252) (tA H M) λw H a E=>wN<|bR<|aA<|have H:=H.drs [1,2];⟨_,_,E.nil,H,n,m⟩) λm=>?_;refine aN (λa w=>∃ F,Jn 63 a w [(0,pt o 0),(5,i_ s.1),(40,.bool F)] (Blk o 240 [c,p,i_ y,.string B,.string C,i_ A,j]::Row 80 aB c q::Row 9 kS j l::Fo) rs (rU q s y B C A l F=some r)) ?_ ?_
  ·refine dz [0,0,0,0,0,0,0,0,0,0,0,0,0,0,0,0,0,0,0,0,1] [0,1,2] H λw W0 hI H=>fn 2 E z λa E=>cs m (λg m=>?_) λg m=>?_
   ·refine fk 1 E (kc 42 z g) z λa E=>fb E z (ws' (d:=42) E z z z z g) z z z z mm1 z U2 z λa E=>fk 3 E (kc 42 z g) z λa E=>cs m (λb m=>?_) λb m=>?_
    ·refine fk 1 E (kc 47 z b) z λa E=>fb E z (ws' (d:=47) E z z z z b) z z z z mm1 z U2 z λa E=>fk 4 E (kc 47 z b) z λa E=>fb E z (ws' (d:=47) E z z z z b) z z z z m0 z U22 z λa E=>fk 1 E (kc 47 z b) z λa E=>bd m λU t m=>?_;obtain ⟨V,W,G⟩:=H.rowformNE (i:=2) z t;refine dU E z (ws' (d:=47) E z z z z b) z z (λw hW=>dS (d:=aB) E G z z z z U22 iL t) λa E=>fk 1 E (kc 47 z b) z λa E=>dU E z (ws' (d:=47) E z z z z b) z z (λw hW=>Px (d:=aB) (k:=2) E cZ G t mm2 z z z U2 z hW) λa E=>fk 2 E (kc 47 z b) z λa E=>bO z<|pn 1 E z λa E=>⟨sx H [0,1,2] z,bF<|?_⟩
     clear hI;exact aA<|have H:=H.drop 1;⟨_,_,E.to z,H,n,m⟩
    refine fk 13 E (kc 47 z b) z λa E=>bO z<|pn 1 E z λa E=>⟨sx H [0,1,2] z,bF<|?_⟩
    clear hI;exact aA<|have H:=H.drop 1;⟨_,_,E.to z,H,n,m⟩
   refine fk 18 E (kc 42 z g) z λa E=>bO z<|pn 1 E z λa E=>⟨sx H [0,1,2] z,bF<|?_⟩
   clear hI;exact aA<|have H:=H.drop 1;⟨_,_,E.to z,H,n,m⟩
  clear E H m;rintro a w ⟨F,R,E,H,I,m⟩;refine wif E m z (λm=>wG<|pr 1 E z λa E=>bd m λX N m=>xk2 E z (cf_ 252) (tA H N) λw H a E=>wN<|bR<|aA<|have H:=H.drop 2;⟨_,_,E.nil,H,I,m⟩) λm=>?_;refine sp 4 E z λa E=>lb2 E H 0 U22 z λa E=>pr 1 E z λa E=>bd m λY u m=>?_;obtain ⟨Z,b0,J⟩:=H.rowformNE (i:=1) z u;refine sv2 E z (dS (d:=aB) E J z z z z U22 iL u) λa E=>pn 1 E z λa E=>wR<|bM<|aJ<|o1 E z<|?_;cases m;exact ⟨_,Lb _ J u,H.reads I⟩
 ·clear E H m;rintro a w ⟨x20,S,E,H,O,m⟩;refine sq<|pn 1 E z λa E=>wR<|o1 E z<|have H:=H.nilRow 9 kS;have H:=H.frs [0,2,2] z;?_;cases m;exact ⟨_,z,H.reads O⟩

def xJ(x1:aQ)(b:BY):Option Int:=
  (rE x1.Dir b).bind λc=>some (c)
theorem Cy{x1:aQ}{b:BY}(H:Sep w (Fo) rs){r:Int}(m:xJ x1 b=some r) :
    Cf 302 [.agg #[.string x1.Dir,i_ x1.Next],.string b] w λv w'=>.int .i64 r=v/\Sep w' (Fo) (rs):=ent func302 z ntmps302 z z λa E=>sq<|bx E H z λd w a H E=>pr 1 E z λa E=>xp 1 E z λa E=>lb2 E H 0 U9 z λa E=>pr 1 E z λa E=>bd m λe c m=>xk2 E z (cf_ 81) (yS H c) λw H a E=>pn 1 E z λa E=>wR<|o1 E z<|have H:=H.drop 0;d_ m z (H.reads Y0)

def cL(b:List aQ)(d:BY):Nat->Int->Int->Option B2
  | 0,_,_=>none
  | e+1,x4,c=>
    if (decide (x4 < c))=true then ((idx b (IntKind.i64.wrap (vB .u64 (IntKind.u64.wrap (IntKind.i64.wrap (x4+c))) 1))).bind λj=>(xJ j d).bind λf=>if (decide (f < 0))=true then (cL b d e (IntKind.i64.wrap ((IntKind.i64.wrap (vB .u64 (IntKind.u64.wrap (IntKind.i64.wrap (x4+c))) 1))+1)) c) else (cL b d e x4 (IntKind.i64.wrap (vB .u64 (IntKind.u64.wrap (IntKind.i64.wrap (x4+c))) 1)))) else (if (decide (x4 < (b.length:Int)))=true then ((idx b x4).bind λg=>(xJ g d).bind λi=>some (x4,i == 0)) else (some (x4,false)))
def cU(b:List aQ)(c:BY):Option B2:=
  cL b c (((b.length:Int) - 0:Int).toNat+1) 0 (b.length:Int)
theorem iZ{j:VL}{e:List aQ}{o:BY}(H:Sep w (Row 71 aC j e::Fo) rs){r:Int×Bool}(m:cU e o=some r) :
    Cf 301 [j,.string o,.func (.func 302) #[] #[]] w λv w'=>.tuple #[i_ r.1,.bool r.2]=v/\Sep w' (Row 71 aC j e::Fo) (rs):=by
 refine ent func301 z ntmps301 z z λa E=>sp 2 E z λa E=>xp 1 E z λa E=>sv2 E z (lF (i:=0) E H z z z U23) λa E=>pr 1 E z λa E=>xp 3 E z λa E=>nt<|wS<|wB<|bK (λc a w=>∃ x4 q,Jn 49 a w [(0,j),(1,.string o),(2,.func (.func 302) #[] #[]),(8,i_ (e.length:Int)),(9,i_ x4),(10,i_ q)] (Row 71 aC j e::Fo) rs (cL e o c x4 q=some r)) (((e.length:Int) - 0:Int).toNat+1) (X3 ⟨E.to z,H,Y0,m⟩) ?_;clear E H m;rintro c a w ⟨x4,q,x,E,H,g,m⟩;cases c with
 | zero=>exact (bH m z).elim
 | succ c=>
  unfold cL at m;refine wS<|sq<|pn 3 E z λa E=>wif E m z (λm=>?_) λm=>?_
  ·refine wK<|aA<|wB<|sp 4 E z λa E=>sv2 E z (Ii E z z z (by decide)) λa E=>pr 2 E z λa E=>xp 3 E z λa E=>bd m λu k m=>?_;obtain ⟨y,A,l⟩:=H.rowformNE (i:=0) z k;exact sv2 E z (dS (d:=aC) E l z z z z U23 nU k) λa E=>sv2 E z (lG (i:=0) E H eE l z z z k (us:=[.string u.Dir,i_ u.Next]) z U71 z nU) λa E=>pr 1 E z λa E=>bd m λB s m=>bP E (wn z) z z (bT E z z z ((cf_ 302) _)) (Cy H s)<|op0 λw H a E=>pn 1 E z λa E=>wif E m z (λm=>wG<|pr 3 E z λa E=>wN<|bR<|aA<|⟨c,nL c,X3 ⟨E.to z,H,g,m⟩⟩) λm=>wG<|pr 2 E z λa E=>wN<|bR<|aA<|⟨c,nL c,X3 ⟨E.to z,H,g,m⟩⟩
  ·refine wX<|aW<|aW<|cR<|aA<|sp 5 E z λa E=>cs m (λb m=>?_) λb m=>?_
   ·refine pk 3 E (kc 39 z b) z λa E=>bd m λp f m=>?_;obtain ⟨C,D,n⟩:=H.rowformNE (i:=0) z f;refine gv 39 E b z (dS (d:=aC) E n z z z z U23 nU f) λa E=>gv 39 E b z (lG (i:=0) E H eE n z z z f (us:=[.string p.Dir,i_ p.Next]) z U71 z nU) λa E=>pk 1 E (kc 39 z b) z λa E=>bd m λF t m=>bP E (ws' (d:=39) E z z z z b) z z (bT E z z z ((cf_ 302) _)) (Cy H t)<|op0 λw H a E=>pk 4 E (kc 39 z b) z λa E=>nt<|wR<|iW E z z z<|?_;cases m;exact ⟨z,H.reads g⟩
   ·refine pk 11 E (kc 39 z b) z λa E=>nt<|wR<|iW E z z z<|?_;cases m;exact ⟨z,H.reads g⟩

def I5(x1:bL):Option (Int×BY×BY×BY×Int×Int×Bool):=
  some (x1.Kind,x1.Dir,x1.Path,x1.Data,x1.Version,x1.Owner,x1.Turns)
theorem Lz{x1:bL}(H:Sep w (Fo) rs){r:Int×BY×BY×BY×Int×Int×Bool}(m:I5 x1=some r) :
    Cf 261 [.agg (cI x1).toArray] w λv w'=>∃ b,.func (.func 310) #[] #[pt b 0]=v/\Sep w' (Blk b 144 [i_ r.1,.string r.2.1,.string r.2.2.1,.string r.2.2.2.1,i_ r.2.2.2.2.1,i_ r.2.2.2.2.2.1,.bool r.2.2.2.2.2.2]::Fo) (rs):=by
 refine ent func261 z ntmps261 z z λa E=>sq<|bx E H z λc w a H E=>pr 1 E z λa E=>nx<|sv2 E z (oP E z z z) λa E=>pn 1 E z λa E=>wR<|o1 E z<|?_;cases m;exact ⟨_,z,H.reads Y0⟩

def D9(x1:aH)(c:BY):Option Bool:=
  (uZ x1.Path).bind λb=>if b.2=true then (some (sEq b.1 c)) else (some (false))
theorem Gp{x1:aH}{j:Nat}{k:BY}{c d e f g i:VL}(H:Sep w (Blk j 144 [c,d,.string k,e,f,g,i]::Fo) rs){r:Bool}(m:D9 x1 k=some r) :
    Cf 310 [.agg (nR x1).toArray,pt j 0] w λv w'=>.bool r=v/\Sep w' (Blk j 144 [c,d,.string k,e,f,g,i]::Fo) (rs):=ent func310 z ntmps310 z z λa E=>sq<|bx E H z λn w a H E=>pr 1 E z λa E=>xp 1 E z λa E=>lb2 E H 0 U9 z λa E=>bd m λo l m=>xk2 E z (cf_ 135) (W4 H l) λw H a E=>pr 5 E z λa E=>xp 2 E z λa E=>cs m (λb m=>pk 2 E (kc 13 z b) z λa E=>gl 13 E H 1 b U9 z λa E=>pk 3 E (kc 13 z b) z λa E=>nt<|wR<|o1 E z<|have H:=H.drop 0;d_ m z (H.reads Y0)) λb m=>pk 6 E (kc 13 z b) z λa E=>nt<|wR<|o1 E z<|have H:=H.drop 0;d_ m z (H.reads Y0)

def yT(e:List aH)(i:Int)(j:BY)(k:BY)(l:Int)(f:List BY)(c:bL):Option SN:=
  (jR e i j k l f c).bind λb=>if (decide (b.1 < 0))=true then (some (e,b.2.1,b.2.2.1,b.2.2.2.1,b.2.2.2.2.1,b.2.2.2.2.2)) else ((idx e b.1).bind λd=>if (d.Version == 281474976710656)=true then ((iM 2).bind λg=>some (e,g,(ByteArray.mk #[]),(ByteArray.mk #[]),0,[])) else (some ((e.set b.1.toNat ({ d with Data:=c.Data }:aH)).set b.1.toNat ({ ({ d with Data:=c.Data }:aH) with Version:=IntKind.i64.wrap ((({ d with Data:=c.Data }:aH).Version)+1) }:aH),b.2.1,b.2.2.1,b.2.2.2.1,({ ({ d with Data:=c.Data }:aH) with Version:=IntKind.i64.wrap ((({ d with Data:=c.Data }:aH).Version)+1) }:aH).Version,b.2.2.2.2.2)))
theorem Ov{o:Nat}{g j l:VL}{s:List aH}{t u:Int}{x y:BY}{n:List BY}{e:bL}(H:Sep w (Blk o 240 [g,l,i_ t,.string x,.string y,i_ u,j]::Row 80 aB g s::Row 9 kS j n::Fo) rs){r:cT×Int×BY×BY×Int×eC}(m:yT s t x y u n e=some r) :
    Cf 188 [pt o 0,.agg (cI e).toArray] w λv w'=>∃ A,.tuple #[]=v/\Sep w' (Blk o 240 [g,l,i_ r.2.1,.string r.2.2.1,.string r.2.2.2.1,i_ r.2.2.2.2.1,A]::Row 80 aB g r.1::Row 9 kS A r.2.2.2.2.2::Fo) (rs):=by
 refine ent func188 z ntmps188 z z λa E=>sq<|bx E H z λB w a H E=>xp 1 E z λa E=>ln 0 (cI e) E H sX z iX λa E=>have H:=H.frs [0,3,3,3] z;bd m λC p m=>xc2 E z (cf_ 251) (wC H p)<|op1 λD w H a E=>pn 1 E z λa E=>wB<|sp 1 E z λa E=>sv2 E z (PV E Sr Ss z z z) λa E=>pn 1 E z λa E=>wif E m z (λm=>?_) λm=>?_
 ·refine wK<|bR<|yJ E z<|have H:=H.drop 3;?_;cases m;exact ⟨_,z,H.reads Y0⟩
 ·refine sp 1 E z λa E=>bd m λf b m=>?_;obtain ⟨F,G,c⟩:=H.rowformNE (i:=1) z b;rw [Lb 5 c b] at E;refine pr 2 E z λa E=>sv2 E z (tV (d:=aB) (i:=1) (k:=2) E H cZ c z z z b z U2 z) λa E=>pn 2 E z λa E=>wif E m z (λm=>?_) λm=>?_
  ·refine wG<|pr 1 E z λa E=>bd m λI q m=>xk2 E z (cf_ 252) (tA H q) λw H a E=>wN<|bR<|yJ E z<|have H:=H.nilRow 9 kS;have H:=H.drs [3,3];have H:=H.frs [0,2,2] z;?_;cases m;exact ⟨_,z,H.reads Y0⟩
  ·refine sp 2 E z λa E=>lb2 E H 3 U9 z λa E=>pr 2 E z λa E=>Cw (d:=aB) (i:=1) (k:=1) (z':=({ f with Data:=e.Data }:aH)) E H cZ (wn z) z c z z z z z z b z z sz9 λw H=>xp 3 E z λa E=>sv2 E z (tV (d:=aB) (i:=1) (k:=2) E H cZ c z z z (J1 b) z U2 z) λa E=>pr 3 E z λa E=>Cw (d:=aB) (i:=1) (k:=2) (z':=({ ({ f with Data:=e.Data }:aH) with Version:=IntKind.i64.wrap ((({ f with Data:=e.Data }:aH).Version)+1) }:aH)) E H cZ (wn z) z c z z z z z z (J1 b) z z sz2 λw H=>nt<|wG<|pr 4 E z λa E=>sv2 E z (tV (d:=aB) (i:=1) (k:=2) E H cZ c z z z (J1 (J1 b)) z U2 z) λa E=>pr 3 E z λa E=>ss 0 E H z sz2 z λw H=>wN<|bR<|yJ E z<|have H:=H.drop 3;?_;cases m;exact ⟨_,z,H.reads Y0⟩

def sO(b:Bool)(c:eC):Option (Bool×eC):=
  some (b,c)
def sP(x1:aH)(b:List BY)(c:Bool):Option (Bool×eC):=
  if c=true then ((D6 x1.Path).bind λd=>(ck (b.length+([d]:List BY).length <= LIM)).bind λe=>sO c (b ++ ([d]:List BY))) else (sO c b)
def rW(x1:aH)(e:Int)(c:BY)(b:List BY):Option (Bool×eC):=
  if (x1.Owner == e)=true then ((D9 x1 c).bind λd=>sP x1 b d) else (sP x1 b false)
theorem Bi{x1:aH}{P j c g f:Nat}{Q:Int}{k:BY}{n o p q s t u y A B C D F G I J K L M:VL}{N:List BY}(H:Sep w (Blk P 144 [o,p,q,s,t,i_ Q,u]::Blk j 100 [.func (.func 310) #[] #[pt c 0]]::Blk c 144 [y,A,.string k,B,C,D,F]::Blk g 237 [pt f 0]::Blk f 240 [G,I,J,K,L,M,n]::Row 9 kS n N::Fo) rs){r:Bool×eC}(m:rW x1 Q k N=some r) :
    Cf 264 [.agg (nR x1).toArray,pt P 0,pt j 0,pt g 0] w λv w'=>∃ Z,.bool r.1=v/\Sep w' (Blk P 144 [o,p,q,s,t,i_ Q,u]::Blk j 100 [.func (.func 310) #[] #[pt c 0]]::Blk c 144 [y,A,.string k,B,C,D,F]::Blk g 237 [pt f 0]::Blk f 240 [G,I,J,K,L,M,Z]::Row 9 kS Z r.2::Fo) (rs):=by
 refine ent func264 z ntmps264 z z λa E=>sq<|bx E H z λU w a H E=>pn 1 E z λa E=>aN (λa w=>∃ l,Jn 33 a w [(3,pt g 0),(4,pt U 0),(6,.bool l)] (Blk g 237 [pt f 0]::Blk U 80 (nR x1)::Blk P 144 [o,p,q,s,t,i_ Q,u]::Blk j 100 [.func (.func 310) #[] #[pt c 0]]::Blk c 144 [y,A,.string k,B,C,D,F]::Blk f 240 [G,I,J,K,L,M,n]::Row 9 kS n N::Fo) rs (sP x1 N l=some r)) (wG<|pr 1 E z λa E=>lb2 E H 0 U2 z λa E=>pr 1 E z λa E=>lb2 E H 1 U2 z λa E=>pr 2 E z λa E=>cs m (λb m=>gl 12 E H 2 b WI z λa E=>gv 12 E b z (zN (i:=0) (us:=(nR x1)) E H z z z z U80 z iL) λa E=>have H:=H.frs [6,6,6,5,5,5,6] z;bd m λb2 V m=>bP E (ws' (d:=12) E z z z z b) z z (bT E z z z ((cf_ 310) _)) (Gp H V)<|op0 λw H a E=>pk 2 E (kc 12 z b) z λa E=>nt<|have H:=H.frs [6,6,2,5,5,5,6] z;⟨_,_,E.to z,H,Y0,m⟩) λb m=>pk 5 E (kc 12 z b) z λa E=>nt<|have H:=H.frs [6,6,5,5,5,5,6] z;⟨_,_,E.to z,H,Y0,m⟩) ?_;clear E H m;rintro a w ⟨l,b0,E,H,R,m⟩;refine aN (λa w=>∃ S T,Jn 33 a w [(6,.bool l)] (Blk P 144 [o,p,q,s,t,i_ Q,u]::Blk j 100 [.func (.func 310) #[] #[pt c 0]]::Blk c 144 [y,A,.string k,B,C,D,F]::Blk g 237 [pt f 0]::Blk f 240 [G,I,J,K,L,M,S]::Row 9 kS S T::Fo) rs (sO l T=some r)) ?_ ?_
 ·refine sq<|pn 1 E z λa E=>wif E m z (λm=>?_) λm=>wK<|aA<|have H:=H.drop 1;have H:=H.frs [5,5,2,5,5,5] z;X3 ⟨E.to z,H,R,m⟩;refine dz [0,0,0,0,0,0,0,0,1,1,1,2,2,2,2] [0,1,5] H λw W0 hI H=>fb2 E m0 DM z λa E=>fb2 E m0 DM z λa E=>fn 3 E z λa E=>fb2 E mm2 U43 z λa E=>fn 1 E z λa E=>fb2 E mm1 U9 z λa E=>bO z<|bd m λO W m=>xk2 E z (cf_ 256) (Gi H W) λw H a E=>nt<|⟨sx H [0,1,5] z,bO z<|tE (e:=9) (d:=kS) (cs:=[.string O]) (xs:=[O]) E H (wn z) z z z (E.evs z) (by kernel_rfl) z (λok hr=>(Rows.single (d:=kS) (cs:=[.string O]) (x:=O) z)) λb3 w a H E=>nt<|⟨sx H [0,1,5] z,bO z<|bk m λX m=>gG (i:=6) E H (wn z) z z z z z z (qS m0) U43 Yd z X z λb4 w a H E=>nt<|⟨sx H [0,1,5] z,bJ z<|pn 1 E z λa E=>bJ z<|pn 1 E z λa E=>bJ z<|pn 1 E z λa E=>bJ z<|?_⟩⟩⟩
  obtain ⟨q63,b5,rfl⟩:=H.rowform (i:=6) z;refine ss 5 E H z RO z λw H=>nt<|bF<|?_;clear hI;exact aA<|have H:=H.drop 1;have H:=H.frs [5,5,2,5,5,5] z;X3 ⟨E.to z,H,(Y1 R),m⟩
 ·clear E H m;rintro a w ⟨S,T,b1,E,H,Y,m⟩;refine sq<|pn 2 E z λa E=>wR<|o1 E z<|?_;cases m;exact ⟨_,z,H.reads Y⟩

def dD(f:List aH)(g:Int)(d:BY):Nat->Int->eC->Option (Int×eC)
  | 0,_,_=>none
  | j+1,b,e=>
    if (decide (b < (f.length:Int)))=true then ((idx f b).bind λi=>(rW i g d e).bind λc=>if c.1=true then (some (b,c.2)) else (dD f g d j (IntKind.i64.wrap (b+1)) c.2)) else (some ((-1),e))
def jY(b:List aH)(e:Int)(c:BY)(d:List BY):Option (Int×eC):=
  dD b e c (((b.length:Int) - 0:Int).toNat+1) 0 d
theorem M6{e T q s t u x y A B C D F G I J K L M:VL}{l:List aH}{N f b g c:Nat}{O:Int}{j:BY}{U:List BY}(H:Sep w (Row 80 aB e l::Blk N 144 [q,s,t,u,x,i_ O,y]::Blk f 100 [.func (.func 310) #[] #[pt b 0]]::Blk b 144 [A,B,.string j,C,D,F,G]::Blk g 237 [pt c 0]::Blk c 240 [e,I,J,K,L,M,T]::Row 9 kS T U::Fo) rs){r:Int×eC}(m:jY l O j U=some r) :
    Cf 101 [e,.func (.func 264) #[] #[pt N 0,pt f 0,pt g 0]] w λv w'=>∃ W,i_ r.1=v/\Sep w' (Blk N 144 [q,s,t,u,x,i_ O,y]::Blk f 100 [.func (.func 310) #[] #[pt b 0]]::Blk b 144 [A,B,.string j,C,D,F,G]::Blk g 237 [pt c 0]::Blk c 240 [e,I,J,K,L,M,W]::Row 80 aB e l::Row 9 kS W r.2::Fo) (rs):=by
 refine ent func101 z ntmps101 z z λa E=>sq<|pn 1 E z λa E=>wS<|sp 1 E z λa E=>sv2 E z (lF (i:=0) E H z z z U22) λa E=>pr 1 E z λa E=>nt<|wB<|bK (λp a w=>∃ P Q R,Jn 19 a w [(0,e),(1,.func (.func 264) #[] #[pt N 0,pt f 0,pt g 0]),(7,i_ (l.length:Int)),(8,i_ Q)] (Row 80 aB e l::Blk N 144 [q,s,t,u,x,i_ O,y]::Blk f 100 [.func (.func 310) #[] #[pt b 0]]::Blk g 237 [pt c 0]::Blk b 144 [A,B,.string j,C,D,F,G]::Blk c 240 [e,I,J,K,L,M,P]::Row 9 kS P R::Fo) rs (dD l O j p Q R=some r)) (((l.length:Int) - 0:Int).toNat+1) (have H:=H.frs [6,6,5,6,6,6,6] z;X4 ⟨E.to z,H,Y0,m⟩) ?_;clear E H m;rintro p a w ⟨P,Q,R,X,E,H,n,m⟩;cases p with
 | zero=>exact (bH m z).elim
 | succ p=>
  unfold dD at m;refine sq<|pn 1 E z λa E=>wS<|wif E m z (λm=>?_) λm=>?_
  ·refine wK<|aA<|wS<|wB<|sp 2 E z λa E=>xp 3 E z λa E=>bd m λk o m=>?_;obtain ⟨Y,Z,S⟩:=H.rowformNE (i:=0) z o;refine sv2 E z (dS (d:=aB) E S z z z z U22 iL o) λa E=>sv2 E z (lG (i:=0) E H cZ S z z z o (us:=[.string k.Path,.string k.Data,i_ k.Version,i_ k.Turn,i_ k.Owner]) z U80 z iL) λa E=>have H:=H.frs [0,6,6,5,6,6,6] z;bd m λb0 V m=>bP E (wn z) z z (bT E z z z ((cf_ 264) _)) (Bi H V)<|op1 λb1 w H a E=>nt<|wif E m z (λm=>?_) λm=>wK<|bR<|aA<|wG<|pn 2 E z λa E=>have H:=H.frs [5,5,4,5,5,5,6] z;⟨p,nL p,X4 ⟨E.to z,H,n,m⟩⟩;refine sq<|pn 2 E z λa E=>wR<|bM<|aJ<|aJ<|bM<|aJ<|o1 E z<|have H:=H.frs [5,6,6,6,6,6,6] z;?_;cases m;exact ⟨_,z,H.reads n⟩
  ·refine wX<|aW<|aW<|cR<|aA<|sq<|pn 1 E z λa E=>wR<|o1 E z<|have H:=H.frs [6,1,6,5,6,6,6] z;?_;cases m;exact ⟨_,z,H.reads n⟩

def gN(rec_1:cT->Int->Int->eC->Option Su)(b:Int)(c:cT)(d:Int)(e:eC):Option Su:=
  rec_1 c d (IntKind.i64.wrap (b+1)) e
def dP(j:Int)(e:BY):Nat->cT->Int->Int->eC->Option Su
  | 0,_,_,_,_=>none
  | k+1,c,b,d,g=>
    if (decide (d < (c.length:Int)))=true then ((idx c d).bind λi=>(rW i j e g).bind λf=>if (!f.1)=true then ((idx c b).bind λl=>gN (dP j e k) d (c.set b.toNat i) (IntKind.i64.wrap (b+1)) f.2) else (gN (dP j e k) d c b f.2)) else ((ck (0 <= b/\b <= c.length)).bind λm=>(ck (0 <= b/\b <= (c.take b.toNat ++ List.replicate (c.length - b.toNat) (⟨⟨#[]⟩,⟨#[]⟩,0,0,0⟩:aH)).length)).bind λn=>some ((c.take b.toNat ++ List.replicate (c.length - b.toNat) (⟨⟨#[]⟩,⟨#[]⟩,0,0,0⟩:aH)).take b.toNat,g))
def kV(c:List aH)(e:Int)(d:BY)(f:List BY):Option Su:=
  (jY c e d f).bind λb=>if (b.1 == (-1))=true then (some (c,b.2)) else (dP e d (((c.length:Int) - (IntKind.i64.wrap (b.1+1)):Int).toNat+1) c b.1 (IntKind.i64.wrap (b.1+1)) b.2)
theorem O5{k b1 u x y A B C D F G I J K L M N O P:VL}{b3:List aH}{n f c g e:Nat}{o:Int}{j:BY}{b2:List BY}(H:Sep w (Row 80 aB k b3::Blk n 144 [u,x,y,A,B,i_ o,C]::Blk f 100 [.func (.func 310) #[] #[pt c 0]]::Blk c 144 [D,F,.string j,G,I,J,K]::Blk g 237 [pt e 0]::Blk e 240 [k,L,M,N,O,P,b1]::Row 9 kS b1 b2::Fo) rs){r:cT×eC}(m:kV b3 o j b2=some r) :
    Cf 263 [k,.func (.func 264) #[] #[pt n 0,pt f 0,pt g 0]] w λv w'=>∃ b8 b9,b8=v/\Sep w' (Row 80 aB b8 r.1::Blk n 144 [u,x,y,A,B,i_ o,C]::Blk f 100 [.func (.func 310) #[] #[pt c 0]]::Blk c 144 [D,F,.string j,G,I,J,K]::Blk g 237 [pt e 0]::Blk e 240 [k,L,M,N,O,P,b9]::Row 9 kS b9 r.2::Fo) (rs):=by
 refine ent func263 z ntmps263 z z λa E=>sp 1 E z λa E=>xp 2 E z λa E=>bd m λc0 b4 m=>xc2 E z (cf_ 101) (M6 H b4)<|op1 λc3 w H a E=>pn 1 E z λa E=>wS<|sq<|pn 2 E z λa E=>wif E m z (λm=>?_) λm=>?_
 ·refine sq<|pn 2 E z λa E=>wR<|aJ<|o1 E z<|have H:=H.frs [6,5,5,5,5,5,6] z;?_;cases m;exact ⟨_,_,z,H.reads Y0⟩
 ·refine wK<|aA<|wS<|sq<|pn 3 E z λa E=>wB<|bK (λp a w=>∃ Q R S l T,Jn 42 a w [(0,k),(1,.func (.func 264) #[] #[pt n 0,pt f 0,pt g 0]),(5,i_ S),(6,i_ l)] (Row 80 aB k R::Blk n 144 [u,x,y,A,B,i_ o,C]::Blk f 100 [.func (.func 310) #[] #[pt c 0]]::Blk g 237 [pt e 0]::Blk c 144 [D,F,.string j,G,I,J,K]::Blk e 240 [k,L,M,N,O,P,Q]::Row 9 kS Q T::Fo) rs (dP o j p R S l T=some r)) (((b3.length:Int) - (IntKind.i64.wrap (c0.1+1)):Int).toNat+1) (have H:=H.frs [6,5,4,5,5,5,6] z;X6 ⟨E.to z,H,Y0,m⟩) ?_;clear E H m;rintro p a w ⟨Q,R,S,l,T,c1,E,H,q,m⟩;cases p with
  | zero=>exact (bH m z).elim
  | succ p=>
   unfold dP at m;refine wS<|sp 2 E z λa E=>sv2 E z (lF (i:=0) E H z z z U22) λa E=>pn 1 E z λa E=>wif E m z (λm=>?_) λm=>?_
   ·refine wK<|aA<|aN (λa w=>∃ U V W X,Jn 42 a w [(0,k),(1,.func (.func 264) #[] #[pt n 0,pt f 0,pt g 0]),(5,i_ W),(6,i_ l)] (Row 80 aB k V::Blk n 144 [u,x,y,A,B,i_ o,C]::Blk f 100 [.func (.func 310) #[] #[pt c 0]]::Blk g 237 [pt e 0]::Blk c 144 [D,F,.string j,G,I,J,K]::Blk e 240 [k,L,M,N,O,P,U]::Row 9 kS U X::Fo) rs (gN (dP o j p) l V W X=some r)) ?_ ?_
    ·refine wB<|sp 2 E z λa E=>bd m λb s m=>?_;obtain ⟨c4,c5,Y⟩:=H.rowformNE (i:=0) z s;refine sv2 E z (dS (d:=aB) E Y z z z z U22 iL s) λa E=>sv2 E z (lG (i:=0) E H cZ Y z z z s (us:=[.string b.Path,.string b.Data,i_ b.Version,i_ b.Turn,i_ b.Owner]) z U80 z iL) λa E=>al2 E H z IW λc6 w a H E=>ss 0 E H z iL z λw H=>xp 1 E z λa E=>ln 0 (nR b) E H U80 z iL λa E=>have H:=H.frs [1,1,7,7,6,7,7,7] z;bd m λc7 b5 m=>bP E (wn z) z z (bT E z z z ((cf_ 264) _)) (Bi H b5)<|op1 λc8 w H a E=>pn 1 E z λa E=>wif E m z (λm=>?_) λm=>wK<|bR<|aA<|have H:=H.drop 6;have H:=H.frs [5,5,4,5,5,5,6] z;X5 ⟨E.to z,H,q,m⟩;refine sp 2 E z λa E=>ln 6 (nR b) E H U80 z iL λa E=>bd m λc9 t m=>?_;obtain ⟨d0,d1,Z⟩:=H.rowformNE (i:=7) z t;exact sv2 E z (dS (d:=aB) E Z z z z z U22 iL t) λa E=>Al (d:=aB) (i:=7) (us:=[.string b.Path,.string b.Data,i_ b.Version,i_ b.Turn,i_ b.Owner]) (z':=b) E H cZ (wn z) z Z z z z z z z z t iL λw H=>nt<|wG<|pr 3 E z λa E=>wN<|bR<|aA<|have H:=H.drop 6;have H:=H.frs [5,5,4,5,5,5,6] z;X5 ⟨E.to z,H,q,m⟩
    clear E H m;rintro a w ⟨U,V,W,X,c2,E,H,b6,m⟩;exact wG<|pn 3 E z λa E=>⟨p,nL p,X6 ⟨E.to z,H,b6,m⟩⟩
   ·refine wX<|aW<|aW<|cR<|aA<|sp 2 E z λa E=>bk m λb0 m=>sv2 E z (Io (d:=aB) (i:=0) E H z z z z U22 iL b0) λa E=>Ch (i:=0) (z0:=(⟨⟨#[]⟩,⟨#[]⟩,0,0,0⟩:aH)) E H cZ (wn z) z z z U22 VA z z z b0 λw H=>xp 2 E z λa E=>bk m λb7 m=>Ff (i:=0) E H cZ (wn z) z z z z z z U22 iL b7 λd2 a H E=>pn 1 E z λa E=>wR<|o1 E z<|have H:=H.frs [6,6,5,6,6,6,6] z;?_;cases m;exact ⟨_,_,z,H.reads q⟩

def yU(f:List aH)(d:List BY)(b:bL):Option Su:=
  (I5 b).bind λe=>(kV f b.Owner e.2.2.1 d).bind λc=>some (c.1,c.2)
theorem Ow{l:Nat}{p c d e f g j:VL}{q:List aH}{k:List BY}{b:bL}(H:Sep w (Blk l 240 [p,d,e,f,g,j,c]::Row 80 aB p q::Row 9 kS c k::Fo) rs){r:cT×eC}(m:yU q k b=some r) :
    Cf 193 [pt l 0,.agg (cI b).toArray] w λv w'=>∃ s t,.tuple #[]=v/\Sep w' (Blk l 240 [s,d,e,f,g,j,t]::Row 80 aB s r.1::Row 9 kS t r.2::Fo) (rs):=by
 refine ent func193 z ntmps193 z z λa E=>sq<|bx E H z λu w a H E=>bx E H z λx w a H E=>nx<|ln 0 (cI b) E H sX z iX λa E=>bd m λy n m=>xc2 E z (cf_ 261) (Lz H n)<|op1 λA w H a E=>al1 E H z z z z UY z λB w a H E=>ss 0 E H z UZ z λw H=>nt<|dw [(6,0),(0,0),(1,1),(2,0),(3,0),(4,0),(5,1),(7,1),(8,2),(9,2),(10,2),(11,2)] [3] [] H (by kernel_rfl) (λ_ _ _ h=>False.elim h.2) λw W0 hI H=>fv E z (λw hW=>(oP E z z z)) λa E=>fb2 E m0 DM z λa E=>bO z<|lb2 E H 3 DM z λa E=>nt<|⟨sx H [3] z,fn 3 E z λa E=>bO z<|lb2 E H 4 U22 z λa E=>nt<|⟨sx H [3] z,bO z<|have H:=H.frs [6,5,5,4,4,5,6] z;bd m λC o m=>xc2 E z (cf_ 263) (O5 H o)<|?_⟩⟩
 rintro _ w ⟨D,F,rfl,H⟩ a E;refine nt<|⟨sx H [4] z,bJ z<|pn 1 E z λa E=>bJ z<|pn 1 E z λa E=>bJ z<|pn 1 E z λa E=>bJ z<|?_⟩
 obtain ⟨q28,G,rfl⟩:=H.rowform (i:=0) z;refine ss 5 E H z Lq z λw H=>nt<|bF<|?_;clear hI;refine yJ E z<|have H:=H.drs [1,1,1,1];have H:=H.frs [2,1,2] z;?_;cases m;exact ⟨_,_,z,H.reads Y0⟩

def uB(b:Int×Int×BY×BY×Int×eC)(c:Bool):Option Sv:=
  if c=true then ((iM 65).bind λd=>some (d,(ByteArray.mk #[]),(ByteArray.mk #[]),0,[])) else (some (b.2.1,b.2.2.1,b.2.2.2.1,b.2.2.2.2.1,b.2.2.2.2.2))
def yV(c:List aH)(g:Int)(i:BY)(j:BY)(k:Int)(d:List BY)(e:bL):Option Sv:=
  (jR c g i j k d e).bind λb=>if (decide (0 <= b.1))=true then ((idx c b.1).bind λf=>uB b (f.Owner != 0)) else (uB b false)
theorem Ox{g:Nat}{f s j:VL}{q:List aH}{A B:Int}{C D:BY}{t:List BY}{l:bL}(H:Sep w (Blk g 240 [f,j,i_ A,.string C,.string D,i_ B,s]::Row 80 aB f q::Row 9 kS s t::Fo) rs){r:Int×BY×BY×Int×eC}(m:yV q A C D B t l=some r) :
    Cf 184 [pt g 0,.agg (cI l).toArray] w λv w'=>∃ F,.tuple #[]=v/\Sep w' (Blk g 240 [f,j,i_ r.1,.string r.2.1,.string r.2.2.1,i_ r.2.2.2.1,F]::Row 80 aB f q::Row 9 kS F r.2.2.2.2::Fo) (rs):=by
 refine ent func184 z ntmps184 z z λa E=>sq<|bx E H z λI w a H E=>xp 1 E z λa E=>ln 0 (cI l) E H sX z iX λa E=>have H:=H.frs [0,3,3,3] z;bd m λc x m=>xc2 E z (cf_ 251) (wC H x)<|op1 λu w H a E=>pn 1 E z λa E=>aN (λa w=>∃ n,Jn 19 a w [(0,pt g 0),(16,.bool n)] (Blk g 240 [f,j,i_ c.2.1,.string c.2.2.1,.string c.2.2.2.1,i_ c.2.2.2.2.1,u]::Row 80 aB f q::Row 9 kS u c.2.2.2.2.2::Fo) rs (uB c n=some r)) ?_ ?_
 ·refine wG<|pr 1 E z λa E=>sv2 E z (Rw E Sr Ss z z z) λa E=>pr 1 E z λa E=>cs m (λb m=>?_) λb m=>pk 6 E (kc 10 z b) z λa E=>nt<|have H:=H.drop 3;⟨_,_,E.to z,H,Y0,m⟩;refine pk 1 E (kc 10 z b) z λa E=>bd m λJ e m=>?_;obtain ⟨K,L,o⟩:=H.rowformNE (i:=1) z e;rw [Lb 5 o e] at E;exact pk 2 E (kc 10 z b) z λa E=>gv 10 E b z (tV (d:=aB) (i:=1) (k:=4) E H cZ o z z z e z U2 z) λa E=>pk 2 E (kc 10 z b) z λa E=>nt<|have H:=H.drop 3;⟨_,_,E.to z,H,Y0,m⟩
 ·clear E H m;rintro a w ⟨n,G,E,H,p,m⟩;refine wif E m z (λm=>?_) λm=>?_
  ·refine wG<|pr 1 E z λa E=>bd m λM y m=>xk2 E z (cf_ 252) (tA H y) λw H a E=>wN<|yJ E z<|have H:=H.nilRow 9 kS;have H:=H.drop 3;have H:=H.frs [0,2,2] z;?_;cases m;exact ⟨_,z,H.reads p⟩
  ·refine wK<|yJ E z<|?_;cases m;exact ⟨_,z,H.reads p⟩

def B4(e:List aH)(f:Int)(g:BY)(i:BY)(j:Int)(c:List BY)(d:bL):Option Sv:=
  (jR e f g i j c d).bind λb=>some (b.2.1,b.2.2.1,b.2.2.2.1,b.2.2.2.2.1,b.2.2.2.2.2)
theorem Ta{g:Nat}{c d e:VL}{i:List aH}{k l:Int}{n o:BY}{f:List BY}{b:bL}(H:Sep w (Blk g 240 [c,e,i_ k,.string n,.string o,i_ l,d]::Row 80 aB c i::Row 9 kS d f::Fo) rs){r:Int×BY×BY×Int×eC}(m:B4 i k n o l f b=some r) :
    Cf 191 [pt g 0,.agg (cI b).toArray] w λv w'=>∃ p,.tuple #[]=v/\Sep w' (Blk g 240 [c,e,i_ r.1,.string r.2.1,.string r.2.2.1,i_ r.2.2.2.1,p]::Row 80 aB c i::Row 9 kS p r.2.2.2.2::Fo) (rs):=by
 refine ent func191 z ntmps191 z z λa E=>sq<|bx E H z λq w a H E=>nt<|wG<|pr 1 E z λa E=>ln 0 (cI b) E H sX z iX λa E=>have H:=H.frs [0,3,3,3] z;bd m λs j m=>xc2 E z (cf_ 251) (wC H j)<|op1 λt w H a E=>wN<|yJ E z<|have H:=H.drop 3;?_;cases m;exact ⟨_,z,H.reads Y0⟩

def zS(c:List aH)(g:Int)(i:BY)(j:BY)(k:Int)(d:List BY)(e:bL):Option Sv:=
  (jR c g i j k d e).bind λb=>if (decide (0 <= b.1))=true then ((idx c b.1).bind λf=>some (b.2.1,b.2.2.1,b.2.2.2.1,f.Version,b.2.2.2.2.2)) else (some (b.2.1,b.2.2.1,b.2.2.2.1,b.2.2.2.2.1,b.2.2.2.2.2))
theorem Qs{n:Nat}{f g j:VL}{o:List aH}{q s:Int}{t u:BY}{l:List BY}{c:bL}(H:Sep w (Blk n 240 [f,j,i_ q,.string t,.string u,i_ s,g]::Row 80 aB f o::Row 9 kS g l::Fo) rs){r:Int×BY×BY×Int×eC}(m:zS o q t u s l c=some r) :
    Cf 189 [pt n 0,.agg (cI c).toArray] w λv w'=>∃ x,.tuple #[]=v/\Sep w' (Blk n 240 [f,j,i_ r.1,.string r.2.1,.string r.2.2.1,i_ r.2.2.2.1,x]::Row 80 aB f o::Row 9 kS x r.2.2.2.2::Fo) (rs):=by
 refine ent func189 z ntmps189 z z λa E=>sq<|bx E H z λy w a H E=>xp 1 E z λa E=>ln 0 (cI c) E H sX z iX λa E=>have H:=H.frs [0,3,3,3] z;bd m λA p m=>xc2 E z (cf_ 251) (wC H p)<|op1 λB w H a E=>pr 1 E z λa E=>xp 1 E z λa E=>sv2 E z (Rw E Sr Ss z z z) λa E=>nt<|wif E m z (λm=>?_) λm=>?_
 ·refine wG<|pr 2 E z λa E=>bd m λC b m=>?_;obtain ⟨D,F,e⟩:=H.rowformNE (i:=1) z b;rw [Lb 5 e b] at E;refine pr 2 E z λa E=>sv2 E z (tV (d:=aB) (i:=1) (k:=2) E H cZ e z z z b z U2 z) λa E=>pr 3 E z λa E=>ss 0 E H z sz2 z λw H=>wN<|yJ E z<|have H:=H.drop 3;?_;cases m;exact ⟨_,z,H.reads Y0⟩
 ·refine wK<|yJ E z<|have H:=H.drop 3;?_;cases m;exact ⟨_,z,H.reads Y0⟩

def uC(rec_1:Int->eC->Option eC)(b:Int)(c:eC):Option eC:=
  rec_1 (IntKind.i64.wrap (b+1)) c
def lN(e:List aH)(d:Int×BY×BY×BY×Int×Int×Bool):Nat->Int->eC->Option eC
  | 0,_,_=>none
  | i+1,b,c=>
    if (decide (b < (e.length:Int)))=true then ((idx e b).bind λf=>(D9 f d.2.2.1).bind λj=>if j=true then ((D6 f.Path).bind λg=>(ck (c.length+([g]:List BY).length <= LIM)).bind λk=>uC (lN e d i) b (c ++ ([g]:List BY))) else (uC (lN e d i) b c)) else (some (c))
def yW(b:List aH)(c:List BY)(d:bL):Option eC:=
  (I5 d).bind λe=>lN b e (((b.length:Int) - 0:Int).toNat+1) 0 c
theorem Oy{k:Nat}{c J p q s t u:VL}{f:List aH}{K:List BY}{B:bL}(H:Sep w (Blk k 240 [c,p,q,s,t,u,J]::Row 80 aB c f::Row 9 kS J K::Fo) rs){r:eC}(m:yW f K B=some r) :
    Cf 192 [pt k 0,.agg (cI B).toArray] w λv w'=>∃ Q,.tuple #[]=v/\Sep w' (Blk k 240 [c,p,q,s,t,u,Q]::Row 80 aB c f::Row 9 kS Q r::Fo) (rs):=by
 refine ent func192 z ntmps192 z z λa E=>sq<|bx E H z λT w a H E=>nx<|ln 0 (cI B) E H sX z iX λa E=>bd m λb L m=>xc2 E z (cf_ 261) (Lz H L)<|op1 λy w H a E=>pr 1 E z λa E=>xp 4 E z λa E=>lb2 E H 2 U22 z λa E=>sv2 E z (lF (i:=3) E H z z z U22) λa E=>pn 1 E z λa E=>wB<|bK (λl a w=>∃ C j D,Jn 37 a w [(0,pt k 0),(4,.func (.func 310) #[] #[pt y 0]),(13,c),(14,i_ (f.length:Int)),(15,i_ j)] (Blk k 240 [c,p,q,s,t,u,C]::Blk y 144 [i_ b.1,.string b.2.1,.string b.2.2.1,.string b.2.2.2.1,i_ b.2.2.2.2.1,i_ b.2.2.2.2.2.1,.bool b.2.2.2.2.2.2]::Row 80 aB c f::Row 9 kS C D::Fo) rs (lN f b l j D=some r)) (((f.length:Int) - 0:Int).toNat+1) (have H:=H.drop 1;have H:=H.frs [3,3,2,3] z;X4 ⟨E.to z,H,Y0,m⟩) ?_;clear E H m;rintro l a w ⟨C,j,D,R,E,H,n,m⟩;cases l with
 | zero=>exact (bH m z).elim
 | succ l=>
  unfold lN at m;refine sq<|pn 1 E z λa E=>wS<|wif E m z (λm=>?_) λm=>?_
  ·refine wK<|aA<|aN (λa w=>∃ F G,Jn 37 a w [(0,pt k 0),(4,.func (.func 310) #[] #[pt y 0]),(13,c),(14,i_ (f.length:Int)),(15,i_ j)] (Blk k 240 [c,p,q,s,t,u,F]::Blk y 144 [i_ b.1,.string b.2.1,.string b.2.2.1,.string b.2.2.2.1,i_ b.2.2.2.2.1,i_ b.2.2.2.2.2.1,.bool b.2.2.2.2.2.2]::Row 80 aB c f::Row 9 kS F G::Fo) rs (uC (lN f b l) j G=some r)) ?_ ?_
   ·refine wB<|sq<|bd m λg o m=>?_;obtain ⟨U,V,I⟩:=H.rowformNE (i:=2) z o;refine sv2 E z (dS (d:=aB) E I z z z z U22 iL o) λa E=>sv2 E z (lG (i:=2) E H cZ I z z z o (us:=[.string g.Path,.string g.Data,i_ g.Version,i_ g.Turn,i_ g.Owner]) z U80 z iL) λa E=>al2 E H z IW λW w a H E=>ss 0 E H z iL z λw H=>xp 1 E z λa E=>ln 0 (nR g) E H U80 z iL λa E=>have H:=H.frs [4,4,3,3,4] z;bd m λX M m=>bP E (wn z) z z (bT E z z z ((cf_ 310) _)) (Gp H M)<|op0 λw H a E=>nt<|wif E m z (λm=>?_) λm=>wK<|bR<|aA<|have H:=H.drop 1;have H:=H.frs [3,3,2,3] z;X3 ⟨E.to z,H,n,m⟩;refine dz [0,0,0,0,0,0,0,0,1,1,1,2,2,2,2] [1,2] H λw W0 hI H=>fn 5 E z λa E=>fb2 E mm1 U43 z λa E=>fn 1 E z λa E=>fb2 E m0 U9 z λa E=>bO z<|bd m λA N m=>xk2 E z (cf_ 256) (Gi H N) λw H a E=>nt<|⟨sx H [1,2] z,bO z<|tE (e:=9) (d:=kS) (cs:=[.string A]) (xs:=[A]) E H (wn z) z z z (E.evs z) (by kernel_rfl) z (λok hr=>(Rows.single (d:=kS) (cs:=[.string A]) (x:=A) z)) λY w a H E=>nt<|⟨sx H [1,2] z,bO z<|bk m λO m=>gG (i:=4) E H (wn z) z z z z z z (qS m0) U43 Yd z O z λZ w a H E=>nt<|⟨sx H [1,2] z,bJ z<|pn 1 E z λa E=>bJ z<|pn 1 E z λa E=>bJ z<|pn 1 E z λa E=>bJ z<|?_⟩⟩⟩
    obtain ⟨q45,b0,rfl⟩:=H.rowform (i:=4) z;refine ss 2 E H z RO z λw H=>nt<|bF<|?_;clear hI;exact bR<|aA<|have H:=H.drop 1;have H:=H.frs [3,3,2,3] z;X3 ⟨E.to z,H,(Y1 n),m⟩
   clear E H m;rintro a w ⟨F,G,S,E,H,P,m⟩;exact wG<|pn 2 E z λa E=>⟨l,nL l,X4 ⟨E.to z,H,P,m⟩⟩
  ·refine wX<|aW<|aW<|cR<|yJ E z<|have H:=H.drop 1;?_;cases m;exact ⟨_,z,H.reads n⟩

def zT(d:List aH)(g:Int)(i:BY)(j:BY)(k:Int)(e:List BY)(f:bL):Option Sv:=
  (jR d g i j k e f).bind λb=>if (decide (0 <= b.1))=true then ((idx d b.1).bind λc=>some (b.2.1,b.2.2.1,c.Data,c.Version,b.2.2.2.2.2)) else (some (b.2.1,b.2.2.1,b.2.2.2.1,b.2.2.2.2.1,b.2.2.2.2.2))
theorem Qt{n:Nat}{f g j:VL}{o:List aH}{q s:Int}{t u:BY}{l:List BY}{e:bL}(H:Sep w (Blk n 240 [f,j,i_ q,.string t,.string u,i_ s,g]::Row 80 aB f o::Row 9 kS g l::Fo) rs){r:Int×BY×BY×Int×eC}(m:zT o q t u s l e=some r) :
    Cf 190 [pt n 0,.agg (cI e).toArray] w λv w'=>∃ x,.tuple #[]=v/\Sep w' (Blk n 240 [f,j,i_ r.1,.string r.2.1,.string r.2.2.1,i_ r.2.2.2.1,x]::Row 80 aB f o::Row 9 kS x r.2.2.2.2::Fo) (rs):=by
 refine ent func190 z ntmps190 z z λa E=>sq<|bx E H z λy w a H E=>xp 1 E z λa E=>ln 0 (cI e) E H sX z iX λa E=>have H:=H.frs [0,3,3,3] z;bd m λA p m=>xc2 E z (cf_ 251) (wC H p)<|op1 λB w H a E=>pr 1 E z λa E=>xp 1 E z λa E=>sv2 E z (Rw E Sr Ss z z z) λa E=>nt<|wif E m z (λm=>?_) λm=>?_
 ·refine dz [0,0,0,0,0,0,0,0,0,0,0,0,0,1,2,2,2,2] [1] H λw W0 hI H=>fn 3 E z λa E=>bd m λC b m=>?_;obtain ⟨D,F,c⟩:=H.rowformNE (i:=1) z b;rw [Lb 5 c b] at E;refine fn 2 E z λa E=>fv E z (λw hW=>Px (d:=aB) (k:=1) E cZ c b m0 z z z U9 z hW) λa E=>fn 3 E z λa E=>fv E z (λw hW=>Px (d:=aB) (k:=2) E cZ c b m0 z z z U2 z hW) λa E=>fn 3 E z λa E=>bO z<|ss 0 E H z sz9 z λw H=>nt<|⟨sx H [1] z,bJ z<|pn 1 E z λa E=>bJ z<|pn 1 E z λa E=>bJ z<|pn 1 E z λa E=>bJ z<|ss 0 E H z sz2 z λw H=>nt<|bF<|?_⟩
  clear hI;refine yJ E z<|have H:=H.drop 3;?_;cases m;exact ⟨_,z,H.reads Y0⟩
 ·refine wK<|yJ E z<|have H:=H.drop 3;?_;cases m;exact ⟨_,z,H.reads Y0⟩

def xK(d:List aH)(g:Int)(i:BY)(j:BY)(k:Int)(f:List BY)(e:bL):Option SN:=
  (jR d g i j k f e).bind λb=>if (decide (0 <= b.1))=true then ((oM d e.Path).bind λc=>(ck (0 <= c.1/\c.1 < d.length/\IntKind.i64.wrap (c.1+1)=c.1+1)).bind λl=>some (d.eraseIdx c.1.toNat,b.2.1,b.2.2.1,b.2.2.2.1,b.2.2.2.2.1,b.2.2.2.2.2)) else (some (d,b.2.1,b.2.2.1,b.2.2.2.1,b.2.2.2.2.1,b.2.2.2.2.2))
theorem Ma{f:Nat}{l c d:VL}{n:List aH}{o p:Int}{q s:BY}{e:List BY}{b:bL}(H:Sep w (Blk f 240 [l,d,i_ o,.string q,.string s,i_ p,c]::Row 80 aB l n::Row 9 kS c e::Fo) rs){r:cT×Int×BY×BY×Int×eC}(m:xK n o q s p e b=some r) :
    Cf 186 [pt f 0,.agg (cI b).toArray] w λv w'=>∃ t u,.tuple #[]=v/\Sep w' (Blk f 240 [t,d,i_ r.2.1,.string r.2.2.1,.string r.2.2.2.1,i_ r.2.2.2.2.1,u]::Row 80 aB t r.1::Row 9 kS u r.2.2.2.2.2::Fo) (rs):=by
 refine ent func186 z ntmps186 z z λa E=>sq<|bx E H z λx w a H E=>xp 1 E z λa E=>ln 0 (cI b) E H sX z iX λa E=>have H:=H.frs [0,3,3,3] z;bd m λy g m=>xc2 E z (cf_ 251) (wC H g)<|op1 λA w H a E=>sv2 E z (Rw E Sr Ss z z z) λa E=>nt<|wif E m z (λm=>?_) λm=>?_
 ·refine sp 2 E z λa E=>lb2 E H 3 U9 z λa E=>bd m λB j m=>xk2 E z (cf_ 257) (V1 H j) λw H a E=>pn 5 E z λa E=>wG<|pr 5 E z λa E=>lb2 E H 0 U22 z λa E=>pr 3 E z λa E=>bk m λk m=>xc2 E z (cf_ 260) (delete_c (ix:=1) H z k) λC w H a E=>pr 3 E z λa E=>?_;obtain ⟨q23,D,rfl⟩:=H.rowform (i:=1) z;refine ss 0 E H z Lq z λw H=>wN<|yJ E z<|have H:=H.drop 3;?_;cases m;exact ⟨_,_,z,H.reads Y0⟩
 ·refine wK<|yJ E z<|have H:=H.drop 3;?_;cases m;exact ⟨_,_,z,H.reads Y0⟩

def dZ(c:List aH)(d:BY):Nat->Int->Option Int
  | 0,_=>none
  | f+1,b=>
    if (decide (b < (c.length:Int)))=true then ((idx c b).bind λx20=>(D9 x20 d).bind λe=>if e=true then (some (b)) else (dZ c d f (IntKind.i64.wrap (b+1)))) else (some ((-1)))
def jZ(b:List aH)(c:BY):Option Int:=
  dZ b c (((b.length:Int) - 0:Int).toNat+1) 0
theorem M7{g j k l n o p:VL}{b:List aH}{q:Nat}{s:BY}(H:Sep w (Row 80 aB g b::Blk q 144 [j,k,.string s,l,n,o,p]::Fo) rs){r:Int}(m:jZ b s=some r) :
    Cf 101 [g,.func (.func 310) #[] #[pt q 0]] w λv w'=>.int .i64 r=v/\Sep w' (Blk q 144 [j,k,.string s,l,n,o,p]::Row 80 aB g b::Fo) (rs):=by
 refine ent func101 z ntmps101 z z λa E=>sq<|pn 1 E z λa E=>wS<|sp 1 E z λa E=>sv2 E z (lF (i:=0) E H z z z U22) λa E=>pr 1 E z λa E=>nt<|wB<|bK (λf a w=>∃ t,Jn 19 a w [(0,g),(1,.func (.func 310) #[] #[pt q 0]),(7,i_ (b.length:Int)),(8,i_ t)] (Row 80 aB g b::Blk q 144 [j,k,.string s,l,n,o,p]::Fo) rs (dZ b s f t=some r)) (((b.length:Int) - 0:Int).toNat+1) (⟨_,_,E.to z,H,Y0,m⟩) ?_;clear E H m;rintro f a w ⟨t,y,E,H,c,m⟩;cases f with
 | zero=>exact (bH m z).elim
 | succ f=>
  unfold dZ at m;refine sq<|pn 1 E z λa E=>wS<|wif E m z (λm=>?_) λm=>wX<|aW<|aW<|cR<|aA<|sq<|pn 1 E z λa E=>wR<|o1 E z<|have H:=H.frs [0,1] z;d_ m z (H.reads c);refine wK<|aA<|wS<|wB<|sp 2 E z λa E=>xp 3 E z λa E=>bd m λx20 e m=>?_;obtain ⟨A,B,u⟩:=H.rowformNE (i:=0) z e;exact sv2 E z (dS (d:=aB) E u z z z z U22 iL e) λa E=>sv2 E z (lG (i:=0) E H cZ u z z z e (us:=[.string x20.Path,.string x20.Data,i_ x20.Version,i_ x20.Turn,i_ x20.Owner]) z U80 z iL) λa E=>have H:=H.frs [0,1] z;bd m λC x m=>bP E (wn z) z z (bT E z z z ((cf_ 310) _)) (Gp H x)<|op0 λw H a E=>nt<|wif E m z (λm=>sq<|pn 2 E z λa E=>wR<|bM<|aJ<|aJ<|bM<|aJ<|o1 E z<|d_ m z (H.reads c)) λm=>wK<|bR<|aA<|wG<|pn 2 E z λa E=>have H:=H.frs [0,1] z;⟨f,nL f,_,_,E.to z,H,c,m⟩

def gE(c:List aH)(d:BY):Option Bool:=
  (jZ c d).bind λb=>some (decide (b ≥ 0))
theorem I1{i b c d e f g:VL}{j:List aH}{k:Nat}{l:BY}(H:Sep w (Row 80 aB i j::Blk k 144 [b,c,.string l,d,e,f,g]::Fo) rs){r:Bool}(m:gE j l=some r) :
    Cf 51 [i,.func (.func 310) #[] #[pt k 0]] w λv w'=>.bool r=v/\Sep w' (Blk k 144 [b,c,.string l,d,e,f,g]::Row 80 aB i j::Fo) (rs):=ent func51 z ntmps51 z z λa E=>sp 1 E z λa E=>xp 2 E z λa E=>bd m λo n m=>xk2 E z (cf_ 101) (M7 H n) λw H a E=>pn 2 E z λa E=>wR<|o1 E z<|d_ m z (H.reads Y0)

def M8:Option Unit:=
  some ()
theorem Kk{b:VL}(H:Sep w (Fo) rs){r:Unit}(m:M8=some r) :
    Cf 262 [b] w λv w'=>.int .i64 0=v/\Sep w' (Fo) (rs):=by
 refine ent func262 z ntmps262 z z λa E=>sp 1 E z λa E=>nx<|pn 1 E z λa E=>wR<|o1 E z<|?_;cases m;exact ⟨z,H.reads Y0⟩

def vP(b:aQ)(c:cN):Option Dq:=
  some (b.Next,c)
def rX(b:Int×Bool)(c:cN):Option Dq:=
  (idx c b.1).bind λe=>M8.bind λg=>(idx c b.1).bind λd=>(idx (c.set b.1.toNat ({ d with Next:=0 }:aQ)) b.1).bind λf=>if (f.Next == 0)=true then ((ck (0 <= b.1/\b.1 < (c.set b.1.toNat ({ d with Next:=0 }:aQ)).length/\IntKind.i64.wrap (b.1+1)=b.1+1)).bind λi=>vP e ((c.set b.1.toNat ({ d with Next:=0 }:aQ)).eraseIdx b.1.toNat)) else (vP e (c.set b.1.toNat ({ d with Next:=0 }:aQ)))
def zU(c:List aQ)(d:BY):Option Dq:=
  (cU c d).bind λb=>if (!b.2)=true then ((ck (0 <= b.1/\b.1 <= c.length/\c.length <= 1000000)).bind λe=>rX b (c.take b.1.toNat ++ (⟨d,0⟩:aQ)::c.drop b.1.toNat)) else (rX b c)
theorem Qu{s:Nat}{O j l n o p q:VL}{P:List aQ}{b:BY}(H:Sep w (Blk s 240 [j,O,l,n,o,p,q]::Row 71 aC O P::Fo) rs){r:Int×cN}(m:zU P b=some r) :
    Cf 253 [pt s 0,.string b,.func (.func 262) #[] #[]] w λv w'=>∃ Q,i_ r.1=v/\Sep w' (Blk s 240 [j,Q,l,n,o,p,q]::Row 71 aC Q r.2::Fo) (rs):=by
 refine ent func253 z ntmps253 z z λa E=>sp 1 E z λa E=>xp 4 E z λa E=>lb2 E H 0 U23 z λa E=>pr 1 E z λa E=>have H:=H.frs [0,1] z;bd m λG J m=>xk2 E z (cf_ 301) (iZ H J) λw H a E=>pn 5 E z λa E=>aN (λa w=>∃ t u,Jn 80 a w [(0,pt s 0),(2,.func (.func 262) #[] #[]),(7,i_ G.1)] (Blk s 240 [j,t,l,n,o,p,q]::Row 71 aC t u::Fo) rs (rX G u=some r)) ?_ ?_
 ·refine sq<|pn 2 E z λa E=>wif E m z (λm=>?_) λm=>wK<|aA<|have H:=H.frs [0,1] z;X3 ⟨E.to z,H,Y0,m⟩;refine wG<|pr 5 E z λa E=>lb2 E H 1 U23 z λa E=>pr 2 E z λa E=>sv2 E z (cP E z (E.evs z) (v:=.agg #[.string b,i_ 0]) (by kernel_rfl)) λa E=>pL (e:=71) (d:=aC) (cs:=[.string b,i_ 0]) (xs:=[(⟨b,0⟩:aQ)]) E H (wn z) z z z (E.evs z) (by kernel_rfl) z z (λok hr=>(Rows.single (d:=aC) (cs:=[.string b,i_ 0]) (x:=(⟨b,0⟩:aQ)) uX)) λU w a H E=>bk m λK m=>xc2 E z (cf_ 303) (Tn.insert_a (ix:=1) (iu:=0) H z z (by decide) K) λV w H a E=>pr 3 E z λa E=>?_;obtain ⟨q55,W,rfl⟩:=H.rowform (i:=1) z;exact ss 2 E H z Ei z λw H=>nt<|have H:=H.drop 0;have H:=H.frs [0,1] z;X3 ⟨E.to z,H,Y0,m⟩
 ·clear E H m;rintro a w ⟨t,u,S,E,H,y,m⟩;refine sp 4 E z λa E=>lb2 E H 0 U23 z λa E=>pr 1 E z λa E=>bd m λI c m=>?_;obtain ⟨X,Y,A⟩:=H.rowformNE (i:=1) z c;refine sv2 E z (dS (d:=aC) E A z z z z U23 nU c) λa E=>pr 1 E z λa E=>sv2 E z (tV (d:=aC) (i:=1) (k:=1) E H eE A z z z c z U2 z) λa E=>pn 1 E z λa E=>aN (λa w=>∃ B C,Jn 80 a w [(9,i_ I.Next)] (Blk s 240 [j,B,l,n,o,p,q]::Row 71 aC B C::Fo) rs (vP I C=some r)) ?_ ?_
  ·refine wS<|dz [0,0,0,0,0,0,0,0,1,2,2,2] [0] H λw W0 hI H=>fn 4 E z λa E=>fb2 E m0 U23 z λa E=>fn 3 E z λa E=>bO z<|bd m λZ L m=>bP E (wn z) z z (bT E z z z ((cf_ 262) _)) (Kk H L)<|op0 λw H a E=>nt<|⟨sx H [0] z,bJ z<|bd m λR f m=>?_⟩
   obtain ⟨b0,b1,D⟩:=H.rowformNE (i:=1) z f;refine sv2 E z (dS (d:=aC) E D z z z z U23 nU f) λa E=>nt<|bJ z<|pn 1 E z λa E=>bJ z<|Cw (d:=aC) (i:=1) (k:=1) (z':=({ R with Next:=0 }:aQ)) E H eE (wn z) z D z z z z z z f z z sz2 λw H=>nt<|bF<|?_;clear hI;refine aA<|sp 4 E z λa E=>lb2 E H 0 U23 z λa E=>pr 1 E z λa E=>bd m λb2 g m=>?_;obtain ⟨b3,b4,F⟩:=H.rowformNE (i:=1) z g;refine sv2 E z (dS (d:=aC) E F z z z z U23 nU g) λa E=>pr 1 E z λa E=>sv2 E z (tV (d:=aC) (i:=1) (k:=1) E H eE F z z z g z U2 z) λa E=>pn 1 E z λa E=>wif E m z (λm=>?_) λm=>wK<|aA<|X3 ⟨E.to z,H,y,m⟩;refine wG<|pr 5 E z λa E=>lb2 E H 0 U23 z λa E=>pr 3 E z λa E=>bk m λM m=>xc2 E z (cf_ 304) (Tn.delete_c (ix:=1) H z M) λb5 w H a E=>pr 3 E z λa E=>?_;obtain ⟨q49,b6,rfl⟩:=H.rowform (i:=1) z;exact ss 0 E H z Ei z λw H=>nt<|X3 ⟨E.to z,H,y,m⟩
  ·clear E H m;rintro a w ⟨B,C,T,E,H,N,m⟩;refine sq<|pn 2 E z λa E=>wR<|o1 E z<|?_;cases m;exact ⟨_,z,H.reads N⟩

def E7(j:List aH)(c:List aQ)(k:Int)(l:BY)(m:BY)(n:Int)(d:List BY)(b:bL):Option (cN×Int×BY×BY×Int×eC):=
  (I5 b).bind λe=>(gE j e.2.2.1).bind λf=>if f=true then ((iM 64).bind λg=>some (c,g,(ByteArray.mk #[]),(ByteArray.mk #[]),0,[])) else ((zU c b.Path).bind λi=>some (i.2,k,l,m,n,d))
theorem Oz{f:Nat}{c n d:VL}{g:List aH}{o:List aQ}{p q:Int}{s t:BY}{e:List BY}{b:bL}(H:Sep w (Blk f 240 [c,n,i_ p,.string s,.string t,i_ q,d]::Row 80 aB c g::Row 71 aC n o::Row 9 kS d e::Fo) rs){r:cN×Int×BY×BY×Int×eC}(m:E7 g o p s t q e b=some r) :
    Cf 187 [pt f 0,.agg (cI b).toArray] w λv w'=>∃ u x,.tuple #[]=v/\Sep w' (Blk f 240 [c,u,i_ r.2.1,.string r.2.2.1,.string r.2.2.2.1,i_ r.2.2.2.2.1,x]::Row 80 aB c g::Row 71 aC u r.1::Row 9 kS x r.2.2.2.2.2::Fo) (rs):=by
 refine ent func187 z ntmps187 z z λa E=>sq<|bx E H z λy w a H E=>nt<|wS<|wS<|dz [0,0,0,0,0,0,1,1] [0,1] H λw W0 hI H=>fn 4 E z λa E=>fb2 E mm1 U22 z λa E=>fbn E (cI b) z (wn z) z z z z m0 z sX z iX λa E=>bO z<|bd m λA i m=>xc2 E z (cf_ 261) (Lz H i)<|op1 λB w H a E=>nt<|⟨sx H [1,2] z,bO z<|have H:=H.frs [5,5,4,4,4,5] z;bd m λC j m=>xk2 E z (cf_ 51) (I1 H j) λw H a E=>nt<|⟨sx H [2,3] z,bF<|?_⟩⟩
 clear hI;refine aA<|wif E m z (λm=>?_) λm=>?_
 ·refine sp 1 E z λa E=>have H:=H.frs [5,5,4,4,4,5] z;bd m λD k m=>xk2 E z (cf_ 252) (tA H k) λw H a E=>nt<|wR<|aJ<|Rl E z<|have H:=H.nilRow 9 kS;have H:=H.drs [2,3,4];have H:=H.frs [0,3,3,3] z;?_;cases m;exact ⟨_,_,z,H.reads Y0⟩
 ·refine wK<|aA<|wG<|pr 2 E z λa E=>lb2 E H 2 U9 z λa E=>have H:=H.frs [5,3,3,3,5,5] z;bd m λF l m=>xc2 E z (cf_ 253) (Qu H l)<|op1 λG w H a E=>wN<|yJ E z<|have H:=H.drs [2,3];have H:=H.frs [3,2,3,3] z;?_;cases m;exact ⟨_,_,z,H.reads Y0⟩

def E8(x1:Int):Option Int:=
  some (x1)
theorem Pa{x1:Int}(H:Sep w (Fo) rs){r:Int}(m:E8 x1=some r) :
    Cf 254 [i_ x1] w λv w'=>.int .i64 r=v/\Sep w' (Fo) (rs):=ent func254 z ntmps254 z z λa E=>sp 1 E z λa E=>nx<|pn 2 E z λa E=>wR<|o1 E z<|d_ m z (H.reads Y0)

def tG(b:aQ)(c:cN):Option Dq:=
  some (b.Next,c)
def pB(b:Int×Bool)(c:cN):Option Dq:=
  (idx c b.1).bind λf=>(E8 f.Next).bind λd=>(idx c b.1).bind λe=>(idx (c.set b.1.toNat ({ e with Next:=d }:aQ)) b.1).bind λg=>if (g.Next == 0)=true then ((ck (0 <= b.1/\b.1 < (c.set b.1.toNat ({ e with Next:=d }:aQ)).length/\IntKind.i64.wrap (b.1+1)=b.1+1)).bind λi=>tG f ((c.set b.1.toNat ({ e with Next:=d }:aQ)).eraseIdx b.1.toNat)) else (tG f (c.set b.1.toNat ({ e with Next:=d }:aQ)))
def xL(c:List aQ)(d:BY):Option Dq:=
  (cU c d).bind λb=>if (!b.2)=true then ((ck (0 <= b.1/\b.1 <= c.length/\c.length <= 1000000)).bind λe=>pB b (c.take b.1.toNat ++ (⟨d,0⟩:aQ)::c.drop b.1.toNat)) else (pB b c)
theorem Mb{s:Nat}{O j l n o p q:VL}{P:List aQ}{b:BY}(H:Sep w (Blk s 240 [j,O,l,n,o,p,q]::Row 71 aC O P::Fo) rs){r:Int×cN}(m:xL P b=some r) :
    Cf 253 [pt s 0,.string b,.func (.func 254) #[] #[]] w λv w'=>∃ Q,i_ r.1=v/\Sep w' (Blk s 240 [j,Q,l,n,o,p,q]::Row 71 aC Q r.2::Fo) (rs):=by
 refine ent func253 z ntmps253 z z λa E=>sp 1 E z λa E=>xp 4 E z λa E=>lb2 E H 0 U23 z λa E=>pr 1 E z λa E=>have H:=H.frs [0,1] z;bd m λG J m=>xk2 E z (cf_ 301) (iZ H J) λw H a E=>pn 5 E z λa E=>aN (λa w=>∃ t u,Jn 80 a w [(0,pt s 0),(2,.func (.func 254) #[] #[]),(7,i_ G.1)] (Blk s 240 [j,t,l,n,o,p,q]::Row 71 aC t u::Fo) rs (pB G u=some r)) ?_ ?_
 ·refine sq<|pn 2 E z λa E=>wif E m z (λm=>?_) λm=>wK<|aA<|have H:=H.frs [0,1] z;X3 ⟨E.to z,H,Y0,m⟩;refine wG<|pr 5 E z λa E=>lb2 E H 1 U23 z λa E=>pr 2 E z λa E=>sv2 E z (cP E z (E.evs z) (v:=.agg #[.string b,i_ 0]) (by kernel_rfl)) λa E=>pL (e:=71) (d:=aC) (cs:=[.string b,i_ 0]) (xs:=[(⟨b,0⟩:aQ)]) E H (wn z) z z z (E.evs z) (by kernel_rfl) z z (λok hr=>(Rows.single (d:=aC) (cs:=[.string b,i_ 0]) (x:=(⟨b,0⟩:aQ)) uX)) λV w a H E=>bk m λK m=>xc2 E z (cf_ 303) (Tn.insert_a (ix:=1) (iu:=0) H z z (by decide) K) λW w H a E=>pr 3 E z λa E=>?_;obtain ⟨q55,X,rfl⟩:=H.rowform (i:=1) z;exact ss 2 E H z Ei z λw H=>nt<|have H:=H.drop 0;have H:=H.frs [0,1] z;X3 ⟨E.to z,H,Y0,m⟩
 ·clear E H m;rintro a w ⟨t,u,T,E,H,y,m⟩;refine sp 4 E z λa E=>lb2 E H 0 U23 z λa E=>pr 1 E z λa E=>bd m λI c m=>?_;obtain ⟨Y,Z,A⟩:=H.rowformNE (i:=1) z c;refine sv2 E z (dS (d:=aC) E A z z z z U23 nU c) λa E=>pr 1 E z λa E=>sv2 E z (tV (d:=aC) (i:=1) (k:=1) E H eE A z z z c z U2 z) λa E=>pn 1 E z λa E=>aN (λa w=>∃ B C,Jn 80 a w [(9,i_ I.Next)] (Blk s 240 [j,B,l,n,o,p,q]::Row 71 aC B C::Fo) rs (tG I C=some r)) ?_ ?_
  ·refine wS<|dz [0,0,0,0,0,0,0,0,1,2,2,2] [0] H λw W0 hI H=>fn 4 E z λa E=>fb2 E m0 U23 z λa E=>fn 3 E z λa E=>bO z<|bd m λR L m=>bP E (wn z) z z (bT E z z z ((cf_ 254) _)) (Pa H L)<|op0 λw H a E=>nt<|⟨sx H [0] z,bJ z<|bd m λS f m=>?_⟩
   obtain ⟨b0,b1,D⟩:=H.rowformNE (i:=1) z f;refine sv2 E z (dS (d:=aC) E D z z z z U23 nU f) λa E=>nt<|bJ z<|pn 1 E z λa E=>bJ z<|Cw (d:=aC) (i:=1) (k:=1) (z':=({ S with Next:=R }:aQ)) E H eE (wn z) z D z z z z z z f z z sz2 λw H=>nt<|bF<|?_;clear hI;refine aA<|sp 4 E z λa E=>lb2 E H 0 U23 z λa E=>pr 1 E z λa E=>bd m λb2 g m=>?_;obtain ⟨b3,b4,F⟩:=H.rowformNE (i:=1) z g;refine sv2 E z (dS (d:=aC) E F z z z z U23 nU g) λa E=>pr 1 E z λa E=>sv2 E z (tV (d:=aC) (i:=1) (k:=1) E H eE F z z z g z U2 z) λa E=>pn 1 E z λa E=>wif E m z (λm=>?_) λm=>wK<|aA<|X3 ⟨E.to z,H,y,m⟩;refine wG<|pr 5 E z λa E=>lb2 E H 0 U23 z λa E=>pr 3 E z λa E=>bk m λM m=>xc2 E z (cf_ 304) (Tn.delete_c (ix:=1) H z M) λb5 w H a E=>pr 3 E z λa E=>?_;obtain ⟨q49,b6,rfl⟩:=H.rowform (i:=1) z;exact ss 0 E H z Ei z λw H=>nt<|X3 ⟨E.to z,H,y,m⟩
  ·clear E H m;rintro a w ⟨B,C,U,E,H,N,m⟩;refine sq<|pn 2 E z λa E=>wR<|o1 E z<|?_;cases m;exact ⟨_,z,H.reads N⟩

end Go.Cb
