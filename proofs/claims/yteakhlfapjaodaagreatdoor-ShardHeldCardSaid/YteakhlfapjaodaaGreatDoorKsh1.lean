/- Functions of the program, walked: each comes to its plain function. -/
import Derived.Test.YteakhlfapjaodaaGreatDoorTsh
import Derived.Test.YteakhlfapjaodaaGreatDoorExsh
import Derived.Test.YteakhlfapjaodaaGreatDoorN4sh
set_option linter.unusedVariables false
set_option linter.unusedSimpArgs false
set_option maxRecDepth 20000
set_option maxHeartbeats 1000000
namespace Go.Cb
open Go.Proofs Go.RowKit Tryz
variable {w:WD} {Fo:List Ob} {rs:List Rp}

def gK(rec_1:Int->Option Bool)(b:Int)(c:Bool):Option Bool:=
  if c=true then (some (false)) else (rec_1 (IntKind.i64.wrap (b+1)))
def eS(b:BY):Nat->Int->Option Bool
  | 0,_=>none
  | e+1,c=>
    if (decide (c < (b.size:Int)))=true then ((idx b.data.toList c).bind λd=>if ((d.toNat:Int) != 45)=true then (if (decide ((d.toNat:Int) < 97))=true then (if (decide ((d.toNat:Int) < 48))=true then (gK (eS b e) c true) else (gK (eS b e) c (decide ((d.toNat:Int) > 57)))) else (if (decide ((d.toNat:Int) > 122))=true then (if (decide ((d.toNat:Int) < 48))=true then (gK (eS b e) c true) else (gK (eS b e) c (decide ((d.toNat:Int) > 57)))) else (gK (eS b e) c false))) else (gK (eS b e) c false)) else (if (decide ((b.size:Int) ≥ 1))=true then (some (decide ((b.size:Int) <= 12))) else (some (false)))
def vX(b:BY):Option Bool:=
  eS b (((b.size:Int) - 0:Int).toNat+1) 0
theorem Kl{e:BY}(H:Sep w (Fo) rs){r:Bool}(m:vX e=some r) :
    Cf 219 [.string e] w λv w'=>.bool r=v/\Sep w' (Fo) (rs):=by
 unfold vX at m;refine ent func219 z ntmps219 z z λa E=>sq<|pn 1 E z λa E=>wS<|sq<|pn 1 E z λa E=>wB<|bF (λf a w=>∃ l,Jn 40 a w [(0,.string e),(3,.int .i64 l)] (Fo) rs (eS e f l=some r)) (((e.size:Int) - 0:Int).toNat+1) ?_ ?_
 ·exact ⟨_,_,E.to z,H,Y0,m⟩
 ·clear E H m;rintro f a w ⟨l,q,E,H,b,m⟩;cases f with
  | zero=>exact (bD m z).elim
  | succ f=>
   unfold eS at m;refine wS<|sq<|pn 4 E z λa E=>wif E m z (λm=>?_) λm=>?_
   ·refine wK<|aA<|wS<|wB<|sp 2 E z λa E=>bd m λt p m=>sv2 E z (Jr E z z z U9 p) λa E=>pr 1 E z λa E=>nt<|aL (λa w=>∃ o,Jn 40 a w [(0,.string e),(3,.int .i64 l),(31,.bool o)] (Fo) rs (gK (eS e f) l o=some r)) ?_ ?_
    ·refine wG<|pr 3 E z λa E=>cs m (λc m=>?_) λc m=>?_
     ·refine pk 3 E (kc 16 z c) z λa E=>cs m (λg m=>?_) λg m=>?_
      ·refine pk 8 E (kc' (kc 19 z g) 16 z c) z λa E=>cs m (λi m=>?_) λi m=>?_
       ·exact pk 4 E (kc 27 z i) z λa E=>nt<|⟨_,_,E.to z,H,b,m⟩
       exact pk 4 E (kc 27 z i) z λa E=>nt<|⟨_,_,E.to z,H,b,m⟩
      refine pk 5 E (kc' (kc 19 z g) 16 z c) z λa E=>cs m (λd m=>?_) λd m=>?_
      ·refine pk 3 E (kc 24 z d) z λa E=>cs m (λj m=>?_) λj m=>?_
       ·exact pk 4 E (kc' (kc 27 z j) 24 z d) z λa E=>nt<|⟨_,_,E.to z,H,b,m⟩
       exact pk 4 E (kc' (kc 27 z j) 24 z d) z λa E=>nt<|⟨_,_,E.to z,H,b,m⟩
      exact pk 7 E (kc 24 z d) z λa E=>nt<|⟨_,_,E.to z,H,b,m⟩
     exact pk 15 E (kc 16 z c) z λa E=>nt<|⟨_,_,E.to z,H,b,m⟩
    clear E H m;rintro a w ⟨o,s,E,H,n,m⟩;unfold gK at m;refine wif E m z (λm=>?_) λm=>?_
    ·refine sq<|pn 1 E z λa E=>wR<|bJ<|aH<|aH<|bJ<|aH<|o1 E z<|?_;cases m;exact ⟨z,H.reads n⟩
    exact wK<|bM<|aA<|wG<|pn 3 E z λa E=>⟨f,nL f,_,_,E.to z,H,n,m⟩
   ·refine wX<|aT<|aT<|cL<|aA<|sp 4 E z λa E=>cs m (λk m=>?_) λk m=>?_
    ·refine pk 5 E (kc 35 z k) z λa E=>nt<|wR<|o1 E z<|?_;cases m;exact ⟨z,H.reads b⟩
    ·refine pk 5 E (kc 35 z k) z λa E=>nt<|wR<|o1 E z<|?_;cases m;exact ⟨z,H.reads b⟩

def rY(b:BY)(c:Int):Option Int:=
  some (ixB b c)
theorem U6{b:BY}{c:Int}(H:Sep w (Fo) rs){r:Int}(m:rY b c=some r) :
    Cf 289 [.string b,.int .u8 c] w λv w'=>.int .i64 r=v/\Sep w' (Fo) (rs):=by
 unfold rY at m;refine ent func289 z ntmps289 z z λa E=>sp 1 E z λa E=>xp 2 E z λa E=>sv2 E z (Mf E z z (OO _ _ _)) λa E=>pn 1 E z λa E=>wR<|o1 E z<|?_;cases m;exact ⟨z,H.reads Y0⟩

def lJ(b:BY)(c:Int):Option Int:=
  (rY b c).bind λd=>some (d)
theorem J7{b:BY}{c:Int}(H:Sep w (Fo) rs){r:Int}(m:lJ b c=some r) :
    Cf 227 [.string b,.int .u8 c] w λv w'=>.int .i64 r=v/\Sep w' (Fo) (rs):=by
 unfold lJ at m;refine ent func227 z ntmps227 z z λa E=>sp 1 E z λa E=>xp 2 E z λa E=>bd m λe d m=>xk2 E z (cf_ 289) (U6 H d) λw H a E=>pn 1 E z λa E=>wR<|o1 E z<|?_;cases m;exact ⟨z,H.reads Y0⟩

def mD(b:Bool):Option Bool:=
  if b=true then (some (true)) else (some (false))
def mE(x1:Int)(b:Bool):Option Bool:=
  if b=true then (some (true)) else (if (decide (57343 < x1))=true then (mD (decide (x1 <= 1114111))) else (mD false))
def oW(x1:Int):Option Bool:=
  if (decide (0 <= x1))=true then (mE x1 (decide (x1 < 55296))) else (mE x1 false)
theorem Dm{x1:Int}(H:Sep w (Fo) rs){r:Bool}(m:oW x1=some r) :
    Cf 356 [.int .i32 x1] w λv w'=>.bool r=v/\Sep w' (Fo) (rs):=by
 unfold oW at m;refine ent func356 z ntmps356 z z λa E=>sq<|pn 1 E z λa E=>wS<|wB<|aL (λa w=>∃ f,Jn 17 a w [(0,.int .i32 x1),(3,.bool f)] (Fo) rs (mE x1 f=some r)) ?_ ?_
 ·refine wG<|pr 3 E z λa E=>cs m (λb m=>?_) λb m=>?_
  ·exact pk 4 E (kc 6 z b) z λa E=>nt<|⟨_,_,E.to z,H,Y0,m⟩
  exact pk 4 E (kc 6 z b) z λa E=>nt<|⟨_,_,E.to z,H,Y0,m⟩
 ·clear E H m;rintro a w ⟨f,i,E,H,c,m⟩;unfold mE at m;refine wif E m z (λm=>?_) λm=>?_
  ·refine sq<|pn 1 E z λa E=>wR<|bJ<|aH<|o1 E z<|?_;cases m;exact ⟨z,H.reads c⟩
  ·refine aL (λa w=>∃ g,Jn 17 a w [(10,.bool g)] (Fo) rs (mD g=some r)) ?_ ?_
   ·refine wG<|pr 3 E z λa E=>cs m (λd m=>?_) λd m=>?_
    ·exact pk 4 E (kc 13 z d) z λa E=>nt<|⟨_,_,E.to z,H,c,m⟩
    exact pk 4 E (kc 13 z d) z λa E=>nt<|⟨_,_,E.to z,H,c,m⟩
   ·clear E H m;rintro a w ⟨g,j,E,H,e,m⟩;unfold mD at m;refine wif E m z (λm=>?_) λm=>?_
    ·refine sq<|pn 1 E z λa E=>wR<|bJ<|aH<|o1 E z<|?_;cases m;exact ⟨z,H.reads e⟩
    ·refine wK<|bM<|aA<|sq<|pn 1 E z λa E=>wR<|o1 E z<|?_;cases m;exact ⟨z,H.reads e⟩

def vL(c:BY):Nat->(Nat)->Option Int
  | 0,_=>none
  | d+1,b=>
    if decide (b < c.size)=true then (if (((Utf8.decode c b).1:Int) == 65533)=true then (some ((b:Int))) else (vL c d (b+(Utf8.decode c b).2))) else (some ((-1)))
def vM(b:Int)(c:BY):Nat->Option Int
  | 0=>none
  | j+1=>
    if (decide ((IntKind.i64.wrap (((Utf8.encode b).size:Int) - 1)) < (c.size:Int)))=true then ((idx c.data.toList (IntKind.i64.wrap (((Utf8.encode b).size:Int) - 1))).bind λd=>(idx (Utf8.encode b).data.toList (IntKind.i64.wrap (((Utf8.encode b).size:Int) - 1))).bind λe=>if ((d.toNat:Int) != (e.toNat:Int))=true then ((ck (0 <= (IntKind.i64.wrap ((IntKind.i64.wrap (((Utf8.encode b).size:Int) - 1))+1))/\(IntKind.i64.wrap ((IntKind.i64.wrap (((Utf8.encode b).size:Int) - 1))+1)) <= c.size)).bind λi=>(idx (Utf8.encode b).data.toList (IntKind.i64.wrap (((Utf8.encode b).size:Int) - 1))).bind λf=>(lJ (c.extract (IntKind.i64.wrap ((IntKind.i64.wrap (((Utf8.encode b).size:Int) - 1))+1)).toNat c.size) (f.toNat:Int)).bind λg=>if (decide (g < 0))=true then (some ((-1))) else none) else none) else (some ((-1)))
def rH(b:BY)(c:Int)(e:Bool):Option Int:=
  if e=true then ((lJ b (IntKind.u8.wrap c)).bind λf=>some (f)) else (if (c == 65533)=true then (vL b (b.size+2) 0) else ((oW c).bind λd=>if (!d)=true then (some ((-1))) else (vM c b (((b.size:Int) - (IntKind.i64.wrap (((Utf8.encode c).size:Int) - 1)):Int).toNat+1))))
def uL(c:BY)(b:Int):Option Int:=
  if (decide (0 <= b))=true then (rH c b (decide (b < 128))) else (rH c b false)
theorem Je{b:BY}{c:Int}(H:Sep w (Fo) rs){r:Int}(m:uL b c=some r) :
    Cf 328 [.string b,.int .i32 c] w λv w'=>.int .i64 r=v/\Sep w' (Fo) (rs):=by
 unfold uL at m;refine ent func328 z ntmps328 z z λa E=>sq<|pn 1 E z λa E=>wB<|aL (λa w=>∃ n,Jn 187 a w [(0,.string b),(1,.int .i32 c),(160,.bool n)] (Fo) rs (rH b c n=some r)) ?_ ?_
 ·refine wG<|pr 3 E z λa E=>cs m (λd m=>?_) λd m=>?_
  ·exact pk 4 E (kc 163 z d) z λa E=>nt<|⟨_,_,E.to z,H,Y0,m⟩
  exact pk 4 E (kc 163 z d) z λa E=>nt<|⟨_,_,E.to z,H,Y0,m⟩
 ·clear E H m;rintro a w ⟨n,D,E,H,g,m⟩;unfold rH at m;refine wif E m z (λm=>?_) λm=>?_
  ·refine sp 3 E z λa E=>bd m λL y m=>xk2 E z (cf_ 227) (J7 H y) λw H a E=>pn 1 E z λa E=>wR<|bJ<|o1 E z<|?_;cases m;exact ⟨z,H.reads g⟩
  ·refine sq<|pn 3 E z λa E=>wif E m z (λm=>?_) λm=>?_
   ·refine wS<|sp 1 E z λa E=>Uf E H (wn z) z z z z U9 λA w a H E=>nt<|wB<|bF (λj a w=>∃ o,Jn 187 a w [(175,pt A 0)] (Ey A (.stringIter b o)::Fo) rs (vL b j o=some r)) (b.size+2) ?_ ?_
    ·exact ⟨_,_,E.to z,H,g,m⟩
    clear E H m;rintro j a w ⟨o,B,E,H,e,m⟩;cases j with
    | zero=>exact (bD m z).elim
    | succ j=>
     unfold vL at m;refine sq<|cs m (λf m=>?_) λf m=>?_
     ·refine Ug (i:=0) E H (wn z) z z z z z f λw a H E=>pn 1 E z λa E=>wS<|wp_cond_true (E.eval z)<|wK<|aA<|wB<|sq<|pr 4 E z λa E=>nx<|pn 2 E z λa E=>wif E m z (λm=>?_) λm=>?_
      ·refine sq<|pn 2 E z λa E=>wR<|bJ<|aH<|bJ<|aH<|bJ<|o1 E z<|have H:=H.drop 0;?_;cases m;exact ⟨z,H.reads e⟩
      exact wK<|bM<|aA<|⟨j,nL j,_,_,E.to z,H,e,m⟩
     refine Uh (i:=0) E H (wn z) z z z z z f λa E=>pn 1 E z λa E=>wS<|wp_cond_false (E.eval z)<|wX<|aT<|aT<|cL<|aA<|sq<|pn 1 E z λa E=>wR<|bJ<|o1 E z<|have H:=H.drop 0;?_;cases m;exact ⟨z,H.reads e⟩
   ·refine sp 1 E z λa E=>bd m λF p m=>xk2 E z (cf_ 356) (Dm H p) λw H a E=>pn 2 E z λa E=>wif E m z (λm=>?_) λm=>?_
    ·refine sq<|pn 1 E z λa E=>wR<|bJ<|o1 E z<|?_;cases m;exact ⟨z,H.reads g⟩
    ·refine wp_scope_straight<|sp 1 E z λa E=>sv2 E z (Fy E z z (v:=.string (Utf8.encode c)) (by kernel_rfl)) λa E=>pr 1 E z λa E=>xp 4 E z λa E=>xp 2 E z λa E=>nx<|pn 1 E z λa E=>wS<|wB<|bF (λl a w=>Jn 187 a w [(0,.string b),(7,.string (Utf8.encode c)),(8,.int .i64 (IntKind.i64.wrap (((Utf8.encode c).size:Int) - 1))),(9,.int .i64 (IntKind.i64.wrap (((Utf8.encode c).size:Int) - 1))),(10,.int .i64 0)] (Fo) rs (vM c b l=some r)) (((b.size:Int) - (IntKind.i64.wrap (((Utf8.encode c).size:Int) - 1)):Int).toNat+1) ?_ ?_
     ·exact ⟨_,E.to z,H,g,m⟩
     ·clear E H m;rintro l a w ⟨C,E,H,k,m⟩;cases l with
      | zero=>exact (bD m z).elim
      | succ l=>
       unfold vM at m;refine wS<|sq<|pn 4 E z λa E=>wif E m z (λm=>?_) λm=>?_
       ·refine wK<|aA<|wB<|wp_scope_straight<|wS<|wS<|dz [0,0,0,0,0,0,0] [] H λw W0 hI H=>fn 2 E z λa E=>bd m λG q m=>fv E z (λw hW=>(Jr E z z z U9 q)) λa E=>fn 2 E z λa E=>bd m λI s m=>fv E z (λw hW=>(Jr E z z z U9 s)) λa E=>fn 1 E z λa E=>bG<|?_;clear hI;refine aA<|wif E m z (λm=>?_) λm=>?_
        ·refine wS<|dz [0,0,0,0,0,0,0,1,2] [] H λw W0 hI H=>fn 3 E z λa E=>bk m λt m=>fv E z (λw hW=>(Fz E z z z U9 t)) λa E=>fn 2 E z λa E=>bd m λJ u m=>fv E z (λw hW=>(Jr E z z z U9 u)) λa E=>bW z<|bd m λK x m=>xk2 E z (cf_ 227) (J7 H x) λw H a E=>nt<|⟨⟨_,_,H,(bQ),(bT)⟩,bK z<|pn 1 E z λa E=>bG<|?_⟩
         clear hI;refine aA<|wS<|sq<|pn 2 E z λa E=>wif E m z (λm=>?_) λm=>?_
         ·refine sq<|pn 1 E z λa E=>wR<|aH<|aH<|GZ<|bJ<|aH<|bJ<|aH<|GZ<|bJ<|o1 E z<|?_;cases m;exact ⟨z,H.reads k⟩
         exact (bD m z).elim
        exact (bD m z).elim
       ·refine wX<|aT<|aT<|cL<|aA<|wS<|sq<|pn 1 E z λa E=>wR<|aH<|GZ<|bJ<|o1 E z<|?_;cases m;exact ⟨z,H.reads k⟩

def rI(b:BY)(c:Int):Option Bool:=
  (uL b c).bind λd=>some (decide (d ≥ 0))
theorem Ff{b:BY}{c:Int}(H:Sep w (Fo) rs){r:Bool}(m:rI b c=some r) :
    Cf 292 [.string b,.int .i32 c] w λv w'=>.bool r=v/\Sep w' (Fo) (rs):=by
 unfold rI at m;refine ent func292 z ntmps292 z z λa E=>sp 1 E z λa E=>xp 2 E z λa E=>bd m λe d m=>xk2 E z (cf_ 328) (Je H d) λw H a E=>pn 2 E z λa E=>wR<|o1 E z<|?_;cases m;exact ⟨z,H.reads Y0⟩

def H8(x1:Int):Option Bool:=
  (rI (ByteArray.mk #[97,98,99,100,101,102,103,104,105,106,107,108,109,110,111,112,113,114,115,116,117,118,119,120,121,122,48,49,50,51,52,53,54,55,56,57,45]) x1).bind λb=>some (!b)
theorem Vf{x1:Int}(H:Sep w (Fo) rs){r:Bool}(m:H8 x1=some r) :
    Cf 291 [.int .i32 x1] w λv w'=>.bool r=v/\Sep w' (Fo) (rs):=by
 unfold H8 at m;refine ent func291 z ntmps291 z z λa E=>sp 1 E z λa E=>xp 1 E z λa E=>bd m λc b m=>xk2 E z (cf_ 292) (Ff H b) λw H a E=>pn 2 E z λa E=>wR<|o1 E z<|?_;cases m;exact ⟨z,H.reads Y0⟩

def nC(c:BY)(d:Bool):Nat->(Nat)->Option Int
  | 0,_=>none
  | e+1,b=>
    if decide (b < c.size)=true then ((H8 ((Utf8.decode c b).1:Int)).bind λf=>if (f == d)=true then (some ((b:Int))) else (nC c d e (b+(Utf8.decode c b).2))) else (some ((-1)))
def zB(b:BY)(c:Bool):Option Int:=
  nC b c (b.size+2) 0
theorem Jf{c:BY}{d:Bool}(H:Sep w (Fo) rs){r:Int}(m:zB c d=some r) :
    Cf 355 [.string c,.func (.func 291) #[] #[],.bool d] w λv w'=>.int .i64 r=v/\Sep w' (Fo) (rs):=by
 unfold zB at m;refine ent func355 z ntmps355 z z λa E=>sq<|pn 1 E z λa E=>wS<|sp 1 E z λa E=>Uf E H (wn z) z z z z U9 λj w a H E=>nt<|wB<|bF (λb a w=>∃ g,Jn 21 a w [(1,.func (.func 291) #[] #[]),(2,.bool d),(10,pt j 0)] (Ey j (.stringIter c g)::Fo) rs (nC c d b g=some r)) (c.size+2) ?_ ?_
 ·exact ⟨_,_,E.to z,H,Y0,m⟩
 ·clear E H m;rintro b a w ⟨g,n,E,H,e,m⟩;cases b with
  | zero=>exact (bD m z).elim
  | succ b=>
   unfold nC at m;refine sq<|cs m (λf m=>?_) λf m=>?_
   ·refine Ug (i:=0) E H (wn z) z z z z z f λw a H E=>pn 1 E z λa E=>wS<|wp_cond_true (E.eval z)<|wK<|aA<|wB<|sq<|pr 4 E z λa E=>xp 2 E z λa E=>bd m λl k m=>bI E (wn z) z z (bO E z z z ((cf_ 291) _)) (Vf H k)<|?_;rintro _ w ⟨rfl,H⟩ a E;refine pr 1 E z λa E=>sv2 E z (zP E z z z (v:=.bool (l == d)) (by kernel_rfl)) λa E=>nt<|wif E m z (λm=>?_) λm=>?_
    ·refine sq<|pn 2 E z λa E=>wR<|bJ<|aH<|bJ<|aH<|o1 E z<|have H:=H.drop 0;?_;cases m;exact ⟨z,H.reads e⟩
    exact wK<|bM<|aA<|⟨b,nL b,_,_,E.to z,H,e,m⟩
   ·refine Uh (i:=0) E H (wn z) z z z z z f λa E=>pn 1 E z λa E=>wS<|wp_cond_false (E.eval z)<|wX<|aT<|aT<|cL<|aA<|sq<|pn 1 E z λa E=>wR<|o1 E z<|have H:=H.drop 0;?_;cases m;exact ⟨z,H.reads e⟩

def zC(b:BY):Option Int:=
  (zB b true).bind λc=>some (c)
theorem Jg{b:BY}(H:Sep w (Fo) rs){r:Int}(m:zC b=some r) :
    Cf 327 [.string b,.func (.func 291) #[] #[]] w λv w'=>.int .i64 r=v/\Sep w' (Fo) (rs):=by
 unfold zC at m;refine ent func327 z ntmps327 z z λa E=>sp 1 E z λa E=>xp 2 E z λa E=>bd m λd c m=>xk2 E z (cf_ 355) (Jf H c) λw H a E=>pn 1 E z λa E=>wR<|o1 E z<|?_;cases m;exact ⟨z,H.reads Y0⟩

def vN(b:BY):Option Bool:=
  (zC b).bind λc=>some (decide (c ≥ 0))
theorem Fg{b:BY}(H:Sep w (Fo) rs){r:Bool}(m:vN b=some r) :
    Cf 290 [.string b,.func (.func 291) #[] #[]] w λv w'=>.bool r=v/\Sep w' (Fo) (rs):=by
 unfold vN at m;refine ent func290 z ntmps290 z z λa E=>sp 1 E z λa E=>xp 2 E z λa E=>bd m λd c m=>xk2 E z (cf_ 327) (Jg H c) λw H a E=>pn 2 E z λa E=>wR<|o1 E z<|?_;cases m;exact ⟨z,H.reads Y0⟩

def w8(b:BY):Option Bool:=
  (vN b).bind λc=>if (!(sEq b (ByteArray.mk #[])))=true then (if (decide ((b.size:Int) <= 12))=true then (some (!c)) else (some (false))) else (some (false))
theorem Fh{d:BY}(H:Sep w (Fo) rs){r:Bool}(m:w8 d=some r) :
    Cf 228 [.string d] w λv w'=>.bool r=v/\Sep w' (Fo) (rs):=by
 unfold w8 at m;refine ent func228 z ntmps228 z z λa E=>sp 1 E z λa E=>xp 1 E z λa E=>bd m λf e m=>xk2 E z (cf_ 290) (Fg H e) λw H a E=>pr 1 E z λa E=>nx<|pr 3 E z λa E=>cs m (λb m=>?_) λb m=>?_
 ·refine pk 5 E (kc 8 z b) z λa E=>cs m (λc m=>?_) λc m=>?_
  ·refine pk 4 E (kc 13 z c) z λa E=>nt<|wR<|o1 E z<|?_;cases m;exact ⟨z,H.reads Y0⟩
  refine pk 4 E (kc 13 z c) z λa E=>nt<|wR<|o1 E z<|?_;cases m;exact ⟨z,H.reads Y0⟩
 ·refine pk 9 E (kc 8 z b) z λa E=>nt<|wR<|o1 E z<|?_;cases m;exact ⟨z,H.reads Y0⟩

def nD(rec_1:cR->Int->Int->Option L2)(d:Int)(b:cR)(c:Int):Option L2:=
  rec_1 b c (IntKind.i64.wrap (d+1))
def rJ(rec_1:cR->Int->Int->Option L2)(b:Int)(c:Int)(d:BY)(e:cR)(f:Bool):Option L2:=
  if f=true then (some ([],false)) else ((ck (0 <= c/\c <= b/\b <= d.size)).bind λg=>(ck (e.length+([d.extract c.toNat b.toNat]:List BY).length <= LIM)).bind λi=>nD rec_1 b (e ++ ([d.extract c.toNat b.toNat]:List BY)) (IntKind.i64.wrap (b+1)))
def nE(rec_1:cR->Int->Int->Option L2)(b:Int)(c:Int)(d:BY)(e:cR):Option L2:=
  (ck (0 <= c/\c <= b/\b <= d.size)).bind λg=>(vX (d.extract c.toNat b.toNat)).bind λf=>if (!f)=true then (rJ rec_1 b c d e true) else (rJ rec_1 b c d e (decide ((e.length:Int) ≥ 6)))
def dZ(b:BY):Nat->cR->Int->Int->Option L2
  | 0,_,_,_=>none
  | e+1,d,f,c=>
    if (decide (c <= (b.size:Int)))=true then (if (decide (c < (b.size:Int)))=true then ((idx b.data.toList c).bind λg=>if ((g.toNat:Int) != 47)=true then (nD (dZ b e) c d f) else (nE (dZ b e) c f b d)) else (nE (dZ b e) c f b d)) else (some (d,true))
def rK(b:BY)(c:Bool):Option L2:=
  if c=true then (some ([],false)) else (dZ b (((b.size:Int) - 1:Int).toNat+2) [] 1 1)
def uM(b:BY):Option L2:=
  if (sEq b (ByteArray.mk #[47]))=true then (some ([],true)) else (if (sEq b (ByteArray.mk #[]))=true then (rK b true) else ((idx b.data.toList 0).bind λc=>rK b ((c.toNat:Int) != 47)))
theorem Jh{b:BY}(H:Sep w (Fo) rs){r:cR×Bool}(m:uM b=some r) :
    Cf 139 [.string b] w λv w'=>∃ M,.tuple #[M,.bool r.2]=v/\Sep w' (Row 9 kS M r.1::Fo) (rs):=by
 unfold uM at m;refine ent func139 z ntmps139 z z λa E=>sq<|pn 2 E z λa E=>wS<|sq<|pn 2 E z λa E=>wif E m z (λm=>?_) λm=>?_
 ·refine sq<|pn 2 E z λa E=>wR<|aH<|hX E z z z<|have H:=H.nilRow 9 kS;?_;cases m;exact ⟨_,z,H.reads Y0⟩
 ·refine wK<|aA<|wS<|aL (λa w=>∃ C,Jn 53 a w [(0,.string b),(15,.bool C)] (Fo) rs (rK b C=some r)) ?_ ?_
  ·refine wG<|pr 3 E z λa E=>cs m (λf m=>?_) λf m=>?_
   ·exact pk 4 E (kc 11 z f) z λa E=>nt<|⟨_,_,E.to z,H,Y0,m⟩
   exact pk 1 E (kc 11 z f) z λa E=>bd m λQ D m=>gv 11 E f z (Jr E z z z U9 D) λa E=>pk 2 E (kc 11 z f) z λa E=>nt<|⟨_,_,E.to z,H,Y0,m⟩
  ·clear E H m;rintro a w ⟨C,R,E,H,B,m⟩;unfold rK at m;refine wif E m z (λm=>?_) λm=>?_
   ·refine sq<|pn 2 E z λa E=>wR<|aH<|hX E z z z<|have H:=H.nilRow 9 kS;?_;cases m;exact ⟨_,z,H.reads B⟩
   ·refine wK<|aA<|sp 1 E z λa E=>nx<|pn 1 E z λa E=>wS<|sq<|pn 1 E z λa E=>wB<|bF (λl a w=>∃ o p g c,Jn 53 a w [(0,.string b),(4,o),(5,.int .i64 g),(6,.int .i64 c)] (Row 9 kS o p::Fo) rs (dZ b l p g c=some r)) (((b.size:Int) - 1:Int).toNat+2) ?_ ?_
    ·exact have H:=H.nilRow 9 kS;X5 ⟨E.to z,H,B,m⟩
    ·clear E H m;rintro l a w ⟨o,p,g,c,S,E,H,n,m⟩;cases l with
     | zero=>exact (bD m z).elim
     | succ l=>
      unfold dZ at m;refine wS<|sq<|pn 4 E z λa E=>wif E m z (λm=>?_) λm=>?_
      ·refine wK<|aA<|aL (λa w=>∃ q s t,Jn 53 a w [(0,.string b),(4,q),(5,.int .i64 t),(6,.int .i64 c)] (Row 9 kS q s::Fo) rs (nD (dZ b l) c s t=some r)) ?_ ?_
       ·refine wB<|aL (λa w=>Jn 53 a w [(0,.string b),(4,o),(5,.int .i64 g),(6,.int .i64 c)] (Row 9 kS o p::Fo) rs (nE (dZ b l) c g b p=some r)) ?_ ?_
        ·refine sp 5 E z λa E=>cs m (λj m=>?_) λj m=>?_
         ·refine pk 2 E (kc 26 z j) z λa E=>bd m λT F m=>gv 26 E j z (Jr E z z z U9 F) λa E=>pk 2 E (kc 26 z j) z λa E=>nt<|wif E m z (λm=>?_) λm=>?_
          ·exact wX<|aT<|cL<|aA<|X4 ⟨E.to z,H,n,m⟩
          exact wK<|aA<|⟨_,E.to z,H,n,m⟩
         exact pk 5 E (kc 26 z j) z λa E=>nt<|wp_cond_false (E.eval z)<|wK<|aA<|⟨_,E.to z,H,n,m⟩
        clear E H m;rintro a w ⟨N,E,H,u,m⟩;unfold nE at m;refine wS<|aL (λa w=>∃ y,Jn 53 a w [(0,.string b),(4,o),(5,.int .i64 g),(6,.int .i64 c),(42,.bool y)] (Row 9 kS o p::Fo) rs (rJ (dZ b l) c g b p y=some r)) ?_ ?_
        ·refine wG<|pr 3 E z λa E=>bk m λG m=>sv2 E z (JT E z z z z U9 G) λa E=>bd m λU I m=>xk2 E z (cf_ 219) (Kl H I) λw H a E=>pr 2 E z λa E=>cs m (λk m=>?_) λk m=>?_
         ·exact pk 4 E (kc 38 z k) z λa E=>nt<|⟨_,_,E.to z,H,u,m⟩
         exact pk 1 E (kc 38 z k) z λa E=>gv 38 E k z (lQ (i:=0) E H z z z U33) λa E=>pk 2 E (kc 38 z k) z λa E=>nt<|⟨_,_,E.to z,H,u,m⟩
        clear E H m;rintro a w ⟨y,O,E,H,A,m⟩;unfold rJ at m;refine wif E m z (λm=>?_) λm=>?_
        ·refine sq<|pn 2 E z λa E=>wR<|aH<|bJ<|aH<|aH<|bJ<|aH<|hX E z z z<|have H:=H.nilRow 9 kS;have H:=H.drop 1;?_;cases m;exact ⟨_,z,H.reads A⟩
        exact wK<|aA<|sp 4 E z λa E=>bk m λJ m=>sv2 E z (JT E z z z z U9 J) λa E=>sD (e:=9) (d:=kS) (cs:=[.string (b.extract g.toNat c.toNat)]) (xs:=[b.extract g.toNat c.toNat]) E H (wn z) z z z (E.evs z) (by kernel_rfl) z (λok hr=>(Rows.single (d:=kS) (cs:=[.string (b.extract g.toNat c.toNat)]) (x:=b.extract g.toNat c.toNat) z)) λV w a H E=>bk m λK m=>eF (i:=0) E H (wn z) z z z z z z (lH m0) U33 Kh z K z λW w a H E=>pn 1 E z λa E=>wG<|pr 3 E z λa E=>wN<|bM<|aA<|X4 ⟨E.to z,H,(Y1 A),m⟩
       clear E H m;rintro a w ⟨q,s,t,P,E,H,L,m⟩;unfold nD at m;exact wG<|pn 3 E z λa E=>⟨l,nL l,X5 ⟨E.to z,H,L,m⟩⟩
      ·refine wX<|aT<|aT<|cL<|aA<|sq<|pn 3 E z λa E=>wR<|hX E z z z<|?_;cases m;exact ⟨_,z,H.reads n⟩

def iW(c:BY)(b:BY):Option Bool:=
  if (decide ((c.size:Int) ≥ (b.size:Int)))=true then ((ck (0 <= (b.size:Int)/\(b.size:Int) <= c.size)).bind λd=>some (sEq (c.extract 0 (b.size:Int).toNat) b)) else (some (false))
theorem U7{c d:BY}(H:Sep w (Fo) rs){r:Bool}(m:iW c d=some r) :
    Cf 284 [.string c,.string d] w λv w'=>.bool r=v/\Sep w' (Fo) (rs):=by
 unfold iW at m;refine ent func284 z ntmps284 z z λa E=>sp 1 E z λa E=>xp 6 E z λa E=>cs m (λb m=>?_) λb m=>?_
 ·refine pk 3 E (kc 10 z b) z λa E=>bk m λe m=>gv 10 E b z (Js E z z z U9 e) λa E=>pk 4 E (kc 10 z b) z λa E=>nt<|wR<|o1 E z<|?_;cases m;exact ⟨z,H.reads Y0⟩
 ·refine pk 8 E (kc 10 z b) z λa E=>nt<|wR<|o1 E z<|?_;cases m;exact ⟨z,H.reads Y0⟩

def iX(b:BY)(c:BY):Option Cq:=
  (iW b c).bind λd=>if (!d)=true then (some (b,false)) else ((ck (0 <= (c.size:Int)/\(c.size:Int) <= b.size)).bind λe=>some (b.extract (c.size:Int).toNat b.size,true))
theorem U8{b c:BY}(H:Sep w (Fo) rs){r:BY×Bool}(m:iX b c=some r) :
    Cf 217 [.string b,.string c] w λv w'=>.tuple #[.string r.1,.bool r.2]=v/\Sep w' (Fo) (rs):=by
 unfold iX at m;refine ent func217 z ntmps217 z z λa E=>sq<|pn 2 E z λa E=>wS<|sp 2 E z λa E=>bd m λf d m=>xk2 E z (cf_ 284) (U7 H d) λw H a E=>pn 1 E z λa E=>wif E m z (λm=>?_) λm=>?_
 ·refine sq<|pn 3 E z λa E=>wR<|aH<|hX E z z z<|?_;cases m;exact ⟨z,H.reads Y0⟩
 ·refine wK<|aA<|sp 3 E z λa E=>bk m λe m=>sv2 E z (Fz E z z z U9 e) λa E=>pn 2 E z λa E=>wR<|hX E z z z<|?_;cases m;exact ⟨z,H.reads Y0⟩

def lK(c:BY)(d:BY):Option Cq:=
  (iX c d).bind λb=>some (b.1,b.2)
theorem Ag{b c:BY}(H:Sep w (Fo) rs){r:BY×Bool}(m:lK b c=some r) :
    Cf 135 [.string b,.string c] w λv w'=>.tuple #[.string r.1,.bool r.2]=v/\Sep w' (Fo) (rs):=by
 unfold lK at m;refine ent func135 z ntmps135 z z λa E=>sp 2 E z λa E=>xp 2 E z λa E=>bd m λe d m=>xk2 E z (cf_ 217) (U8 H d) λw H a E=>pn 4 E z λa E=>wR<|hX E z z z<|?_;cases m;exact ⟨z,H.reads Y0⟩

def tF:Option L2:=
  some ([],false)
def xB(rec_1:BY->cR->Option L2)(c:BY×Bool)(d:cR)(b:Int):Option L2:=
  (ck (0 <= b/\b <= c.1.size)).bind λf=>(w8 (c.1.extract 0 b.toNat)).bind λe=>if (!e)=true then (tF) else ((ck (0 <= b/\b <= c.1.size)).bind λg=>(ck (d.length+([c.1.extract 0 b.toNat]:List BY).length <= LIM)).bind λi=>(ck (0 <= b/\b <= c.1.size)).bind λj=>rec_1 (c.1.extract b.toNat c.1.size) (d ++ ([c.1.extract 0 b.toNat]:List BY)))
def qM:Nat->BY->cR->Option L2
  | 0,_,_=>none
  | e+1,f,b=>
    if (!(sEq f (ByteArray.mk #[])))=true then ((lK f (ByteArray.mk #[47])).bind λc=>if (!c.2)=true then (tF) else (if ((b.length:Int) == 6)=true then (tF) else ((lJ c.1 47).bind λd=>if (decide (d < 0))=true then (xB (qM e) c b (c.1.size:Int)) else (xB (qM e) c b d)))) else (if (decide ((b.length:Int) > 0))=true then (some (b,true)) else (some ([],false)))
def C2(b:BY):Option L2:=
  if (sEq b (ByteArray.mk #[47]))=true then (some ([],true)) else (qM (b.size+2) b [])
theorem Km{o:BY}(H:Sep w (Fo) rs){r:cR×Bool}(m:C2 o=some r) :
    Cf 144 [.string o] w λv w'=>∃ C,.tuple #[C,.bool r.2]=v/\Sep w' (Row 9 kS C r.1::Fo) (rs):=by
 unfold C2 at m;refine ent func144 z ntmps144 z z λa E=>sq<|pn 2 E z λa E=>wp_scope_jumps 0 (λa w=>Jn 48 a w [] (Fo) rs (tF=some r)) (λ_ _=>0) z ?_ ?_
 ·refine sq<|pn 1 E z λa E=>wS<|sq<|pn 2 E z λa E=>wif E m z (λm=>?_) λm=>?_
  ·refine sq<|pn 2 E z λa E=>wR<|aH<|Mb<|hX E z z z<|have H:=H.nilRow 9 kS;?_;cases m;exact ⟨_,z,H.reads Y0⟩
  refine wK<|aA<|wS<|wB<|bF (λg a w=>∃ k p l,Jn 48 a w [(0,.string p),(4,k)] (Row 9 kS k l::Fo) rs (qM g p l=some r)) (o.size+2) ?_ ?_
  ·exact have H:=H.nilRow 9 kS;X4 ⟨E.to z,H,Y0,m⟩
  clear E H m;rintro g a w ⟨k,p,l,G,E,H,f,m⟩;cases g with
  | zero=>exact (bD m z).elim
  | succ g=>
   unfold qM at m;refine wS<|sq<|pn 2 E z λa E=>wif E m z (λm=>?_) λm=>?_
   ·refine wK<|aA<|wB<|sp 1 E z λa E=>bd m λj q m=>xk2 E z (cf_ 135) (Ag H q) λw H a E=>pn 5 E z λa E=>wS<|sp 3 E z λa E=>cs m (λb m=>?_) λb m=>?_
    ·exact pk 4 E (kc 19 z b) z λa E=>nt<|wp_cond_true (E.eval z)<|wp_goto<|N6<|Fx<|N6<|Fx<|N6<|Wl<|have H:=H.drop 0;⟨_,E.nil,H,f,m⟩
    refine pk 1 E (kc 19 z b) z λa E=>gv 19 E b z (lQ (i:=0) E H z z z U33) λa E=>pk 2 E (kc 19 z b) z λa E=>nt<|wif E m z (λm=>?_) λm=>?_
    ·exact wp_goto<|N6<|Fx<|N6<|Fx<|N6<|Wl<|have H:=H.drop 0;⟨_,E.nil,H,f,m⟩
    refine wK<|aA<|sp 1 E z λa E=>bd m λI s m=>xk2 E z (cf_ 227) (J7 H s) λw H a E=>pn 1 E z λa E=>aL (λa w=>∃ c,Jn 48 a w [(4,k),(5,.string j.1),(7,.int .i64 c)] (Row 9 kS k l::Fo) rs (xB (qM g) j l c=some r)) ?_ ?_
    ·refine sq<|pn 2 E z λa E=>wif E m z (λm=>?_) λm=>?_
     ·exact wG<|pn 3 E z λa E=>⟨_,_,E.to z,H,f,m⟩
     exact wK<|aA<|⟨_,_,E.to z,H,f,m⟩
    clear E H m;rintro a w ⟨c,F,E,H,n,m⟩;unfold xB at m;refine wS<|sp 2 E z λa E=>bk m λt m=>sv2 E z (Js E z z z U9 t) λa E=>bd m λJ u m=>xk2 E z (cf_ 228) (Fh H u) λw H a E=>pn 1 E z λa E=>wif E m z (λm=>?_) λm=>?_
    ·exact wp_goto<|N6<|Fx<|N6<|Fx<|N6<|Wl<|have H:=H.drop 0;⟨_,E.nil,H,n,m⟩
    exact wK<|aA<|sp 3 E z λa E=>bk m λy m=>sv2 E z (Js E z z z U9 y) λa E=>sD (e:=9) (d:=kS) (cs:=[.string (j.1.extract 0 c.toNat)]) (xs:=[j.1.extract 0 c.toNat]) E H (wn z) z z z (E.evs z) (by kernel_rfl) z (λok hr=>(Rows.single (d:=kS) (cs:=[.string (j.1.extract 0 c.toNat)]) (x:=j.1.extract 0 c.toNat) z)) λK w a H E=>bk m λA m=>eF (i:=0) E H (wn z) z z z z z z (lH m0) U33 Kh z A z λL w a H E=>pn 1 E z λa E=>wG<|pr 2 E z λa E=>bk m λB m=>sv2 E z (Fz E z z z U9 B) λa E=>pr 1 E z λa E=>wN<|bM<|aA<|⟨g,nL g,X4 ⟨E.to z,H,(Y1 n),m⟩⟩
   refine wX<|aT<|aT<|cL<|aA<|wS<|sp 1 E z λa E=>sv2 E z (lQ (i:=0) E H z z z U33) λa E=>pn 1 E z λa E=>wif E m z (λm=>?_) λm=>?_
   ·refine sq<|pn 3 E z λa E=>wR<|aH<|Mb<|hX E z z z<|?_;cases m;exact ⟨_,z,H.reads f⟩
   refine wK<|aA<|wS<|wp_label<|aA<|sq<|pn 2 E z λa E=>wR<|Mb<|hX E z z z<|have H:=H.nilRow 9 kS;have H:=H.drop 1;?_;cases m;exact ⟨_,z,H.reads f⟩
 ·clear E H m;rintro a w ⟨M,E,H,D,m⟩;unfold tF at m;refine wS<|wK<|aA<|sq<|pn 2 E z λa E=>wR<|Mb<|hX E z z z<|have H:=H.nilRow 9 kS;?_;cases m;exact ⟨_,z,H.reads D⟩

def oC(d:List BY):Nat->BY->Int->Option BY
  | 0,_,_=>none
  | f+1,b,e=>
    if (decide (e < (d.length:Int)))=true then ((ck (b.size+(ByteArray.mk #[47]).size <= 4611686018427387904)).bind λi=>(idx d e).bind λc=>(ck ((b ++ (ByteArray.mk #[47])).size+c.size <= 4611686018427387904)).bind λg=>oC d f ((b ++ (ByteArray.mk #[47])) ++ c) (IntKind.i64.wrap (e+1))) else (some (b))
def vY(b:List BY):Option BY:=
  if ((b.length:Int) == 0)=true then (some ((ByteArray.mk #[47]))) else (oC b (((b.length:Int) - 0:Int).toNat+1) (ByteArray.mk #[]) 0)
theorem Ko{f:VL}{e:List BY}(H:Sep w (Fo) rs)(d:rSl kS f e ∈ rs){r:BY}(m:vY e=some r) :
    Cf 229 [f] w λv w'=>.string r=v/\Sep w' (Fo) (rs):=by
 unfold vY at m;refine ent func229 z ntmps229 z z λa E=>sq<|pn 1 E z λa E=>wS<|sp 1 E z λa E=>lS E H d U33 z λa E=>pr 1 E z λa E=>nt<|wif E m z (λm=>?_) λm=>?_
 ·refine sq<|pn 1 E z λa E=>wR<|aH<|o1 E z<|?_;cases m;exact ⟨z,H.reads Y0⟩
 ·refine wK<|aA<|sq<|pn 1 E z λa E=>wS<|sq<|pn 1 E z λa E=>wB<|bF (λc a w=>∃ g i,Jn 22 a w [(0,f),(3,.string g),(4,.int .i64 i)] (Fo) rs (oC e c g i=some r)) (((e.length:Int) - 0:Int).toNat+1) ?_ ?_
  ·exact X3 ⟨E.to z,H,Y0,m⟩
  ·clear E H m;rintro c a w ⟨g,i,n,E,H,b,m⟩;cases c with
   | zero=>exact (bD m z).elim
   | succ c=>
    unfold oC at m;refine wS<|sp 2 E z λa E=>lS E H (b _ d) U33 z λa E=>pn 1 E z λa E=>wif E m z (λm=>?_) λm=>?_
    ·exact wK<|aA<|wS<|wB<|wG<|pr 1 E z λa E=>bk m λl m=>sv2 E z (Qb E z z z l) λa E=>pr 2 E z λa E=>bd m λo j m=>dC E H (wn z) z z z z z (b _ d) U33 sz9 j λq12 a H E=>sv2 E z (oO E H z z m0 U9 z) λa E=>bk m λk m=>sv2 E z (Qb E z z z k) λa E=>pr 1 E z λa E=>wN<|bM<|aA<|wG<|pn 3 E z λa E=>⟨c,nL c,X3 ⟨E.to z,H,(Y1 b),m⟩⟩
    ·refine wX<|aT<|aT<|cL<|aA<|sq<|pn 2 E z λa E=>wR<|o1 E z<|?_;cases m;exact ⟨z,H.reads b⟩

def pW(b:cR×Bool)(d:Bool):Option Cq:=
  if d=true then (some ((ByteArray.mk #[]),false)) else ((ck (0 <= (IntKind.i64.wrap ((b.1.length:Int) - 1))/\(IntKind.i64.wrap ((b.1.length:Int) - 1)) <= b.1.length)).bind λe=>(vY (b.1.take (IntKind.i64.wrap ((b.1.length:Int) - 1)).toNat)).bind λc=>some (c,true))
def tG(c:BY):Option Cq:=
  (uM c).bind λb=>if (!b.2)=true then (pW b true) else (pW b ((b.1.length:Int) == 0))
theorem Hu{f:BY}(H:Sep w (Fo) rs){r:BY×Bool}(m:tG f=some r) :
    Cf 145 [.string f] w λv w'=>.tuple #[.string r.1,.bool r.2]=v/\Sep w' (Fo) (rs):=by
 unfold tG at m;refine ent func145 z ntmps145 z z λa E=>sp 2 E z λa E=>xp 1 E z λa E=>bd m λg j m=>xc2 E z (cf_ 139) (Jh H j)<|?_;rintro _ w ⟨k,rfl,H⟩ a E;refine pn 5 E z λa E=>wS<|aL (λa w=>∃ d,Jn 24 a w [(4,k),(17,.bool d)] (Row 9 kS k g.1::Fo) rs (pW g d=some r)) ?_ ?_
 ·refine wG<|pr 3 E z λa E=>cs m (λb m=>?_) λb m=>?_
  ·exact pk 4 E (kc 13 z b) z λa E=>nt<|⟨_,_,E.to z,H,Y0,m⟩
  exact pk 1 E (kc 13 z b) z λa E=>gv 13 E b z (lQ (i:=0) E H z z z U33) λa E=>pk 2 E (kc 13 z b) z λa E=>nt<|⟨_,_,E.to z,H,Y0,m⟩
 ·clear E H m;rintro a w ⟨d,n,E,H,c,m⟩;unfold pW at m;refine wif E m z (λm=>?_) λm=>?_
  ·refine sq<|pn 2 E z λa E=>wR<|aH<|hX E z z z<|have H:=H.drop 0;?_;cases m;exact ⟨z,H.reads c⟩
  ·refine wK<|aA<|sp 2 E z λa E=>sv2 E z (lQ (i:=0) E H z z z U33) λa E=>pr 1 E z λa E=>have H:=H.thaw (i:=0) z;bk m λl m=>KK E H (wn z) z z z z z m0 U33 sz9 l λo a H E=>bd m λp e m=>xk2 E z (cf_ 229) (Ko H m0 e) λw H a E=>pn 2 E z λa E=>wR<|hX E z z z<|?_;cases m;exact ⟨z,H.reads (Y2 c)⟩

def eI(c:BY):Nat->Int->Int->Option Int
  | 0,_,_=>none
  | d+1,x3,b=>
    if (decide (b ≥ 0))=true then ((idx c.data.toList b).bind λe=>if ((e.toNat:Int) == x3)=true then (some (b)) else (eI c d x3 (IntKind.i64.wrap (b - 1)))) else (some ((-1)))
def jD(b:BY)(c:Int):Option Int:=
  eI b (((IntKind.i64.wrap ((b.size:Int) - 1)) - 0:Int).toNat+2) c (IntKind.i64.wrap ((b.size:Int) - 1))
theorem J8{c:BY}{f:Int}(H:Sep w (Fo) rs){r:Int}(m:jD c f=some r) :
    Cf 346 [.string c,.int .u8 f] w λv w'=>.int .i64 r=v/\Sep w' (Fo) (rs):=by
 unfold jD at m;refine ent func346 z ntmps346 z z λa E=>sq<|pn 1 E z λa E=>wS<|sq<|pn 4 E z λa E=>wB<|bF (λb a w=>∃ x3 e,Jn 19 a w [(0,.string c),(1,.int .u8 x3),(5,.int .i64 e)] (Fo) rs (eI c b x3 e=some r)) (((IntKind.i64.wrap ((c.size:Int) - 1)) - 0:Int).toNat+2) ?_ ?_
 ·exact X3 ⟨E.to z,H,Y0,m⟩
 ·clear E H m;rintro b a w ⟨x3,e,i,E,H,d,m⟩;cases b with
  | zero=>exact (bD m z).elim
  | succ b=>
   unfold eI at m;refine wS<|sq<|pn 2 E z λa E=>wif E m z (λm=>?_) λm=>?_
   ·refine wK<|aA<|wS<|wB<|sp 2 E z λa E=>bd m λj g m=>sv2 E z (Jr E z z z U9 g) λa E=>pr 2 E z λa E=>nt<|wif E m z (λm=>?_) λm=>?_
    ·refine sq<|pn 2 E z λa E=>wR<|bJ<|aH<|aH<|bJ<|aH<|o1 E z<|?_;cases m;exact ⟨z,H.reads d⟩
    exact wK<|bM<|aA<|wG<|pn 3 E z λa E=>⟨b,nL b,X3 ⟨E.to z,H,d,m⟩⟩
   ·refine wX<|aT<|aT<|cL<|aA<|sq<|pn 1 E z λa E=>wR<|o1 E z<|?_;cases m;exact ⟨z,H.reads d⟩

def mS(b:BY)(c:BY):Option Bool:=
  if (decide ((b.size:Int) ≥ (c.size:Int)))=true then ((ck (0 <= (IntKind.i64.wrap ((b.size:Int) - (c.size:Int)))/\(IntKind.i64.wrap ((b.size:Int) - (c.size:Int))) <= b.size)).bind λd=>some (sEq (b.extract (IntKind.i64.wrap ((b.size:Int) - (c.size:Int))).toNat b.size) c)) else (some (false))
theorem V1{c d:BY}(H:Sep w (Fo) rs){r:Bool}(m:mS c d=some r) :
    Cf 285 [.string c,.string d] w λv w'=>.bool r=v/\Sep w' (Fo) (rs):=by
 unfold mS at m;refine ent func285 z ntmps285 z z λa E=>sp 1 E z λa E=>xp 6 E z λa E=>cs m (λb m=>?_) λb m=>?_
 ·refine pk 6 E (kc 10 z b) z λa E=>bk m λe m=>gv 10 E b z (Fz E z z z U9 e) λa E=>pk 4 E (kc 10 z b) z λa E=>nt<|wR<|o1 E z<|?_;cases m;exact ⟨z,H.reads Y0⟩
 ·refine pk 11 E (kc 10 z b) z λa E=>nt<|wR<|o1 E z<|?_;cases m;exact ⟨z,H.reads Y0⟩

def mA(b:BY)(c:BY):Option BY:=
  (mS b c).bind λd=>if d=true then ((ck (0 <= (IntKind.i64.wrap ((b.size:Int) - (c.size:Int)))/\(IntKind.i64.wrap ((b.size:Int) - (c.size:Int))) <= b.size)).bind λe=>some (b.extract 0 (IntKind.i64.wrap ((b.size:Int) - (c.size:Int))).toNat)) else (some (b))
theorem R2{b c:BY}(H:Sep w (Fo) rs){r:BY}(m:mA b c=some r) :
    Cf 218 [.string b,.string c] w λv w'=>.string r=v/\Sep w' (Fo) (rs):=by
 unfold mA at m;refine ent func218 z ntmps218 z z λa E=>sq<|pn 1 E z λa E=>wS<|sp 2 E z λa E=>bd m λf d m=>xk2 E z (cf_ 285) (V1 H d) λw H a E=>nt<|wif E m z (λm=>?_) λm=>?_
 ·refine sp 6 E z λa E=>bk m λe m=>sv2 E z (Js E z z z U9 e) λa E=>pn 1 E z λa E=>wR<|aH<|o1 E z<|?_;cases m;exact ⟨z,H.reads Y0⟩
 ·refine wK<|aA<|sq<|pn 2 E z λa E=>wR<|o1 E z<|?_;cases m;exact ⟨z,H.reads Y0⟩

def iF(b:BY)(c:BY):Option BY:=
  (mA b c).bind λd=>some (d)
theorem Z6{b c:BY}(H:Sep w (Fo) rs){r:BY}(m:iF b c=some r) :
    Cf 136 [.string b,.string c] w λv w'=>.string r=v/\Sep w' (Fo) (rs):=by
 unfold iF at m;refine ent func136 z ntmps136 z z λa E=>sp 1 E z λa E=>xp 2 E z λa E=>bd m λe d m=>xk2 E z (cf_ 218) (R2 H d) λw H a E=>pn 1 E z λa E=>wR<|o1 E z<|?_;cases m;exact ⟨z,H.reads Y0⟩

def yG(d:BY)(c:BY)(e:Bool):Option Cq:=
  if e=true then (some ((ByteArray.mk #[]),false)) else ((iF d (ByteArray.mk #[47])).bind λb=>(ck (b.size+(ByteArray.mk #[47]).size <= 4611686018427387904)).bind λf=>(ck ((b ++ (ByteArray.mk #[47])).size+c.size <= 4611686018427387904)).bind λg=>some ((b ++ (ByteArray.mk #[47])) ++ c,true))
def J5(b:BY)(c:BY):Option Cq:=
  (C2 b).bind λd=>if (!d.2)=true then (yG b c true) else ((w8 c).bind λe=>if (!e)=true then (yG b c true) else (yG b c ((d.1.length:Int) == 6)))
theorem Nz{d e:BY}(H:Sep w (Fo) rs){r:BY×Bool}(m:J5 d e=some r) :
    Cf 208 [.string d,.string e] w λv w'=>.tuple #[.string r.1,.bool r.2]=v/\Sep w' (Fo) (rs):=by
 unfold J5 at m;refine ent func208 z ntmps208 z z λa E=>sp 2 E z λa E=>xp 1 E z λa E=>bd m λs o m=>xc2 E z (cf_ 144) (Km H o)<|?_;rintro _ w ⟨t,rfl,H⟩ a E;refine pn 5 E z λa E=>wS<|aL (λa w=>∃ g,Jn 30 a w [(0,.string d),(1,.string e),(24,.bool g)] (Fo) rs (yG d e g=some r)) ?_ ?_
 ·refine wG<|pr 3 E z λa E=>cs m (λb m=>?_) λb m=>?_
  ·exact pk 9 E (kc 15 z b) z λa E=>nt<|have H:=H.drop 0;⟨_,_,E.to z,H,Y0,m⟩
  refine pk 1 E (kc 15 z b) z λa E=>bd m λp j m=>gc 15 E b z (cf_ 228) (Fh H j)<|?_;rintro _ w ⟨rfl,H⟩ a E;refine pk 3 E (kc 15 z b) z λa E=>cs m (λc m=>?_) λc m=>?_
  ·exact pk 4 E (kc 20 z c) z λa E=>nt<|have H:=H.drop 0;⟨_,_,E.to z,H,Y0,m⟩
  exact pk 1 E (kc 20 z c) z λa E=>gv 20 E c z (lQ (i:=0) E H z z z U33) λa E=>pk 2 E (kc 20 z c) z λa E=>nt<|have H:=H.drop 0;⟨_,_,E.to z,H,Y0,m⟩
 ·clear E H m;rintro a w ⟨g,q,E,H,f,m⟩;unfold yG at m;refine wif E m z (λm=>?_) λm=>?_
  ·refine sq<|pn 2 E z λa E=>wR<|aH<|hX E z z z<|?_;cases m;exact ⟨z,H.reads f⟩
  ·refine wK<|aA<|sp 1 E z λa E=>bd m λu k m=>xk2 E z (cf_ 136) (Z6 H k) λw H a E=>bk m λl m=>sv2 E z (Qb E z z z l) λa E=>pr 1 E z λa E=>bk m λn m=>sv2 E z (Qb E z z z n) λa E=>pn 2 E z λa E=>wR<|hX E z z z<|?_;cases m;exact ⟨z,H.reads f⟩

def fW(b:BY):Option Bool:=
  (C2 b).bind λc=>some (c.2)
theorem kQ{b:BY}(H:Sep w (Fo) rs){r:Bool}(m:fW b=some r) :
    Cf 83 [.string b] w λv w'=>.bool r=v/\Sep w' (Fo) (rs):=by
 unfold fW at m;refine ent func83 z ntmps83 z z λa E=>sp 1 E z λa E=>xp 1 E z λa E=>bd m λd c m=>xc2 E z (cf_ 144) (Km H c)<|?_;rintro _ w ⟨e,rfl,H⟩ a E;refine pr 5 E z λa E=>nx<|pn 2 E z λa E=>wR<|o1 E z<|have H:=H.drop 0;?_;cases m;exact ⟨z,H.reads Y0⟩

def uC(b:BY)(c:Int):Option Int:=
  (jD b c).bind λd=>some (d)
theorem Ds{b:BY}{c:Int}(H:Sep w (Fo) rs){r:Int}(m:uC b c=some r) :
    Cf 306 [.string b,.int .u8 c] w λv w'=>.int .i64 r=v/\Sep w' (Fo) (rs):=by
 unfold uC at m;refine ent func306 z ntmps306 z z λa E=>sp 1 E z λa E=>xp 2 E z λa E=>bd m λe d m=>xk2 E z (cf_ 346) (J8 H d) λw H a E=>pn 1 E z λa E=>wR<|o1 E z<|?_;cases m;exact ⟨z,H.reads Y0⟩

def H9(b:BY)(d:Bool):Option (BY×BY×Bool):=
  if d=true then (some ((ByteArray.mk #[]),(ByteArray.mk #[]),false)) else ((uC b 47).bind λc=>(ck (0 <= (max c 1)/\(max c 1) <= b.size)).bind λe=>(ck (0 <= (IntKind.i64.wrap (c+1))/\(IntKind.i64.wrap (c+1)) <= b.size)).bind λf=>some (b.extract 0 (max c 1).toNat,b.extract (IntKind.i64.wrap (c+1)).toNat b.size,true))
def O1(b:BY):Option (BY×BY×Bool):=
  (fW b).bind λc=>if (!c)=true then (H9 b true) else (H9 b (sEq b (ByteArray.mk #[47])))
theorem Rl{c:BY}(H:Sep w (Fo) rs){r:BY×BY×Bool}(m:O1 c=some r) :
    Cf 241 [.string c] w λv w'=>.tuple #[.string r.1,.string r.2.1,.bool r.2.2]=v/\Sep w' (Fo) (rs):=by
 unfold O1 at m;refine ent func241 z ntmps241 z z λa E=>sq<|pn 3 E z λa E=>wS<|aL (λa w=>∃ e,Jn 23 a w [(0,.string c),(12,.bool e)] (Fo) rs (H9 c e=some r)) ?_ ?_
 ·refine wG<|pr 1 E z λa E=>bd m λk f m=>xk2 E z (cf_ 83) (kQ H f) λw H a E=>pr 2 E z λa E=>cs m (λb m=>?_) λb m=>?_
  ·exact pk 3 E (kc 9 z b) z λa E=>nt<|⟨_,_,E.to z,H,Y0,m⟩
  exact pk 3 E (kc 9 z b) z λa E=>nt<|⟨_,_,E.to z,H,Y0,m⟩
 ·clear E H m;rintro a w ⟨e,l,E,H,d,m⟩;unfold H9 at m;refine wif E m z (λm=>?_) λm=>?_
  ·refine sq<|pn 3 E z λa E=>wR<|aH<|Wm E z z z z<|?_;cases m;exact ⟨z,H.reads d⟩
  ·refine wK<|aA<|sp 1 E z λa E=>bd m λn i m=>xk2 E z (cf_ 306) (Ds H i) λw H a E=>pn 1 E z λa E=>wS<|dz [0,0,0,0,0,0,0,0,1,2,2] [] H λw W0 hI H=>fn 2 E z λa E=>fv E z (λw hW=>(SN (t:=0) E z z z)) λa E=>bk m λj m=>fv E z (λw hW=>(Js E z z z U9 j)) λa E=>fn 3 E z λa E=>bk m λg m=>fv E z (λw hW=>(Fz E z z z U9 g)) λa E=>bW z<|pn 1 E z λa E=>⟨⟨_,_,H,(bQ),(bT)⟩,bK z<|pn 1 E z λa E=>bK z<|pn 1 E z λa E=>bG<|?_⟩
   clear hI;refine aA<|wR<|Wm E z z z z<|?_;cases m;exact ⟨z,H.reads d⟩

def w9(b:BY):Option BY:=
  (O1 b).bind λc=>some (c.2.1)
theorem Fi{b:BY}(H:Sep w (Fo) rs){r:BY}(m:w9 b=some r) :
    Cf 207 [.string b] w λv w'=>.string r=v/\Sep w' (Fo) (rs):=by
 unfold w9 at m;refine ent func207 z ntmps207 z z λa E=>sp 1 E z λa E=>xp 1 E z λa E=>bd m λd c m=>xk2 E z (cf_ 241) (Rl H c) λw H a E=>pr 7 E z λa E=>nx<|pn 2 E z λa E=>wR<|o1 E z<|?_;cases m;exact ⟨z,H.reads Y0⟩

def vZ(b:Int)(c:BY)(e:Bool):Option Cq:=
  if e=true then (some ((ByteArray.mk #[]),false)) else ((ck (-9223372036854775808 <= IntKind.i64.wrap (10000+b)/\IntKind.i64.wrap (10000+b) <= 9223372036854775807)).bind λg=>(ck (0 <= (1:Int)/\(1:Int) <= (ByteArray.mk (Lib.itoa (IntKind.i64.wrap (10000+b))).toArray).size)).bind λi=>(ck (c.size+((ByteArray.mk (Lib.itoa (IntKind.i64.wrap (10000+b))).toArray).extract (1:Int).toNat (ByteArray.mk (Lib.itoa (IntKind.i64.wrap (10000+b))).toArray).size).size <= 4611686018427387904)).bind λf=>(w8 (c ++ ((ByteArray.mk (Lib.itoa (IntKind.i64.wrap (10000+b))).toArray).extract (1:Int).toNat (ByteArray.mk (Lib.itoa (IntKind.i64.wrap (10000+b))).toArray).size))).bind λd=>if (!d)=true then (some ((ByteArray.mk #[]),false)) else (some (c ++ ((ByteArray.mk (Lib.itoa (IntKind.i64.wrap (10000+b))).toArray).extract (1:Int).toNat (ByteArray.mk (Lib.itoa (IntKind.i64.wrap (10000+b))).toArray).size),true)))
def zU(c:BY)(b:Int):Option Cq:=
  if (decide (b < 0))=true then (vZ b c true) else (vZ b c (decide (b > 9999)))
theorem Rm{e:BY}{d:Int}(H:Sep w (Fo) rs)(k:U5 Tryz.prog ∈ rs){r:BY×Bool}(m:zU e d=some r) :
    Cf 206 [.string e,.int .i64 d] w λv w'=>.tuple #[.string r.1,.bool r.2]=v/\Sep w' (Fo) (rs):=by
 unfold zU at m;refine ent func206 z ntmps206 z z λa E=>sq<|pn 2 E z λa E=>wS<|aL (λa w=>∃ f,Jn 23 a w [(0,.string e),(1,.int .i64 d),(12,.bool f)] (Fo) rs (vZ d e f=some r)) ?_ ?_
 ·refine wG<|pr 3 E z λa E=>cs m (λb m=>?_) λb m=>?_
  ·exact pk 3 E (kc 9 z b) z λa E=>nt<|⟨_,_,E.to z,H,Y0,m⟩
  exact pk 3 E (kc 9 z b) z λa E=>nt<|⟨_,_,E.to z,H,Y0,m⟩
 ·clear E H m;rintro a w ⟨f,n,E,H,c,m⟩;unfold vZ at m;refine wif E m z (λm=>?_) λm=>?_
  ·refine sq<|pn 2 E z λa E=>wR<|aH<|hX E z z z<|?_;cases m;exact ⟨z,H.reads c⟩
  ·refine wK<|aA<|sp 3 E z λa E=>bk m λl m=>xc2 E z (cf_ 278) (QY H (c _ k) (IntKind.i64.wrap (10000+d)) l)<|?_;rintro _ w ⟨rfl,H⟩ a E;refine bk m λg m=>sv2 E z (Fz E z z z U9 g) λa E=>bk m λi m=>sv2 E z (Qb E z z z i) λa E=>pn 1 E z λa E=>wS<|sp 1 E z λa E=>bd m λo j m=>xk2 E z (cf_ 228) (Fh H j) λw H a E=>pn 1 E z λa E=>wif E m z (λm=>?_) λm=>?_
   ·refine sq<|pn 2 E z λa E=>wR<|aH<|hX E z z z<|?_;cases m;exact ⟨z,H.reads c⟩
   ·refine wK<|aA<|sq<|pn 3 E z λa E=>wR<|hX E z z z<|?_;cases m;exact ⟨z,H.reads c⟩

def tZ(c:BY):Option Cq:=
  (O1 c).bind λb=>some (b.1,b.2.2)
theorem R9{b:BY}(H:Sep w (Fo) rs){r:BY×Bool}(m:tZ b=some r) :
    Cf 180 [.string b] w λv w'=>.tuple #[.string r.1,.bool r.2]=v/\Sep w' (Fo) (rs):=by
 unfold tZ at m;refine ent func180 z ntmps180 z z λa E=>sp 2 E z λa E=>xp 1 E z λa E=>bd m λd c m=>xk2 E z (cf_ 241) (Rl H c) λw H a E=>pr 7 E z λa E=>nx<|pn 4 E z λa E=>wR<|hX E z z z<|?_;cases m;exact ⟨z,H.reads Y0⟩

def Ix:Option Unit:=
  some ()
theorem Vg(H:Sep w (Fo) rs){r:Unit}(m:Ix=some r) :
    Cf 288 [] w λv w'=>.agg #[.int .i64 0,.int .i64 13,.int .i64 2,.int .i64 19,.int .i64 18,.int .i64 16,.int .i64 16,.int .i64 20]=v/\Sep w' (Fo) (rs):=by
 unfold Ix at m;refine ent func288 z ntmps288 z z λa E=>sq<|al2 E H z SY λb w a H E=>nx<|sv2 E z (cN E z (E.evs z) (v:=.agg #[.int .i64 0,.int .i64 13,.int .i64 2,.int .i64 19,.int .i64 18,.int .i64 16,.int .i64 16,.int .i64 20]) (by kernel_rfl)) λa E=>ss 0 E H z KA z λw H=>nt<|wR<|oB 0 [.int .i64 0,.int .i64 13,.int .i64 2,.int .i64 19,.int .i64 18,.int .i64 16,.int .i64 16,.int .i64 20] E H OW z KA<|have H:=H.drop 0;?_;cases m;exact ⟨z,H.reads Y0⟩

def Av(x1:Int)(b:Int):Option Bool:=
  if (decide (x1 ≥ 0))=true then (some (decide (x1 <= b))) else (some (false))
theorem Tj{x1 c:Int}(H:Sep w (Fo) rs){r:Bool}(m:Av x1 c=some r) :
    Cf 287 [.int .i64 x1,.int .i64 c] w λv w'=>.bool r=v/\Sep w' (Fo) (rs):=by
 unfold Av at m;refine ent func287 z ntmps287 z z λa E=>sp 1 E z λa E=>xp 3 E z λa E=>cs m (λb m=>?_) λb m=>?_
 ·refine pk 5 E (kc 7 z b) z λa E=>nt<|wR<|o1 E z<|?_;cases m;exact ⟨z,H.reads Y0⟩
 ·refine pk 5 E (kc 7 z b) z λa E=>nt<|wR<|o1 E z<|?_;cases m;exact ⟨z,H.reads Y0⟩

def O2(x1:eY)(b:Int)(c:Bool):Option Bool:=
  if c=true then (Ix.bind λe=>(idx ([0,13,2,19,18,16,16,20]:List Int) x1.Kind).bind λd=>if ((So .i64 b d) == 0)=true then (if (x1.Kind != 7)=true then (some (true)) else (some (decide (x1.Owner > 0)))) else (some (false))) else (some (false))
def O3(x1:eY)(b:Int):Option Bool:=
  if (decide (x1.Version ≥ (-1)))=true then (O2 x1 b (decide (x1.Version <= 281474976710656))) else (O2 x1 b false)
def O4(x1:eY)(b:Int):Option Bool:=
  if (sEq x1.Path (ByteArray.mk #[47]))=true then (O3 x1 (ior .i64 b 16)) else (O3 x1 b)
def O5(x1:eY)(b:Int):Option Bool:=
  if x1.Turns=true then (O4 x1 (ior .i64 b 8)) else (O4 x1 b)
def O6(x1:eY)(b:Int):Option Bool:=
  if (x1.Owner != 0)=true then (O5 x1 (ior .i64 b 4)) else (O5 x1 b)
def O7(x1:eY)(b:Int):Option Bool:=
  if (x1.Version != 0)=true then (O6 x1 (ior .i64 b 2)) else (O6 x1 b)
def vA(x1:eY)(b:Bool):Option Bool:=
  if b=true then (some (false)) else (if (!(sEq x1.Data (ByteArray.mk #[])))=true then (O7 x1 (ior .i64 0 1)) else (O7 x1 0))
def Bi(x1:eY):Option Bool:=
  if (decide (x1.Kind < 1))=true then (vA x1 true) else (if (decide (x1.Kind > 7))=true then (vA x1 true) else ((fW x1.Path).bind λb=>if (!b)=true then (vA x1 true) else (if (decide ((x1.Data.size:Int) > 256))=true then (vA x1 true) else ((Av x1.Owner 1099511627776).bind λc=>vA x1 (!c)))))
theorem Oa{x1:eY}(H:Sep w (Fo) rs){r:Bool}(m:Bi x1=some r) :
    Cf 222 [.agg (uY x1).toArray] w λv w'=>.bool r=v/\Sep w' (Fo) (rs):=by
 unfold Bi at m;refine ent func222 z ntmps222 z z λa E=>sq<|bx E H z λe w a H E=>pn 1 E z λa E=>wS<|aL (λa w=>∃ C,Jn 83 a w [(1,pt e 0),(30,.bool C)] (Blk e 134 (uY x1)::Fo) rs (vA x1 C=some r)) ?_ ?_
 ·refine wG<|pr 1 E z λa E=>lb2 E H 0 U3 z λa E=>pr 2 E z λa E=>cs m (λi m=>?_) λi m=>?_
  ·exact pk 22 E (kc 8 z i) z λa E=>nt<|⟨_,_,E.to z,H,Y0,m⟩
  refine pk 1 E (kc 8 z i) z λa E=>gl 8 E H 0 i U3 z λa E=>pk 3 E (kc 8 z i) z λa E=>cs m (λf m=>?_) λf m=>?_
  ·exact pk 17 E (kc 13 z f) z λa E=>nt<|⟨_,_,E.to z,H,Y0,m⟩
  refine pk 1 E (kc 13 z f) z λa E=>gl 13 E H 0 f U9 z λa E=>bd m λQ D m=>gc 13 E f z (cf_ 83) (kQ H D)<|?_;rintro _ w ⟨rfl,H⟩ a E;refine pk 3 E (kc 13 z f) z λa E=>cs m (λj m=>?_) λj m=>?_
  ·exact pk 11 E (kc 19 z j) z λa E=>nt<|⟨_,_,E.to z,H,Y0,m⟩
  refine pk 1 E (kc 19 z j) z λa E=>gl 19 E H 0 j U9 z λa E=>pk 4 E (kc 19 z j) z λa E=>cs m (λg m=>?_) λg m=>?_
  ·exact pk 5 E (kc 25 z g) z λa E=>nt<|⟨_,_,E.to z,H,Y0,m⟩
  refine pk 1 E (kc 25 z g) z λa E=>gl 25 E H 0 g U2 z λa E=>bd m λR F m=>gc 25 E g z (cf_ 287) (Tj H F)<|?_;rintro _ w ⟨rfl,H⟩ a E;exact pk 2 E (kc 25 z g) z λa E=>nt<|⟨_,_,E.to z,H,Y0,m⟩
 ·clear E H m;rintro a w ⟨C,S,E,H,p,m⟩;unfold vA at m;refine wif E m z (λm=>?_) λm=>?_
  ·refine sq<|pn 1 E z λa E=>wR<|aH<|o1 E z<|have H:=H.drop 0;?_;cases m;exact ⟨z,H.reads p⟩
  ·refine wK<|aA<|sq<|pn 1 E z λa E=>aL (λa w=>∃ G,Jn 83 a w [(1,pt e 0),(3,.int .i64 G)] (Blk e 134 (uY x1)::Fo) rs (O7 x1 G=some r)) ?_ ?_
   ·refine sp 1 E z λa E=>lb2 E H 0 U9 z λa E=>pn 1 E z λa E=>wif E m z (λm=>?_) λm=>?_
    ·exact wG<|pn 3 E z λa E=>⟨_,_,E.to z,H,p,m⟩
    exact wK<|aA<|⟨_,_,E.to z,H,p,m⟩
   ·clear E H m;rintro a w ⟨G,T,E,H,B,m⟩;unfold O7 at m;refine aL (λa w=>∃ I,Jn 83 a w [(1,pt e 0),(3,.int .i64 I)] (Blk e 134 (uY x1)::Fo) rs (O6 x1 I=some r)) ?_ ?_
    ·refine sp 1 E z λa E=>lb2 E H 0 U2 z λa E=>pn 1 E z λa E=>wif E m z (λm=>?_) λm=>?_
     ·exact wG<|pn 3 E z λa E=>⟨_,_,E.to z,H,B,m⟩
     exact wK<|aA<|⟨_,_,E.to z,H,B,m⟩
    ·clear E H m;rintro a w ⟨I,L,E,H,q,m⟩;unfold O6 at m;refine aL (λa w=>∃ s,Jn 83 a w [(1,pt e 0),(3,.int .i64 s)] (Blk e 134 (uY x1)::Fo) rs (O5 x1 s=some r)) ?_ ?_
     ·refine sp 1 E z λa E=>lb2 E H 0 U2 z λa E=>pn 1 E z λa E=>wif E m z (λm=>?_) λm=>?_
      ·exact wG<|pn 3 E z λa E=>⟨_,_,E.to z,H,q,m⟩
      exact wK<|aA<|⟨_,_,E.to z,H,q,m⟩
     ·clear E H m;rintro a w ⟨s,M,E,H,t,m⟩;unfold O5 at m;refine aL (λa w=>∃ u,Jn 83 a w [(1,pt e 0),(3,.int .i64 u)] (Blk e 134 (uY x1)::Fo) rs (O4 x1 u=some r)) ?_ ?_
      ·refine sp 1 E z λa E=>lb2 E H 0 U4 z λa E=>nt<|wif E m z (λm=>?_) λm=>?_
       ·exact wG<|pn 3 E z λa E=>⟨_,_,E.to z,H,t,m⟩
       exact wK<|aA<|⟨_,_,E.to z,H,t,m⟩
      ·clear E H m;rintro a w ⟨u,N,E,H,x,m⟩;unfold O4 at m;refine aL (λa w=>∃ o,Jn 83 a w [(1,pt e 0),(3,.int .i64 o)] (Blk e 134 (uY x1)::Fo) rs (O3 x1 o=some r)) ?_ ?_
       ·refine sp 1 E z λa E=>lb2 E H 0 U9 z λa E=>pn 1 E z λa E=>wif E m z (λm=>?_) λm=>?_
        ·exact wG<|pn 3 E z λa E=>⟨_,_,E.to z,H,x,m⟩
        exact wK<|aA<|⟨_,_,E.to z,H,x,m⟩
       ·clear E H m;rintro a w ⟨o,O,E,H,y,m⟩;unfold O3 at m;refine aL (λa w=>∃ A,Jn 83 a w [(1,pt e 0),(3,.int .i64 o),(4,.bool A)] (Blk e 134 (uY x1)::Fo) rs (O2 x1 o A=some r)) ?_ ?_
        ·refine wG<|pr 1 E z λa E=>lb2 E H 0 U2 z λa E=>pr 2 E z λa E=>cs m (λk m=>?_) λk m=>?_
         ·exact pk 1 E (kc 58 z k) z λa E=>gl 58 E H 0 k U2 z λa E=>pk 3 E (kc 58 z k) z λa E=>nt<|⟨_,_,E.to z,H,y,m⟩
         exact pk 5 E (kc 58 z k) z λa E=>nt<|⟨_,_,E.to z,H,y,m⟩
        ·clear E H m;rintro a w ⟨A,P,E,H,n,m⟩;unfold O2 at m;refine wS<|dw [(0,0),(1,0),(2,0),(4,0),(5,0),(3,1),(6,0),(7,0),(8,0),(9,0),(10,0),(11,0),(12,0),(13,0),(14,0),(15,0),(16,0),(17,0),(18,0),(19,0),(20,2)] [0] [] H (by kernel_rfl) (λ_ _ _ h=>False.elim h.2) λw W0 hI H=>fn 2 E z λa E=>cs m (λb m=>?_) λb m=>?_
         ·refine fk 2 E (kc 64 z b) z λa E=>fb E z (ws' (d:=64) E z z z z b) z z z z m0 z U3 z λa E=>bW z<|bd m λU J m=>gc 64 E b z (cf_ 288) (Vg H J)<|?_;rintro _ w ⟨rfl,H⟩ a E;refine nt<|⟨sx H [0] z,bd m λV K m=>dV E z (ws' (d:=64) E z z z z b) z z (λw hW=>(KO (vs:=[.int .i64 0,.int .i64 13,.int .i64 2,.int .i64 19,.int .i64 18,.int .i64 16,.int .i64 16,.int .i64 20]) E z z z OW z sz3 U3 z (KP (Value.int .i64) (xs:=([0,13,2,19,18,16,16,20]:List Int)) K))) λa E=>fk 4 E (kc 64 z b) z λa E=>cs m (λc m=>?_) λc m=>?_⟩
          ·refine fk 1 E (kc 73 z c) z λa E=>fb E z (ws' (d:=73) E z z z z c) z z z z m0 z U3 z λa E=>fk 2 E (kc 73 z c) z λa E=>cs m (λl m=>?_) λl m=>?_
           ·refine fk 5 E (kc' (kc 77 z l) 73 z c) z λa E=>bK z<|pn 1 E z λa E=>bG<|?_;clear hI;refine aA<|wR<|o1 E z<|have H:=H.drop 0;?_;cases m;exact ⟨z,H.reads n⟩
           refine fk 1 E (kc 77 z l) z λa E=>fb E z (ws' (d:=77) E z z z z l) z z z z m0 z U2 z λa E=>fk 3 E (kc' (kc 77 z l) 73 z c) z λa E=>bK z<|pn 1 E z λa E=>bG<|?_;clear hI;refine aA<|wR<|o1 E z<|have H:=H.drop 0;?_;cases m;exact ⟨z,H.reads n⟩
          refine fk 9 E (kc 73 z c) z λa E=>bK z<|pn 1 E z λa E=>bG<|?_;clear hI;refine aA<|wR<|o1 E z<|have H:=H.drop 0;?_;cases m;exact ⟨z,H.reads n⟩
         ·refine fk 3 E (kc 64 z b) z λa E=>bW z<|pk 1 E (kc 64 z b) z λa E=>nt<|⟨sx H [0] z,fk 14 E (kc 64 z b) z λa E=>bK z<|pn 1 E z λa E=>bG<|?_⟩
          clear hI;refine aA<|wR<|o1 E z<|have H:=H.drop 0;?_;cases m;exact ⟨z,H.reads n⟩

def nF(b:Int):Option Bool:=
  some (decide (b ≥ 5000))
def gP(b:List aG):Nat->Int->Int->Option Bool
  | 0,_,_=>none
  | f+1,c,d=>
    if (decide (d < (b.length:Int)))=true then (if (decide (c < 5000))=true then ((idx b d).bind λe=>(idx b d).bind λx20=>gP b f (IntKind.i64.wrap ((IntKind.i64.wrap (c+(min (e.Path.size:Int) 5000)))+(min (x20.Data.size:Int) 5000))) (IntKind.i64.wrap (d+1))) else (nF c)) else (nF c)
def uN(b:List aG):Option Bool:=
  gP b 5002 (IntKind.i64.wrap (3 * (b.length:Int))) 0
theorem Ji{f:VL}{g:List aG}(H:Sep w (Fo) rs)(e:rSl aB f g ∈ rs){r:Bool}(m:uN g=some r) :
    Cf 39 [f] w λv w'=>.bool r=v/\Sep w' (Fo) (rs):=by
 unfold uN at m;refine ent func39 z ntmps39 z z λa E=>sp 1 E z λa E=>xp 1 E z λa E=>lS E H e U22 z λa E=>pn 2 E z λa E=>aL (λa w=>∃ i,Jn 37 a w [(3,.int .i64 i)] (Fo) rs (nF i=some r)) ?_ ?_
 ·refine sq<|pn 1 E z λa E=>wB<|bF (λd a w=>∃ j l,Jn 37 a w [(0,f),(3,.int .i64 j),(4,.int .i64 l)] (Fo) rs (gP g d j l=some r)) (5002) ?_ ?_
  ·exact X3 ⟨E.to z,H,Y0,m⟩
  clear E H m;rintro d a w ⟨j,l,B,E,H,b,m⟩;cases d with
  | zero=>exact (bD m z).elim
  | succ d=>
   unfold gP at m;refine wS<|sp 2 E z λa E=>lS E H (b _ e) U22 z λa E=>pr 2 E z λa E=>cs m (λc m=>?_) λc m=>?_
   ·refine pk 3 E (kc 12 z c) z λa E=>nt<|wif E m z (λm=>?_) λm=>?_
    ·refine wK<|aA<|wS<|wB<|?_;obtain ⟨C,H⟩:=H.raw (b _ e);refine dw [(0,0),(1,0),(2,0),(3,0),(4,0),(5,0),(6,0),(7,0),(8,0),(9,0),(10,0),(11,0),(12,0),(13,0),(14,0),(15,0),(16,0),(17,2)] [] [0] H (by kernel_rfl) (λ_ _ _ h=>False.elim h.2) λw W0 hI H=>fn 3 E z λa E=>bd m λD n m=>?_;obtain ⟨q15,F,o,p⟩:=gD (P:=Tryz.prog) (k:=.i64) hI (gC (.head _)) U22 gM n;refine fv E z (λw hW=>iO E z z z (o w)) λa E=>?_;have q:=tC p (λ_ _ _ h=>Sv h);refine fn 1 E z λa E=>fa E z (wn z) z z z z q U9 z λa E=>fn 1 E z λa E=>fv E z (λw hW=>(Qc (t:=0) E z z z)) λa E=>fn 3 E z λa E=>bd m λx20 s m=>?_;obtain ⟨q22,G,u,x⟩:=gD (P:=Tryz.prog) (k:=.i64) hI (gC (.head _)) U22 gM s;refine fv E z (λw hW=>iO E z z z (u w)) λa E=>?_;have y:=tC x (λ_ _ _ h=>Sw h);refine fn 1 E z λa E=>fa E z (wn z) z z z z y U9 z λa E=>fn 1 E z λa E=>fv E z (λw hW=>(Qc (t:=0) E z z z)) λa E=>fn 1 E z λa E=>bK z<|pn 1 E z λa E=>bG<|?_;clear hI;exact bM<|aA<|wG<|pn 3 E z λa E=>⟨d,nL d,X3 ⟨E.to z,H,(Y1 b),m⟩⟩
    exact wX<|aT<|aT<|cL<|aA<|⟨_,_,E.to z,H,b,m⟩
   exact pk 3 E (kc 12 z c) z λa E=>nt<|wp_cond_false (E.eval z)<|wX<|aT<|aT<|cL<|aA<|⟨_,_,E.to z,H,b,m⟩
 ·clear E H m;rintro a w ⟨i,I,E,H,A,m⟩;unfold nF at m;refine sq<|pn 3 E z λa E=>wR<|o1 E z<|?_;cases m;exact ⟨z,H.reads A⟩

def oD(c:List BY)(d:List BY):Nat->Int->Option Bool
  | 0,_=>none
  | g+1,b=>
    if (decide (b < (c.length:Int)))=true then ((idx c b).bind λe=>(idx d b).bind λf=>if (!(sEq e f))=true then (some (false)) else (oD c d g (IntKind.i64.wrap (b+1)))) else (some (true))
def wA(b:List BY)(c:List BY):Option Bool:=
  if ((b.length:Int) != (c.length:Int))=true then (some (false)) else (oD b c (((b.length:Int) - 0:Int).toNat+1) 0)
theorem Kq{g i:VL}{e j:List BY}(H:Sep w (Fo) rs)(d:rSl kS g e ∈ rs)(f:rSl kS i j ∈ rs){r:Bool}(m:wA e j=some r) :
    Cf 124 [g,i] w λv w'=>.bool r=v/\Sep w' (Fo) (rs):=by
 unfold wA at m;refine ent func124 z ntmps124 z z λa E=>sq<|pn 1 E z λa E=>wS<|sp 1 E z λa E=>lS E H d U33 z λa E=>pr 1 E z λa E=>lS E H f U33 z λa E=>pn 1 E z λa E=>wif E m z (λm=>?_) λm=>?_
 ·refine sq<|pn 1 E z λa E=>wR<|aH<|o1 E z<|?_;cases m;exact ⟨z,H.reads Y0⟩
 ·refine wK<|aA<|wS<|sq<|pn 1 E z λa E=>wB<|bF (λc a w=>∃ l,Jn 26 a w [(0,g),(1,i),(5,.int .i64 l)] (Fo) rs (oD e j c l=some r)) (((e.length:Int) - 0:Int).toNat+1) ?_ ?_
  ·exact ⟨_,_,E.to z,H,Y0,m⟩
  ·clear E H m;rintro c a w ⟨l,u,E,H,b,m⟩;cases c with
   | zero=>exact (bD m z).elim
   | succ c=>
    unfold oD at m;refine wS<|sp 2 E z λa E=>lS E H (b _ d) U33 z λa E=>pn 1 E z λa E=>wif E m z (λm=>?_) λm=>?_
    ·refine wK<|aA<|wS<|wB<|wS<|?_;obtain ⟨x,H⟩:=H.raw (b _ d);obtain ⟨y,H⟩:=H.raw (t1 (b _ f));refine dw [(0,0),(1,0),(2,0),(3,0),(4,0),(5,0),(6,0),(7,0),(8,0)] [] [1,0] H (by kernel_rfl) (λ_ _ _ h=>False.elim h.2) λw W0 hI H=>fn 2 E z λa E=>bd m λA n m=>?_;obtain ⟨q14,B,o,p⟩:=gD (P:=Tryz.prog) (k:=.i64) hI (gC (.head _)) U33 sz9 n;refine fv E z (λw hW=>iO E z z z (o w)) λa E=>fa E z (wn z) z z z z p U9 z λa E=>fn 2 E z λa E=>bd m λC q m=>?_;obtain ⟨q20,D,s,t⟩:=gD (P:=Tryz.prog) (k:=.i64) hI (gC (.tail _ (.head _))) U33 sz9 q;refine fv E z (λw hW=>iO E z z z (s w)) λa E=>fa E z (wn z) z z z z t U9 z λa E=>fn 1 E z λa E=>bG<|?_;clear hI;refine aA<|wif E m z (λm=>?_) λm=>?_
     ·refine sq<|pn 1 E z λa E=>wR<|bJ<|aH<|aH<|bJ<|aH<|o1 E z<|?_;cases m;exact ⟨z,H.reads (Y2 b)⟩
     exact wK<|bM<|aA<|wG<|pn 3 E z λa E=>⟨c,nL c,_,_,E.to z,H,(Y2 b),m⟩
    ·refine wX<|aT<|aT<|cL<|aA<|sq<|pn 1 E z λa E=>wR<|o1 E z<|?_;cases m;exact ⟨z,H.reads b⟩

def oE(e:List aG)(f:List aG):Nat->Int->Option Bool
  | 0,_=>none
  | g+1,d=>
    if (decide (d < (e.length:Int)))=true then ((idx e d).bind λb=>(idx f d).bind λc=>if (!((sEq b.Path c.Path) && ((sEq b.Data c.Data) && ((b.Version == c.Version) && ((b.Turn == c.Turn) && (b.Owner == c.Owner))))))=true then (some (false)) else (oE e f g (IntKind.i64.wrap (d+1)))) else (some (true))
def sF(b:List aG)(c:List aG):Option Bool:=
  if ((b.length:Int) != (c.length:Int))=true then (some (false)) else (oE b c (((b.length:Int) - 0:Int).toNat+1) 0)
theorem Bt{j l:VL}{g n:List aG}(H:Sep w (Fo) rs)(f:rSl aB j g ∈ rs)(i:rSl aB l n ∈ rs){r:Bool}(m:sF g n=some r) :
    Cf 55 [j,l] w λv w'=>.bool r=v/\Sep w' (Fo) (rs):=by
 unfold sF at m;refine ent func55 z ntmps55 z z λa E=>sq<|pn 1 E z λa E=>wS<|sp 1 E z λa E=>lS E H f U22 z λa E=>pr 1 E z λa E=>lS E H i U22 z λa E=>pn 1 E z λa E=>wif E m z (λm=>?_) λm=>?_
 ·refine sq<|pn 1 E z λa E=>wR<|aH<|o1 E z<|?_;cases m;exact ⟨z,H.reads Y0⟩
 ·refine wK<|aA<|wS<|sq<|pn 1 E z λa E=>wB<|bF (λe a w=>∃ o,Jn 26 a w [(0,j),(1,l),(5,.int .i64 o)] (Fo) rs (oE g n e o=some r)) (((g.length:Int) - 0:Int).toNat+1) ?_ ?_
  ·exact ⟨_,_,E.to z,H,Y0,m⟩
  ·clear E H m;rintro e a w ⟨o,y,E,H,d,m⟩;cases e with
   | zero=>exact (bD m z).elim
   | succ e=>
    unfold oE at m;refine wS<|sp 2 E z λa E=>lS E H (d _ f) U22 z λa E=>pn 1 E z λa E=>wif E m z (λm=>?_) λm=>?_
    ·refine wK<|aA<|wS<|wB<|wS<|?_;obtain ⟨A,H⟩:=H.raw (d _ f);obtain ⟨B,H⟩:=H.raw (t1 (d _ i));refine dw [(0,0),(1,0),(2,0),(3,0),(4,0),(5,0),(6,0),(7,0),(8,0)] [] [1,0] H (by kernel_rfl) (λ_ _ _ h=>False.elim h.2) λw W0 hI H=>fn 2 E z λa E=>bd m λb p m=>?_;obtain ⟨q14,C,q,s⟩:=gD (P:=Tryz.prog) (k:=.i64) hI (gC (.head _)) U22 gM p;refine fv E z (λw hW=>iO E z z z (q w)) λa E=>fv E z (λw hW=>mW E z z (G9 (cs:=[.string b.Path,.string b.Data,.int .i64 b.Version,.int .i64 b.Turn,.int .i64 b.Owner]) (DR.ir (N8 s)) (λ_ _ _ h=>zR h) w6 z gM w hW)) λa E=>fn 2 E z λa E=>bd m λc t m=>?_;obtain ⟨q20,D,u,x⟩:=gD (P:=Tryz.prog) (k:=.i64) hI (gC (.tail _ (.head _))) U22 gM t;refine fv E z (λw hW=>iO E z z z (u w)) λa E=>fv E z (λw hW=>mW E z z (G9 (cs:=[.string c.Path,.string c.Data,.int .i64 c.Version,.int .i64 c.Turn,.int .i64 c.Owner]) (DR.ir (N8 x)) (λ_ _ _ h=>zR h) w6 z gM w hW)) λa E=>fv E z (λw hW=>(zP E z z z (v:=.bool (!((sEq b.Path c.Path) && ((sEq b.Data c.Data) && ((b.Version == c.Version) && ((b.Turn == c.Turn) && (b.Owner == c.Owner))))))) (Qf QN (Ea w6 QM (yP (by rfl) (by kernel_rfl) (by kernel_rfl) (Bq U9) (yP (by rfl) (by kernel_rfl) (by kernel_rfl) (Bq U9) (yP (by rfl) (by kernel_rfl) (by kernel_rfl) (R1 U2) (yP (by rfl) (by kernel_rfl) (by kernel_rfl) (R1 U2) (Hi (by rfl) (by kernel_rfl) (by kernel_rfl) (R1 U2)))))))))) λa E=>bG<|?_;clear hI;refine aA<|wif E m z (λm=>?_) λm=>?_
     ·refine sq<|pn 1 E z λa E=>wR<|bJ<|aH<|aH<|bJ<|aH<|o1 E z<|?_;cases m;exact ⟨z,H.reads (Y2 d)⟩
     exact wK<|bM<|aA<|wG<|pn 3 E z λa E=>⟨e,nL e,_,_,E.to z,H,(Y2 d),m⟩
    ·refine wX<|aT<|aT<|cL<|aA<|sq<|pn 1 E z λa E=>wR<|o1 E z<|?_;cases m;exact ⟨z,H.reads d⟩

def sG(x1:cT)(x3:cT):Option Bool:=
  if (x1.Err == x3.Err)=true then (if (sEq x1.Path x3.Path)=true then (if (sEq x1.Data x3.Data)=true then (if (x1.Version == x3.Version)=true then ((wA x1.Names x3.Names).bind λb=>some (b)) else (some (false))) else (some (false))) else (some (false))) else (some (false))
theorem Gh{x1 x3:cT}{g i:VL}(H:Sep w (Fo) rs)(j:rSl kS g x1.Names ∈ rs)(k:rSl kS i x3.Names ∈ rs){r:Bool}(m:sG x1 x3=some r) :
    Cf 58 [.agg (Z1 x1 g).toArray,.agg (Z1 x3 i).toArray] w λv w'=>.bool r=v/\Sep w' (Fo) (rs):=by
 unfold sG at m;refine ent func58 z ntmps58 z z λa E=>sq<|bx E H z λn w a H E=>bx E H z λo w a H E=>pr 1 E z λa E=>xp 1 E z λa E=>lb2 E H 1 U41 z λa E=>pr 1 E z λa E=>lb2 E H 0 U41 z λa E=>pr 2 E z λa E=>cs m (λe m=>?_) λe m=>?_
 ·refine pk 1 E (kc 10 z e) z λa E=>gl 10 E H 1 e U9 z λa E=>pk 1 E (kc 10 z e) z λa E=>gl 10 E H 0 e U9 z λa E=>pk 3 E (kc 10 z e) z λa E=>cs m (λc m=>?_) λc m=>?_
  ·refine pk 1 E (kc 17 z c) z λa E=>gl 17 E H 1 c U9 z λa E=>pk 1 E (kc 17 z c) z λa E=>gl 17 E H 0 c U9 z λa E=>pk 3 E (kc 17 z c) z λa E=>cs m (λd m=>?_) λd m=>?_
   ·refine pk 1 E (kc 24 z d) z λa E=>gl 24 E H 1 d U2 z λa E=>pk 1 E (kc 24 z d) z λa E=>gl 24 E H 0 d U2 z λa E=>pk 3 E (kc 24 z d) z λa E=>cs m (λb m=>?_) λb m=>?_
    ·refine pk 1 E (kc 31 z b) z λa E=>gl 31 E H 1 b U33 z λa E=>pk 1 E (kc 31 z b) z λa E=>gl 31 E H 0 b U33 z λa E=>bd m λl f m=>gc 31 E b z (cf_ 124) (Kq H j k f)<|?_;rintro _ w ⟨rfl,H⟩ a E;refine pk 2 E (kc 31 z b) z λa E=>nt<|wR<|o1 E z<|have H:=H.drs [0,0];?_;cases m;exact ⟨z,H.reads Y0⟩
    refine pk 7 E (kc 31 z b) z λa E=>nt<|wR<|o1 E z<|have H:=H.drs [0,0];?_;cases m;exact ⟨z,H.reads Y0⟩
   refine pk 14 E (kc 24 z d) z λa E=>nt<|wR<|o1 E z<|have H:=H.drs [0,0];?_;cases m;exact ⟨z,H.reads Y0⟩
  refine pk 21 E (kc 17 z c) z λa E=>nt<|wR<|o1 E z<|have H:=H.drs [0,0];?_;cases m;exact ⟨z,H.reads Y0⟩
 ·refine pk 28 E (kc 10 z e) z λa E=>nt<|wR<|o1 E z<|have H:=H.drs [0,0];?_;cases m;exact ⟨z,H.reads Y0⟩

def Cd(x1:eY):Option Bool:=
  (Bi x1).bind λb=>some (!b)
theorem Vh{x1:eY}(H:Sep w (Fo) rs){r:Bool}(m:Cd x1=some r) :
    Cf 221 [.agg (uY x1).toArray] w λv w'=>.bool r=v/\Sep w' (Fo) (rs):=by
 unfold Cd at m;refine ent func221 z ntmps221 z z λa E=>sq<|bx E H z λc w a H E=>pr 1 E z λa E=>nx<|ln 0 (uY x1) E H Xg z Em λa E=>bd m λd b m=>xk2 E z (cf_ 222) (Oa H b) λw H a E=>pr 2 E z λa E=>nt<|wR<|o1 E z<|have H:=H.drop 0;?_;cases m;exact ⟨z,H.reads Y0⟩

def lD(c:List eY):Nat->Int->Option Int
  | 0,_=>none
  | e+1,b=>
    if (decide (b < (c.length:Int)))=true then ((idx c b).bind λf=>(Cd f).bind λd=>if d=true then (some (b)) else (lD c e (IntKind.i64.wrap (b+1)))) else (some ((-1)))
def rZ(b:List eY):Option Int:=
  lD b (((b.length:Int) - 0:Int).toNat+1) 0
theorem V2{f:VL}{d:List eY}(H:Sep w (Fo) rs)(e:rSl T9 f d ∈ rs){r:Int}(m:rZ d=some r) :
    Cf 286 [f,.func (.func 221) #[] #[]] w λv w'=>.int .i64 r=v/\Sep w' (Fo) (rs):=by
 unfold rZ at m;refine ent func286 z ntmps286 z z λa E=>sq<|pn 1 E z λa E=>wS<|sp 1 E z λa E=>lS E H e Te z λa E=>pr 1 E z λa E=>nt<|wB<|bF (λc a w=>∃ g,Jn 19 a w [(0,f),(1,.func (.func 221) #[] #[]),(7,.int .i64 (d.length:Int)),(8,.int .i64 g)] (Fo) rs (lD d c g=some r)) (((d.length:Int) - 0:Int).toNat+1) ?_ ?_
 ·exact ⟨_,_,E.to z,H,Y0,m⟩
 ·clear E H m;rintro c a w ⟨g,k,E,H,b,m⟩;cases c with
  | zero=>exact (bD m z).elim
  | succ c=>
   unfold lD at m;refine sq<|pn 1 E z λa E=>wS<|wif E m z (λm=>?_) λm=>?_
   ·refine wK<|aA<|wS<|wB<|sp 2 E z λa E=>xp 3 E z λa E=>bd m λn j m=>dC E H (wn z) z z z z z (b _ e) Te Em j λq9 a H E=>ldf Iv E H z z z z z m0 Xg z Em λa E=>bd m λl i m=>bI E (wn z) z z (bO E z z z ((cf_ 221) _)) (Vh H i)<|?_;rintro _ w ⟨rfl,H⟩ a E;refine nt<|wif E m z (λm=>?_) λm=>?_
    ·refine sq<|pn 2 E z λa E=>wR<|bJ<|aH<|aH<|bJ<|aH<|o1 E z<|?_;cases m;exact ⟨z,H.reads (Y1 b)⟩
    exact wK<|bM<|aA<|wG<|pn 2 E z λa E=>⟨c,nL c,_,_,E.to z,H,(Y1 b),m⟩
   ·refine wX<|aT<|aT<|cL<|aA<|sq<|pn 1 E z λa E=>wR<|o1 E z<|?_;cases m;exact ⟨z,H.reads b⟩

def pO(b:List eY):Option Bool:=
  (rZ b).bind λc=>some (decide (c ≥ 0))
theorem O8{b:VL}{c:List eY}(H:Sep w (Fo) rs)(d:rSl T9 b c ∈ rs){r:Bool}(m:pO c=some r) :
    Cf 220 [b,.func (.func 221) #[] #[]] w λv w'=>.bool r=v/\Sep w' (Fo) (rs):=by
 unfold pO at m;refine ent func220 z ntmps220 z z λa E=>sp 1 E z λa E=>xp 2 E z λa E=>bd m λf e m=>xk2 E z (cf_ 286) (V2 H d e) λw H a E=>pn 2 E z λa E=>wR<|o1 E z<|?_;cases m;exact ⟨z,H.reads Y0⟩

def Fj(b:List eY):Option Bool:=
  (pO b).bind λc=>if (decide ((b.length:Int) > 0))=true then (if (decide ((b.length:Int) <= 8))=true then (some (!c)) else (some (false))) else (some (false))
theorem Zv{e:VL}{f:List eY}(H:Sep w (Fo) rs)(c:rSl T9 e f ∈ rs){r:Bool}(m:Fj f=some r) :
    Cf 140 [e] w λv w'=>.bool r=v/\Sep w' (Fo) (rs):=by
 unfold Fj at m;refine ent func140 z ntmps140 z z λa E=>sp 1 E z λa E=>xp 1 E z λa E=>bd m λi g m=>xk2 E z (cf_ 220) (O8 H c g) λw H a E=>pr 1 E z λa E=>nx<|pr 1 E z λa E=>lS E H c Te z λa E=>pr 2 E z λa E=>cs m (λb m=>?_) λb m=>?_
 ·refine pk 1 E (kc 9 z b) z λa E=>gv 9 E b z (xO E H z z c Te) λa E=>pk 3 E (kc 9 z b) z λa E=>cs m (λd m=>?_) λd m=>?_
  ·refine pk 4 E (kc 14 z d) z λa E=>nt<|wR<|o1 E z<|?_;cases m;exact ⟨z,H.reads Y0⟩
  refine pk 4 E (kc 14 z d) z λa E=>nt<|wR<|o1 E z<|?_;cases m;exact ⟨z,H.reads Y0⟩
 ·refine pk 9 E (kc 9 z b) z λa E=>nt<|wR<|o1 E z<|?_;cases m;exact ⟨z,H.reads Y0⟩

def vO(b:List bE)(c:List bE):Option Hp:=
  (ck (c.length+b.length <= LIM)).bind λd=>some (c ++ b)
theorem A2{c d:VL}{e f:List bE}{b:Nat}(H:Sep w (Blk b 192 [d]::Row 97 cP d f::Fo) rs)(g:rSl cP c e ∈ rs){r:Hp}(m:vO e f=some r) :
    Cf 223 [c,pt b 0] w λv w'=>∃ j,.tuple #[]=v/\Sep w' (Blk b 192 [j]::Row 97 cP j r::Fo) (rs):=by
 unfold vO at m;refine ent func223 z ntmps223 z z λa E=>wG<|lb2 E H 0 Xi z λa E=>pr 1 E z λa E=>bk m λk m=>eF (i:=1) E H (wn z) z z z z z z (lH g) Xi TD z k z λn w a H E=>?_;obtain ⟨q10,l,rfl⟩:=H.rowform (i:=1) z;refine ss 0 E H z TE z λw H=>wN<|xI E z<|?_;cases m;exact ⟨_,z,H.reads Y0⟩

def A3(x1:Int)(b:BY)(c:BY):Option bE:=
  some ((⟨x1,b,c,(ByteArray.mk #[]),0,0,false⟩:bE))
theorem R3{x1:Int}{j k:Nat}{b c:BY}{d e f g i:VL}(H:Sep w (Blk j 9 [.string b]::Blk k 134 [d,.string c,e,f,g,i]::Fo) rs){r:bE}(m:A3 x1 b c=some r) :
    Cf 224 [.int .i64 x1,pt j 0,pt k 0] w λv w'=>.agg (cB r).toArray=v/\Sep w' (Blk j 9 [.string b]::Blk k 134 [d,.string c,e,f,g,i]::Fo) (rs):=by
 unfold A3 at m;refine ent func224 z ntmps224 z z λa E=>sq<|al2 E H z Pd λl w a H E=>xp 1 E z λa E=>lb2 E H 1 U9 z λa E=>pr 1 E z λa E=>lb2 E H 2 U9 z λa E=>sv2 E z (cN E z (E.evs z) (v:=.agg #[.int .i64 x1,.string b,.string c,.string (ByteArray.mk #[]),.int .i64 0,.int .i64 0,.bool false]) (by kernel_rfl)) λa E=>ss 0 E H z mR z λw H=>nt<|wR<|oB 0 [.int .i64 x1,.string b,.string c,.string (ByteArray.mk #[]),.int .i64 0,.int .i64 0,.bool false] E H U97 z mR<|have H:=H.drop 0;?_;cases m;exact ⟨z,H.reads Y0⟩

def R4(x1:Int)(b:BY)(c:Int):Option bE:=
  some ((⟨x1,b,b,(ByteArray.mk #[]),0,c,false⟩:bE))
theorem Fk{x1 c:Int}{g:Nat}{b:BY}{i d e f:VL}(H:Sep w (Blk g 134 [i,.string b,d,e,.int .i64 c,f]::Fo) rs){r:bE}(m:R4 x1 b c=some r) :
    Cf 225 [.int .i64 x1,pt g 0] w λv w'=>.agg (cB r).toArray=v/\Sep w' (Blk g 134 [i,.string b,d,e,.int .i64 c,f]::Fo) (rs):=by
 unfold R4 at m;refine ent func225 z ntmps225 z z λa E=>sq<|al2 E H z Pd λj w a H E=>xp 2 E z λa E=>lb2 E H 1 U9 z λa E=>pr 1 E z λa E=>lb2 E H 1 U9 z λa E=>pr 1 E z λa E=>lb2 E H 1 U2 z λa E=>sv2 E z (cN E z (E.evs z) (v:=.agg #[.int .i64 x1,.string b,.string b,.string (ByteArray.mk #[]),.int .i64 0,.int .i64 c,.bool false]) (by kernel_rfl)) λa E=>ss 0 E H z mR z λw H=>nt<|wR<|oB 0 [.int .i64 x1,.string b,.string b,.string (ByteArray.mk #[]),.int .i64 0,.int .i64 c,.bool false] E H U97 z mR<|have H:=H.drop 0;?_;cases m;exact ⟨z,H.reads Y0⟩

def R5(x1:Int)(c:BY)(d:BY)(e:Int):Option bE:=
  (A3 x1 c d).bind λb=>some ((⟨b.Kind,b.Dir,b.Path,b.Data,e,b.Owner,b.Turns⟩:bE))
theorem Fl{x1 c:Int}{k e d:Nat}{l n:BY}{f g i j:VL}(H:Sep w (Blk k 258 [.func (.func 224) #[] #[pt e 0,pt d 0]]::Blk e 9 [.string l]::Blk d 134 [f,.string n,g,.int .i64 c,i,j]::Fo) rs){r:bE}(m:R5 x1 l n c=some r) :
    Cf 226 [.int .i64 x1,pt k 0,pt d 0] w λv w'=>.agg (cB r).toArray=v/\Sep w' (Blk k 258 [.func (.func 224) #[] #[pt e 0,pt d 0]]::Blk e 9 [.string l]::Blk d 134 [f,.string n,g,.int .i64 c,i,j]::Fo) (rs):=by
 unfold R5 at m;refine ent func226 z ntmps226 z z λa E=>sq<|al2 E H z Pd λp w a H E=>nx<|lb2 E H 1 Xh z λa E=>pr 1 E z λa E=>have H:=H.frs [1,1,3,3] z;bd m λb o m=>bI E (wn z) z z (bO E z z z ((cf_ 224) _)) (R3 H o)<|?_;rintro _ w ⟨rfl,H⟩ a E;refine al2 E H z Pd λq w a H E=>ss 0 E H z mR z λw H=>xp 1 E z λa E=>lb2 E H 2 U2 z λa E=>pr 1 E z λa E=>ss 0 E H z sz2 z λw H=>nx<|ln 0 [.int .i64 b.Kind,.string b.Dir,.string b.Path,.string b.Data,.int .i64 c,.int .i64 b.Owner,.bool b.Turns] E H U97 z mR λa E=>ss 3 E H z mR z λw H=>nt<|wR<|oB 3 [.int .i64 b.Kind,.string b.Dir,.string b.Path,.string b.Data,.int .i64 c,.int .i64 b.Owner,.bool b.Turns] E H U97 z mR<|have H:=H.drs [0,2];have H:=H.frs [1,1,2] z;?_;cases m;exact ⟨z,H.reads Y0⟩

def L9(c:BY):Option BY:=
  (tZ c).bind λb=>if b.2=true then (some (b.1)) else (some ((ByteArray.mk #[47])))
theorem Kr{b:BY}(H:Sep w (Fo) rs){r:BY}(m:L9 b=some r) :
    Cf 201 [.string b] w λv w'=>.string r=v/\Sep w' (Fo) (rs):=by
 unfold L9 at m;refine ent func201 z ntmps201 z z λa E=>sq<|pn 1 E z λa E=>wS<|sp 1 E z λa E=>bd m λd c m=>xk2 E z (cf_ 180) (R9 H c) λw H a E=>pr 5 E z λa E=>nx<|pn 1 E z λa E=>wif E m z (λm=>?_) λm=>?_
 ·refine sq<|pn 2 E z λa E=>wR<|aH<|o1 E z<|?_;cases m;exact ⟨z,H.reads Y0⟩
 ·refine wK<|aA<|sq<|pn 1 E z λa E=>wR<|o1 E z<|?_;cases m;exact ⟨z,H.reads Y0⟩

def rL(b:Hp):Option Hp:=
  some (b)
def Ks(x1:eY):Option Hp:=
  (Bi x1).bind λx=>if (!x)=true then (some ([])) else ((L9 x1.Path).bind λc=>if (x1.Kind == 1)=true then ((A3 2 c x1.Path).bind λd=>(L9 c).bind λe=>(vO ([(⟨1,e,c,(ByteArray.mk #[]),0,0,false⟩:bE),(⟨d.Kind,d.Dir,d.Path,x1.Data,d.Version,x1.Owner,x1.Turns⟩:bE)]:List bE) []).bind λf=>rL f) else (if (x1.Kind == 2)=true then ((R5 3 c x1.Path x1.Version).bind λg=>(R4 4 x1.Path x1.Owner).bind λi=>(vO ([g,i]:List bE) []).bind λj=>rL j) else (if (x1.Kind == 3)=true then ((R5 5 c x1.Path x1.Version).bind λb=>(vO ([(⟨b.Kind,b.Dir,b.Path,x1.Data,b.Version,b.Owner,b.Turns⟩:bE)]:List bE) []).bind λk=>rL k) else (if (x1.Kind == 4)=true then ((R5 6 c x1.Path x1.Version).bind λl=>(vO ([l]:List bE) []).bind λm=>rL m) else (if (x1.Kind == 5)=true then ((A3 7 c x1.Path).bind λn=>(vO ([n]:List bE) []).bind λo=>rL o) else (if (x1.Kind == 6)=true then ((A3 8 c x1.Path).bind λp=>(R4 9 x1.Path x1.Owner).bind λq=>(vO ([p,q]:List bE) []).bind λs=>rL s) else (if (x1.Kind == 7)=true then ((A3 8 c x1.Path).bind λt=>(R4 10 x1.Path x1.Owner).bind λu=>(vO ([t,u]:List bE) []).bind λv=>rL v) else (rL []))))))))
theorem FC{x1:eY}(H:Sep w (Fo) rs){r:Hp}(m:Ks x1=some r) :
    Cf 141 [.agg (uY x1).toArray] w λv w'=>∃ U,U=v/\Sep w' (Row 97 cP U r::Fo) (rs):=by
 unfold Ks at m;refine ent func141 z ntmps141 z z λa E=>sq<|bx E H z λd2 w a H E=>pn 1 E z λa E=>wS<|sq<|ln 0 (uY x1) E H Xg z Em λa E=>bd m λd3 V m=>xk2 E z (cf_ 222) (Oa H V) λw H a E=>pn 1 E z λa E=>wif E m z (λm=>?_) λm=>?_
 ·refine sq<|pn 1 E z λa E=>wR<|aH<|o1 E z<|have H:=H.nilRow 97 cP;have H:=H.drop 1;?_;cases m;exact ⟨_,z,H.reads Y0⟩
 ·refine wK<|aA<|sq<|al1 E H z z z z TA z λW w a H E=>nx<|sv2 E z (nR E z z z) λa E=>pr 1 E z λa E=>xp 1 E z λa E=>lb2 E H 1 U9 z λa E=>bd m λs X m=>xk2 E z (cf_ 201) (Kr H X) λw H a E=>al1 E H z z z z zr9 z λd4 w a H E=>ss 0 E H z sz9 z λw H=>nx<|sv2 E z (nR E z z z) λa E=>al1 E H z z z z TB z λd5 w a H E=>ss 0 E H z TC z λw H=>nx<|sv2 E z (nR E z z z) λa E=>pr 1 E z λa E=>nx<|sv2 E z (nR E z z z) λa E=>pn 1 E z λa E=>aL (λa w=>∃ t u,Jn 97 a w [(3,pt W 0)] (Blk W 192 [t]::Row 97 cP t u::Fo) rs (rL u=some r)) ?_ ?_
  ·refine sp 1 E z λa E=>lb2 E H 3 U3 z λa E=>nt<|wB<|sq<|pn 2 E z λa E=>wif E m z (λm=>?_) λm=>?_
   ·refine sq<|lb2 E H 0 Xh z λa E=>have H:=H.frs [2,1,3,3] z;bd m λc y m=>bI E (wn z) z z (bO E z z z ((cf_ 224) _)) (R3 H y)<|?_;rintro _ w ⟨rfl,H⟩ a E;refine al2 E H z Pd λZ w a H E=>ss 0 E H z mR z λw H=>nt<|wS<|dz [0,0,0,0,0,0,0,1,0,1,2,2] [2] H λw W0 hI H=>fn 1 E z λa E=>fb2 E m0 U9 z λa E=>fn 1 E z λa E=>fb2 E m0 U2 z λa E=>fn 1 E z λa E=>fb2 E m0 U4 z λa E=>fn 1 E z λa E=>bW z<|ss 0 E H z sz9 z λw H=>nt<|⟨sx H [2] z,fn 1 E z λa E=>bW z<|ss 0 E H z sz2 z λw H=>nt<|⟨sx H [2] z,bK z<|pn 1 E z λa E=>bK z<|ss 0 E H z sz4 z λw H=>nt<|bG<|?_⟩⟩
    clear hI;refine aA<|dw [(0,0),(1,0),(3,0),(5,0),(2,1),(4,0),(6,1),(7,1)] [0,1] [] H (by kernel_rfl) (λ_ _ _ h=>False.elim h.2) λw W0 hI H=>fn 1 E z λa E=>fb2 E mm1 U9 z λa E=>fb2 E mm1 U9 z λa E=>fbn E [.int .i64 c.Kind,.string c.Dir,.string c.Path,.string x1.Data,.int .i64 c.Version,.int .i64 x1.Owner,.bool x1.Turns] z (wn z) z z z z m0 z U97 z mR λa E=>bW z<|bd m λq A m=>xk2 E z (cf_ 201) (Kr H A) λw H a E=>nt<|⟨sx H [0,1] z,fv E z (λw hW=>(cN E z (E.evs z) (v:=.agg #[.int .i64 1,.string q,.string s,.string (ByteArray.mk #[]),.int .i64 0,.int .i64 0,.bool false]) (by kernel_rfl))) λa E=>bW z<|kH (e:=97) (d:=cP) (cs:=[.int .i64 1,.string q,.string s,.string (ByteArray.mk #[]),.int .i64 0,.int .i64 0,.bool false,.int .i64 c.Kind,.string c.Dir,.string c.Path,.string x1.Data,.int .i64 c.Version,.int .i64 x1.Owner,.bool x1.Turns]) (xs:=[(⟨1,q,s,(ByteArray.mk #[]),0,0,false⟩:bE),(⟨c.Kind,c.Dir,c.Path,x1.Data,c.Version,x1.Owner,x1.Turns⟩:bE)]) E H (wn z) z z z (E.evs z) (by kernel_rfl) z z (λok hr=>(Rows.append (Rows.single (d:=cP) (cs:=[.int .i64 1,.string q,.string s,.string (ByteArray.mk #[]),.int .i64 0,.int .i64 0,.bool false]) (x:=(⟨1,q,s,(ByteArray.mk #[]),0,0,false⟩:bE)) kF) (Rows.single (d:=cP) (cs:=[.int .i64 c.Kind,.string c.Dir,.string c.Path,.string x1.Data,.int .i64 c.Version,.int .i64 x1.Owner,.bool x1.Turns]) (x:=(⟨c.Kind,c.Dir,c.Path,x1.Data,c.Version,x1.Owner,x1.Turns⟩:bE)) kF))) λb0 w a H E=>nt<|⟨sx H [1,2] z,bW z<|have H:=H.thaw (i:=0) z;have H:=H.nilRow 97 cP;have H:=H.frs [4,4,4,4,4,5] z;bd m λb1 B m=>bI E (wn z) z z (bO E z z z ((cf_ 223) _)) (A2 H m0 B)<|?_⟩⟩
    rintro _ w ⟨b2,rfl,H⟩ a E;refine nt<|⟨sx H [2,3] z,bG<|?_⟩
    clear hI;exact bM<|aA<|have H:=H.drs [2,2,2,2];X3 ⟨E.to z,H,(Y1 Y0),m⟩
   refine sq<|pn 2 E z λa E=>wif E m z (λm=>?_) λm=>?_
   ·refine wG<|pr 2 E z λa E=>have H:=H.frs [2,3,3,3] z;bd m λf C m=>bI E (wn z) z z (bO E z z z ((cf_ 226) _)) (Fl H C)<|?_;rintro _ w ⟨rfl,H⟩ a E;refine pr 1 E z λa E=>have H:=H.frs [3,2,2,3] z;bd m λg D m=>bI E (wn z) z z (bO E z z z ((cf_ 225) _)) (Fk H D)<|?_;rintro _ w ⟨rfl,H⟩ a E;refine kH (e:=97) (d:=cP) (cs:=[.int .i64 f.Kind,.string f.Dir,.string f.Path,.string f.Data,.int .i64 f.Version,.int .i64 f.Owner,.bool f.Turns,.int .i64 g.Kind,.string g.Dir,.string g.Path,.string g.Data,.int .i64 g.Version,.int .i64 g.Owner,.bool g.Turns]) (xs:=[f,g]) E H (wn z) z z z (E.evs z) (by kernel_rfl) z z (λok hr=>(Rows.append (Rows.single (d:=cP) (cs:=[.int .i64 f.Kind,.string f.Dir,.string f.Path,.string f.Data,.int .i64 f.Version,.int .i64 f.Owner,.bool f.Turns]) (x:=f) kF) (Rows.single (d:=cP) (cs:=[.int .i64 g.Kind,.string g.Dir,.string g.Path,.string g.Data,.int .i64 g.Version,.int .i64 g.Owner,.bool g.Turns]) (x:=g) kF))) λb3 w a H E=>have H:=H.thaw (i:=0) z;have H:=H.nilRow 97 cP;have H:=H.frs [3,3,3,3,4] z;bd m λb4 F m=>bI E (wn z) z z (bO E z z z ((cf_ 223) _)) (A2 H m0 F)<|?_;rintro _ w ⟨b5,rfl,H⟩ a E;exact wN<|bM<|aA<|have H:=H.drs [2,2,2];X3 ⟨E.to z,H,(Y1 Y0),m⟩
   refine sq<|pn 2 E z λa E=>wif E m z (λm=>?_) λm=>?_
   ·refine sp 1 E z λa E=>have H:=H.frs [2,3,3,3] z;bd m λb G m=>bI E (wn z) z z (bO E z z z ((cf_ 226) _)) (Fl H G)<|?_;rintro _ w ⟨rfl,H⟩ a E;refine al2 E H z Pd λb6 w a H E=>ss 0 E H z mR z λw H=>xp 1 E z λa E=>lb2 E H 3 U9 z λa E=>pr 1 E z λa E=>ss 0 E H z sz9 z λw H=>nt<|wG<|pr 1 E z λa E=>ln 0 [.int .i64 b.Kind,.string b.Dir,.string b.Path,.string x1.Data,.int .i64 b.Version,.int .i64 b.Owner,.bool b.Turns] E H U97 z mR λa E=>kH (e:=97) (d:=cP) (cs:=[.int .i64 b.Kind,.string b.Dir,.string b.Path,.string x1.Data,.int .i64 b.Version,.int .i64 b.Owner,.bool b.Turns]) (xs:=[(⟨b.Kind,b.Dir,b.Path,x1.Data,b.Version,b.Owner,b.Turns⟩:bE)]) E H (wn z) z z z (E.evs z) (by kernel_rfl) z z (λok hr=>(Rows.single (d:=cP) (cs:=[.int .i64 b.Kind,.string b.Dir,.string b.Path,.string x1.Data,.int .i64 b.Version,.int .i64 b.Owner,.bool b.Turns]) (x:=(⟨b.Kind,b.Dir,b.Path,x1.Data,b.Version,b.Owner,b.Turns⟩:bE)) kF)) λb7 w a H E=>have H:=H.thaw (i:=0) z;have H:=H.nilRow 97 cP;have H:=H.frs [4,4,4,4,4,5] z;bd m λb8 I m=>bI E (wn z) z z (bO E z z z ((cf_ 223) _)) (A2 H m0 I)<|?_;rintro _ w ⟨b9,rfl,H⟩ a E;exact wN<|bM<|aA<|have H:=H.drs [2,2,2,2];X3 ⟨E.to z,H,(Y1 Y0),m⟩
   refine sq<|pn 2 E z λa E=>wif E m z (λm=>?_) λm=>?_
   ·refine wG<|pr 2 E z λa E=>have H:=H.frs [2,3,3,3] z;bd m λj J m=>bI E (wn z) z z (bO E z z z ((cf_ 226) _)) (Fl H J)<|?_;rintro _ w ⟨rfl,H⟩ a E;refine kH (e:=97) (d:=cP) (cs:=[.int .i64 j.Kind,.string j.Dir,.string j.Path,.string j.Data,.int .i64 j.Version,.int .i64 j.Owner,.bool j.Turns]) (xs:=[j]) E H (wn z) z z z (E.evs z) (by kernel_rfl) z z (λok hr=>(Rows.single (d:=cP) (cs:=[.int .i64 j.Kind,.string j.Dir,.string j.Path,.string j.Data,.int .i64 j.Version,.int .i64 j.Owner,.bool j.Turns]) (x:=j) kF)) λc0 w a H E=>have H:=H.thaw (i:=0) z;have H:=H.nilRow 97 cP;have H:=H.frs [3,3,3,3,4] z;bd m λc1 K m=>bI E (wn z) z z (bO E z z z ((cf_ 223) _)) (A2 H m0 K)<|?_;rintro _ w ⟨c2,rfl,H⟩ a E;exact wN<|bM<|aA<|have H:=H.drs [2,2,2];X3 ⟨E.to z,H,(Y1 Y0),m⟩
   refine sq<|pn 2 E z λa E=>wif E m z (λm=>?_) λm=>?_
   ·refine wG<|pr 1 E z λa E=>lb2 E H 0 Xh z λa E=>have H:=H.frs [2,1,3,3] z;bd m λk L m=>bI E (wn z) z z (bO E z z z ((cf_ 224) _)) (R3 H L)<|?_;rintro _ w ⟨rfl,H⟩ a E;refine kH (e:=97) (d:=cP) (cs:=[.int .i64 k.Kind,.string k.Dir,.string k.Path,.string k.Data,.int .i64 k.Version,.int .i64 k.Owner,.bool k.Turns]) (xs:=[k]) E H (wn z) z z z (E.evs z) (by kernel_rfl) z z (λok hr=>(Rows.single (d:=cP) (cs:=[.int .i64 k.Kind,.string k.Dir,.string k.Path,.string k.Data,.int .i64 k.Version,.int .i64 k.Owner,.bool k.Turns]) (x:=k) kF)) λc3 w a H E=>have H:=H.thaw (i:=0) z;have H:=H.nilRow 97 cP;have H:=H.frs [3,3,3,3,4] z;bd m λc4 M m=>bI E (wn z) z z (bO E z z z ((cf_ 223) _)) (A2 H m0 M)<|?_;rintro _ w ⟨c5,rfl,H⟩ a E;exact wN<|bM<|aA<|have H:=H.drs [2,2,2];X3 ⟨E.to z,H,(Y1 Y0),m⟩
   refine sq<|pn 2 E z λa E=>wif E m z (λm=>?_) λm=>?_
   ·refine wG<|pr 1 E z λa E=>lb2 E H 0 Xh z λa E=>have H:=H.frs [2,1,3,3] z;bd m λl N m=>bI E (wn z) z z (bO E z z z ((cf_ 224) _)) (R3 H N)<|?_;rintro _ w ⟨rfl,H⟩ a E;refine pr 1 E z λa E=>have H:=H.frs [3,3,2,3] z;bd m λn O m=>bI E (wn z) z z (bO E z z z ((cf_ 225) _)) (Fk H O)<|?_;rintro _ w ⟨rfl,H⟩ a E;refine kH (e:=97) (d:=cP) (cs:=[.int .i64 l.Kind,.string l.Dir,.string l.Path,.string l.Data,.int .i64 l.Version,.int .i64 l.Owner,.bool l.Turns,.int .i64 n.Kind,.string n.Dir,.string n.Path,.string n.Data,.int .i64 n.Version,.int .i64 n.Owner,.bool n.Turns]) (xs:=[l,n]) E H (wn z) z z z (E.evs z) (by kernel_rfl) z z (λok hr=>(Rows.append (Rows.single (d:=cP) (cs:=[.int .i64 l.Kind,.string l.Dir,.string l.Path,.string l.Data,.int .i64 l.Version,.int .i64 l.Owner,.bool l.Turns]) (x:=l) kF) (Rows.single (d:=cP) (cs:=[.int .i64 n.Kind,.string n.Dir,.string n.Path,.string n.Data,.int .i64 n.Version,.int .i64 n.Owner,.bool n.Turns]) (x:=n) kF))) λc6 w a H E=>have H:=H.thaw (i:=0) z;have H:=H.nilRow 97 cP;have H:=H.frs [3,3,3,3,4] z;bd m λc7 P m=>bI E (wn z) z z (bO E z z z ((cf_ 223) _)) (A2 H m0 P)<|?_;rintro _ w ⟨c8,rfl,H⟩ a E;exact wN<|bM<|aA<|have H:=H.drs [2,2,2];X3 ⟨E.to z,H,(Y1 Y0),m⟩
   refine sq<|pn 2 E z λa E=>wif E m z (λm=>?_) λm=>?_
   ·refine wG<|pr 1 E z λa E=>lb2 E H 0 Xh z λa E=>have H:=H.frs [2,1,3,3] z;bd m λo Q m=>bI E (wn z) z z (bO E z z z ((cf_ 224) _)) (R3 H Q)<|?_;rintro _ w ⟨rfl,H⟩ a E;refine pr 1 E z λa E=>have H:=H.frs [3,3,2,3] z;bd m λp R m=>bI E (wn z) z z (bO E z z z ((cf_ 225) _)) (Fk H R)<|?_;rintro _ w ⟨rfl,H⟩ a E;refine kH (e:=97) (d:=cP) (cs:=[.int .i64 o.Kind,.string o.Dir,.string o.Path,.string o.Data,.int .i64 o.Version,.int .i64 o.Owner,.bool o.Turns,.int .i64 p.Kind,.string p.Dir,.string p.Path,.string p.Data,.int .i64 p.Version,.int .i64 p.Owner,.bool p.Turns]) (xs:=[o,p]) E H (wn z) z z z (E.evs z) (by kernel_rfl) z z (λok hr=>(Rows.append (Rows.single (d:=cP) (cs:=[.int .i64 o.Kind,.string o.Dir,.string o.Path,.string o.Data,.int .i64 o.Version,.int .i64 o.Owner,.bool o.Turns]) (x:=o) kF) (Rows.single (d:=cP) (cs:=[.int .i64 p.Kind,.string p.Dir,.string p.Path,.string p.Data,.int .i64 p.Version,.int .i64 p.Owner,.bool p.Turns]) (x:=p) kF))) λc9 w a H E=>have H:=H.thaw (i:=0) z;have H:=H.nilRow 97 cP;have H:=H.frs [3,3,3,3,4] z;bd m λd0 S m=>bI E (wn z) z z (bO E z z z ((cf_ 223) _)) (A2 H m0 S)<|?_;rintro _ w ⟨d1,rfl,H⟩ a E;exact wN<|bM<|aA<|have H:=H.drs [2,2,2];X3 ⟨E.to z,H,(Y1 Y0),m⟩
   exact wK<|bM<|aA<|have H:=H.nilRow 97 cP;have H:=H.drs [1,1,2];have H:=H.frs [0,1] z;X3 ⟨E.to z,H,Y0,m⟩
  ·clear E H m;rintro a w ⟨t,u,Y,E,H,T,m⟩;unfold rL at m;refine sq<|lb2 E H 0 Xi z λa E=>pn 1 E z λa E=>wR<|o1 E z<|have H:=H.drop 0;?_;cases m;exact ⟨_,z,H.reads T⟩

def S6(rec_1:F7->Int->Option F7)(b:Hp)(d:Int):Nat->F7->Int->Option F7
  | 0,_,_=>none
  | f+1,c,x20=>
    if (decide (x20 < (b.length:Int)))=true then ((idx b x20).bind λe=>(ck (c.length+([(⟨d,e⟩:cJ)]:List cJ).length <= LIM)).bind λg=>S6 rec_1 b d f (c ++ ([(⟨d,e⟩:cJ)]:List cJ)) (IntKind.i64.wrap (x20+1))) else (rec_1 c (IntKind.i64.wrap (d+1)))
def I1(c:List eY):Nat->F7->Int->Option F7
  | 0,_,_=>none
  | g+1,e,d=>
    if (decide (d < (c.length:Int)))=true then ((idx c d).bind λf=>(Ks f).bind λb=>S6 (I1 c g) b d (((b.length:Int) - 0:Int).toNat+1) e 0) else (some (e))
def Hv(b:List eY):Option F7:=
  (Fj b).bind λc=>if (!c)=true then (some ([])) else (I1 b (((b.length:Int) - 0:Int).toNat+1) [] 0)
theorem CS{u:VL}{f:List eY}(H:Sep w (Fo) rs)(o:rSl T9 u f ∈ rs){r:F7}(m:Hv f=some r) :
    Cf 77 [u] w λv w'=>∃ G,G=v/\Sep w' (Row 99 bN G r::Fo) (rs):=by
 unfold Hv at m;refine ent func77 z ntmps77 z z λa E=>sq<|pn 1 E z λa E=>wS<|sp 1 E z λa E=>bd m λS I m=>xk2 E z (cf_ 140) (Zv H o I) λw H a E=>pn 1 E z λa E=>wif E m z (λm=>?_) λm=>?_
 ·refine sq<|pn 1 E z λa E=>wR<|aH<|o1 E z<|have H:=H.nilRow 99 bN;?_;cases m;exact ⟨_,z,H.reads Y0⟩
 ·refine wK<|aA<|sq<|pn 1 E z λa E=>wS<|sp 1 E z λa E=>lS E H o Te z λa E=>pn 1 E z λa E=>wB<|bF (λg a w=>∃ A B c,Jn 34 a w [(3,A),(11,u),(12,.int .i64 (f.length:Int)),(13,.int .i64 c)] (Row 99 bN A B::Fo) rs (I1 f g B c=some r)) (((f.length:Int) - 0:Int).toNat+1) ?_ ?_
  ·exact have H:=H.nilRow 99 bN;X4 ⟨E.to z,H,Y0,m⟩
  ·clear E H m;rintro g a w ⟨A,B,c,L,E,H,j,m⟩;cases g with
   | zero=>exact (bD m z).elim
   | succ g=>
    unfold I1 at m;refine sq<|pn 1 E z λa E=>wS<|wif E m z (λm=>?_) λm=>?_
    ·refine wK<|aA<|wS<|wB<|sp 1 E z λa E=>bd m λJ C m=>dC E H (wn z) z z z z z (j _ o) Te Em C λq13 a H E=>ldf Iv E H z z z z z m0 Xg z Em λa E=>al2 E H z SZ λM w a H E=>pr 1 E z λa E=>ss 0 E H z Em z λw H=>nx<|ln 0 (uY J) E H Xg z Em λa E=>bd m λl D m=>xc2 E z (cf_ 141) (FC H D)<|?_;rintro _ w ⟨y,rfl,H⟩ a E;refine sv2 E z (lQ (i:=0) E H z z z Xi) λa E=>pn 1 E z λa E=>wB<|bF (λn a w=>∃ p q x20,Jn 34 a w [(3,p),(4,.int .i64 c),(11,u),(12,.int .i64 (f.length:Int)),(13,.int .i64 c),(19,y),(20,.int .i64 (l.length:Int)),(21,.int .i64 x20)] (Row 99 bN p q::Row 97 cP y l::Fo) rs (S6 (I1 f g) l c n q x20=some r)) (((l.length:Int) - 0:Int).toNat+1) ?_ ?_
     ·exact have H:=H.drop 1;have H:=H.frs [0,1] z;X4 ⟨E.to z,H,(Y1 j),m⟩
     clear E H m;rintro n a w ⟨p,q,x20,K,E,H,s,m⟩;cases n with
     | zero=>exact (bD m z).elim
     | succ n=>
      unfold S6 at m;refine sq<|pn 1 E z λa E=>wS<|wif E m z (λm=>?_) λm=>?_
      ·refine wK<|aA<|wS<|wB<|sq<|bd m λb k m=>?_;obtain ⟨N,O,t⟩:=H.rowformNE (i:=1) z k;exact sv2 E z (dP (d:=cP) E t z z z z Xi mR k) λa E=>sv2 E z (kJ (i:=1) E H Ek t z z z k (us:=[.int .i64 b.Kind,.string b.Dir,.string b.Path,.string b.Data,.int .i64 b.Version,.int .i64 b.Owner,.bool b.Turns]) z U97 z mR) λa E=>al2 E H z Pd λP w a H E=>ss 0 E H z mR z λw H=>nt<|wG<|pr 2 E z λa E=>ln 0 (cB b) E H U97 z mR λa E=>sv2 E z (cN E z (E.evs z) (v:=.agg #[.int .i64 c,.int .i64 b.Kind,.string b.Dir,.string b.Path,.string b.Data,.int .i64 b.Version,.int .i64 b.Owner,.bool b.Turns]) (by kernel_rfl)) λa E=>sD (e:=99) (d:=bN) (cs:=[.int .i64 c,.int .i64 b.Kind,.string b.Dir,.string b.Path,.string b.Data,.int .i64 b.Version,.int .i64 b.Owner,.bool b.Turns]) (xs:=[(⟨c,b⟩:cJ)]) E H (wn z) z z z (E.evs z) (by kernel_rfl) z (λok hr=>(Rows.single (d:=bN) (cs:=[.int .i64 c,.int .i64 b.Kind,.string b.Dir,.string b.Path,.string b.Data,.int .i64 b.Version,.int .i64 b.Owner,.bool b.Turns]) (x:=(⟨c,b⟩:cJ)) Ge)) λQ w a H E=>bk m λF m=>eF (i:=1) E H (wn z) z z z z z z (lH m0) U26 TF z F z λR w a H E=>pr 1 E z λa E=>wN<|bM<|aA<|wG<|pr 2 E z λa E=>nt<|have H:=H.drop 0;⟨n,nL n,X4 ⟨E.to z,H,(Y1 s),m⟩⟩
      exact wX<|aT<|aT<|cL<|bM<|aA<|wG<|pn 2 E z λa E=>have H:=H.drop 1;⟨g,nL g,X4 ⟨E.to z,H,s,m⟩⟩
    ·refine wX<|aT<|aT<|cL<|aA<|sq<|pn 2 E z λa E=>wR<|o1 E z<|?_;cases m;exact ⟨_,z,H.reads j⟩

def xL(x1:Int)(b:Int)(x3:Int):Option Bool:=
  if (decide (x1 ≥ b))=true then (some (decide (x1 <= x3))) else (some (false))
theorem Ce{x1 c x3:Int}(H:Sep w (Fo) rs){r:Bool}(m:xL x1 c x3=some r) :
    Cf 84 [.int .i64 x1,.int .i64 c,.int .i64 x3] w λv w'=>.bool r=v/\Sep w' (Fo) (rs):=by
 unfold xL at m;refine ent func84 z ntmps84 z z λa E=>sp 1 E z λa E=>xp 4 E z λa E=>cs m (λb m=>?_) λb m=>?_
 ·refine pk 5 E (kc 10 z b) z λa E=>nt<|wR<|o1 E z<|?_;cases m;exact ⟨z,H.reads Y0⟩
 ·refine pk 5 E (kc 10 z b) z λa E=>nt<|wR<|o1 E z<|?_;cases m;exact ⟨z,H.reads Y0⟩

def zI(d:BY)(e:BY)(x3:Int)(f:Int)(g:Int):Option Bool:=
  (fW d).bind λi=>if i=true then (if (decide ((e.size:Int) <= 256))=true then ((xL x3 f 281474976710656).bind λb=>if b=true then ((xL g 0 1099511627776).bind λc=>some (c)) else (some (false))) else (some (false))) else (some (false))
theorem Iy{g i:BY}{x3 j k:Int}(H:Sep w (Fo) rs){r:Bool}(m:zI g i x3 j k=some r) :
    Cf 80 [.string g,.string i,.int .i64 x3,.int .i64 j,.int .i64 k] w λv w'=>.bool r=v/\Sep w' (Fo) (rs):=by
 unfold zI at m;refine ent func80 z ntmps80 z z λa E=>sp 1 E z λa E=>xp 1 E z λa E=>bd m λp l m=>xk2 E z (cf_ 83) (kQ H l) λw H a E=>pr 1 E z λa E=>cs m (λd m=>?_) λd m=>?_
 ·refine pk 5 E (kc 13 z d) z λa E=>cs m (λc m=>?_) λc m=>?_
  ·refine pk 2 E (kc 18 z c) z λa E=>bd m λn e m=>gc 18 E c z (cf_ 84) (Ce H e)<|?_;rintro _ w ⟨rfl,H⟩ a E;refine pk 2 E (kc 18 z c) z λa E=>cs m (λb m=>?_) λb m=>?_
   ·refine pk 1 E (kc 23 z b) z λa E=>bd m λo f m=>gc 23 E b z (cf_ 84) (Ce H f)<|?_;rintro _ w ⟨rfl,H⟩ a E;refine pk 2 E (kc 23 z b) z λa E=>nt<|wR<|o1 E z<|?_;cases m;exact ⟨z,H.reads Y0⟩
   refine pk 4 E (kc 23 z b) z λa E=>nt<|wR<|o1 E z<|?_;cases m;exact ⟨z,H.reads Y0⟩
  refine pk 9 E (kc 18 z c) z λa E=>nt<|wR<|o1 E z<|?_;cases m;exact ⟨z,H.reads Y0⟩
 ·refine pk 14 E (kc 13 z d) z λa E=>nt<|wR<|o1 E z<|?_;cases m;exact ⟨z,H.reads Y0⟩

def zJ(x1:bE)(b:BY):Option Bool:=
  (zI x1.Path x1.Data x1.Version (-1) x1.Owner).bind λc=>if c=true then (if (sEq x1.Dir b)=true then (if (decide (x1.Kind ≥ 1))=true then (if (decide (x1.Kind <= 10))=true then (if (x1.Kind != 2)=true then (some (true)) else (some (!(sEq x1.Path (ByteArray.mk #[47]))))) else (some (false))) else (some (false))) else (some (false))) else (some (false))
def zK(x1:bE)(c:BY)(b:Bool):Option Bool:=
  if b=true then (zJ x1 x1.Path) else (zJ x1 c)
def O9(x1:bE):Option Bool:=
  (L9 x1.Path).bind λb=>if (x1.Kind == 4)=true then (zK x1 b true) else (if (x1.Kind == 9)=true then (zK x1 b true) else (zK x1 b (x1.Kind == 10)))
theorem Rn{x1:bE}(H:Sep w (Fo) rs){r:Bool}(m:O9 x1=some r) :
    Cf 121 [.agg (cB x1).toArray] w λv w'=>.bool r=v/\Sep w' (Fo) (rs):=by
 unfold O9 at m;refine ent func121 z ntmps121 z z λa E=>sq<|bx E H z λn w a H E=>pr 1 E z λa E=>xp 1 E z λa E=>lb2 E H 0 U9 z λa E=>bd m λp q m=>xk2 E z (cf_ 201) (Kr H q) λw H a E=>pn 1 E z λa E=>aL (λa w=>∃ o,Jn 57 a w [(1,pt n 0),(3,.string o)] (Blk n 97 (cB x1)::Fo) rs (zJ x1 o=some r)) ?_ ?_
 ·refine aL (λa w=>∃ k,Jn 57 a w [(1,pt n 0),(3,.string p),(19,.bool k)] (Blk n 97 (cB x1)::Fo) rs (zK x1 p k=some r)) ?_ ?_
  ·refine wG<|pr 1 E z λa E=>lb2 E H 0 U3 z λa E=>pr 2 E z λa E=>cs m (λc m=>?_) λc m=>?_
   ·exact pk 9 E (kc 10 z c) z λa E=>nt<|⟨_,_,E.to z,H,Y0,m⟩
   refine pk 1 E (kc 10 z c) z λa E=>gl 10 E H 0 c U3 z λa E=>pk 3 E (kc 10 z c) z λa E=>cs m (λd m=>?_) λd m=>?_
   ·exact pk 4 E (kc 15 z d) z λa E=>nt<|⟨_,_,E.to z,H,Y0,m⟩
   exact pk 1 E (kc 15 z d) z λa E=>gl 15 E H 0 d U3 z λa E=>pk 2 E (kc 15 z d) z λa E=>nt<|⟨_,_,E.to z,H,Y0,m⟩
  clear E H m;rintro a w ⟨k,t,E,H,l,m⟩;unfold zK at m;refine wif E m z (λm=>?_) λm=>?_
  ·exact wG<|pr 1 E z λa E=>lb2 E H 0 U9 z λa E=>pn 1 E z λa E=>⟨_,_,E.to z,H,l,m⟩
  exact wK<|aA<|⟨_,_,E.to z,H,l,m⟩
 ·clear E H m;rintro a w ⟨o,u,E,H,j,m⟩;unfold zJ at m;refine sp 1 E z λa E=>lb2 E H 0 U9 z λa E=>pr 1 E z λa E=>lb2 E H 0 U9 z λa E=>pr 1 E z λa E=>lb2 E H 0 U2 z λa E=>pr 1 E z λa E=>lb2 E H 0 U2 z λa E=>bd m λx s m=>xk2 E z (cf_ 80) (Iy H s) λw H a E=>pr 1 E z λa E=>cs m (λe m=>?_) λe m=>?_
  ·refine pk 1 E (kc 31 z e) z λa E=>gl 31 E H 0 e U9 z λa E=>pk 4 E (kc 31 z e) z λa E=>cs m (λf m=>?_) λf m=>?_
   ·refine pk 1 E (kc 37 z f) z λa E=>gl 37 E H 0 f U3 z λa E=>pk 3 E (kc 37 z f) z λa E=>cs m (λg m=>?_) λg m=>?_
    ·refine pk 1 E (kc 42 z g) z λa E=>gl 42 E H 0 g U3 z λa E=>pk 3 E (kc 42 z g) z λa E=>cs m (λb m=>?_) λb m=>?_
     ·refine pk 1 E (kc 47 z b) z λa E=>gl 47 E H 0 b U3 z λa E=>pk 2 E (kc 47 z b) z λa E=>cs m (λi m=>?_) λi m=>?_
      ·refine pk 6 E (kc' (kc 51 z i) 47 z b) z λa E=>nt<|wR<|o1 E z<|have H:=H.drop 0;?_;cases m;exact ⟨z,H.reads j⟩
      refine pk 1 E (kc 51 z i) z λa E=>gl 51 E H 0 i U9 z λa E=>pk 4 E (kc' (kc 51 z i) 47 z b) z λa E=>nt<|wR<|o1 E z<|have H:=H.drop 0;?_;cases m;exact ⟨z,H.reads j⟩
     refine pk 10 E (kc 47 z b) z λa E=>nt<|wR<|o1 E z<|have H:=H.drop 0;?_;cases m;exact ⟨z,H.reads j⟩
    refine pk 15 E (kc 42 z g) z λa E=>nt<|wR<|o1 E z<|have H:=H.drop 0;?_;cases m;exact ⟨z,H.reads j⟩
   refine pk 20 E (kc 37 z f) z λa E=>nt<|wR<|o1 E z<|have H:=H.drop 0;?_;cases m;exact ⟨z,H.reads j⟩
  ·refine pk 26 E (kc 31 z e) z λa E=>nt<|wR<|o1 E z<|have H:=H.drop 0;?_;cases m;exact ⟨z,H.reads j⟩

def C3(x1:aG):Option BY:=
  some (x1.Path)
theorem Gi{x1:aG}(H:Sep w (Fo) rs){r:BY}(m:C3 x1=some r) :
    Cf 86 [.agg (nT x1).toArray] w λv w'=>.string r=v/\Sep w' (Fo) (rs):=by
 unfold C3 at m;refine ent func86 z ntmps86 z z λa E=>sq<|bx E H z λb w a H E=>pr 1 E z λa E=>xp 1 E z λa E=>lb2 E H 0 U9 z λa E=>pn 1 E z λa E=>wR<|o1 E z<|have H:=H.drop 0;?_;cases m;exact ⟨z,H.reads Y0⟩

def nU(rec_1:Int->Option Bool)(b:Int)(c:Bool):Option Bool:=
  if c=true then (some (false)) else (rec_1 (IntKind.i64.wrap (b+1)))
def fO(c:List aG):Nat->Int->Option Bool
  | 0,_=>none
  | d+1,b=>
    if (decide (b < (c.length:Int)))=true then (if (decide (b > 0))=true then ((idx c (IntKind.i64.wrap (b - 1))).bind λe=>(idx c b).bind λf=>(C3 e).bind λg=>(C3 f).bind λi=>nU (fO c d) b (!(sLt g i))) else (nU (fO c d) b false)) else (some (true))
def vP(b:List aG):Option Bool:=
  fO b (((b.length:Int) - 0:Int).toNat+1) 0
theorem Fm{l:VL}{f:List aG}(H:Sep w (Fo) rs)(n:rSl aB l f ∈ rs){r:Bool}(m:vP f=some r) :
    Cf 85 [l,.func (.func 86) #[] #[]] w λv w'=>.bool r=v/\Sep w' (Fo) (rs):=by
 unfold vP at m;refine ent func85 z ntmps85 z z λa E=>sq<|pn 1 E z λa E=>wS<|sp 1 E z λa E=>lS E H n U22 z λa E=>pr 1 E z λa E=>nt<|wB<|bF (λg a w=>∃ j,Jn 30 a w [(0,l),(1,.func (.func 86) #[] #[]),(7,.int .i64 (f.length:Int)),(8,.int .i64 j)] (Fo) rs (fO f g j=some r)) (((f.length:Int) - 0:Int).toNat+1) ?_ ?_
 ·exact ⟨_,_,E.to z,H,Y0,m⟩
 ·clear E H m;rintro g a w ⟨j,C,E,H,i,m⟩;cases g with
  | zero=>exact (bD m z).elim
  | succ g=>
   unfold fO at m;refine sq<|pn 1 E z λa E=>wS<|wif E m z (λm=>?_) λm=>?_
   ·refine wK<|aA<|wS<|wB<|sq<|pn 2 E z λa E=>aL (λa w=>∃ p,Jn 30 a w [(0,l),(1,.func (.func 86) #[] #[]),(7,.int .i64 (f.length:Int)),(8,.int .i64 j),(28,.bool p)] (Fo) rs (nU (fO f g) j p=some r)) ?_ ?_
    ·obtain ⟨D,H⟩:=H.raw (i _ n);refine dw [(0,0),(1,0),(2,0),(3,0),(4,0),(5,0),(6,0),(7,0),(8,0),(10,0),(11,0),(12,0),(13,0),(14,0),(9,1),(15,1),(16,0),(17,0)] [] [0] H (by kernel_rfl) (λ_ _ _ h=>False.elim h.2) λw W0 hI H=>fn 3 E z λa E=>cs m (λb m=>?_) λb m=>?_
     ·refine fk 4 E (kc 13 z b) z λa E=>bd m λc q m=>?_;obtain ⟨q14,F,s,t⟩:=gD (P:=Tryz.prog) (k:=.i64) hI (gC (.head _)) U22 gM q;refine dV E z (ws' (d:=13) E z z z z b) z z (λw hW=>iO E z z z (s w)) λa E=>dV E z (ws' (d:=13) E z z z z b) z z (λw hW=>mW E z z (G9 (cs:=[.string c.Path,.string c.Data,.int .i64 c.Version,.int .i64 c.Turn,.int .i64 c.Owner]) (DR.ir (N8 t)) (λ_ _ _ h=>zR h) w6 z gM w hW)) λa E=>fk 3 E (kc 13 z b) z λa E=>bd m λe u m=>?_;obtain ⟨q20,G,x,y⟩:=gD (P:=Tryz.prog) (k:=.i64) hI (gC (.head _)) U22 gM u;refine dV E z (ws' (d:=13) E z z z z b) z z (λw hW=>iO E z z z (x w)) λa E=>dV E z (ws' (d:=13) E z z z z b) z z (λw hW=>mW E z z (G9 (cs:=[.string e.Path,.string e.Data,.int .i64 e.Version,.int .i64 e.Turn,.int .i64 e.Owner]) (DR.ir (N8 y)) (λ_ _ _ h=>zR h) w6 z gM w hW)) λa E=>bW z<|bd m λI A m=>bI E (ws' (d:=13) E z z z z b) z z (bO E z z z ((cf_ 86) _)) (Gi H A)<|?_;rintro _ w ⟨rfl,H⟩ a E;refine nt<|⟨⟨_,_,H,(bQ),(aD m0 (bT))⟩,bW z<|bd m λJ B m=>bI E (ws' (d:=13) E z z z z b) z z (bO E z z z ((cf_ 86) _)) (Gi H B)<|?_⟩
      rintro _ w ⟨rfl,H⟩ a E;refine nt<|⟨⟨_,_,H,(bQ),(aD m0 (bT))⟩,fk 2 E (kc 13 z b) z λa E=>bG<|?_⟩
      clear hI;exact aA<|⟨_,_,E.to z,H,(Y1 i),m⟩
     refine fk 11 E (kc 13 z b) z λa E=>bW z<|pk 1 E (kc 13 z b) z λa E=>nt<|⟨⟨_,_,H,(bQ),(aD m0 (bT))⟩,bW z<|pk 1 E (kc 13 z b) z λa E=>nt<|⟨⟨_,_,H,(bQ),(aD m0 (bT))⟩,fk 2 E (kc 13 z b) z λa E=>bG<|?_⟩⟩
     clear hI;exact aA<|⟨_,_,E.to z,H,(Y1 i),m⟩
    clear E H m;rintro a w ⟨p,K,E,H,o,m⟩;unfold nU at m;refine wif E m z (λm=>?_) λm=>?_
    ·refine sq<|pn 1 E z λa E=>wR<|bJ<|aH<|aH<|bJ<|aH<|o1 E z<|?_;cases m;exact ⟨z,H.reads o⟩
    exact wK<|bM<|aA<|wG<|pn 2 E z λa E=>⟨g,nL g,_,_,E.to z,H,o,m⟩
   ·refine wX<|aT<|aT<|cL<|aA<|sq<|pn 1 E z λa E=>wR<|o1 E z<|?_;cases m;exact ⟨z,H.reads i⟩

def C4(x1:aM):Option BY:=
  some (x1.Dir)
theorem Gj{x1:aM}(H:Sep w (Fo) rs){r:BY}(m:C4 x1=some r) :
    Cf 88 [.agg #[.string x1.Dir,.int .i64 x1.Next]] w λv w'=>.string r=v/\Sep w' (Fo) (rs):=by
 unfold C4 at m;refine ent func88 z ntmps88 z z λa E=>sq<|bx E H z λb w a H E=>pr 1 E z λa E=>xp 1 E z λa E=>lb2 E H 0 U9 z λa E=>pn 1 E z λa E=>wR<|o1 E z<|have H:=H.drop 0;?_;cases m;exact ⟨z,H.reads Y0⟩

def nV(rec_1:Int->Option Bool)(b:Int)(c:Bool):Option Bool:=
  if c=true then (some (false)) else (rec_1 (IntKind.i64.wrap (b+1)))
def fP(c:List aM):Nat->Int->Option Bool
  | 0,_=>none
  | d+1,b=>
    if (decide (b < (c.length:Int)))=true then (if (decide (b > 0))=true then ((idx c (IntKind.i64.wrap (b - 1))).bind λe=>(idx c b).bind λf=>(C4 e).bind λg=>(C4 f).bind λi=>nV (fP c d) b (!(sLt g i))) else (nV (fP c d) b false)) else (some (true))
def vQ(b:List aM):Option Bool:=
  fP b (((b.length:Int) - 0:Int).toNat+1) 0
theorem Fp{i:VL}{c:List aM}(H:Sep w (Fo) rs)(j:rSl aC i c ∈ rs){r:Bool}(m:vQ c=some r) :
    Cf 87 [i,.func (.func 88) #[] #[]] w λv w'=>.bool r=v/\Sep w' (Fo) (rs):=by
 unfold vQ at m;refine ent func87 z ntmps87 z z λa E=>sq<|pn 1 E z λa E=>wS<|sp 1 E z λa E=>lS E H j U23 z λa E=>pr 1 E z λa E=>nt<|wB<|bF (λe a w=>∃ g,Jn 30 a w [(0,i),(1,.func (.func 88) #[] #[]),(7,.int .i64 (c.length:Int)),(8,.int .i64 g)] (Fo) rs (fP c e g=some r)) (((c.length:Int) - 0:Int).toNat+1) ?_ ?_
 ·exact ⟨_,_,E.to z,H,Y0,m⟩
 ·clear E H m;rintro e a w ⟨g,C,E,H,f,m⟩;cases e with
  | zero=>exact (bD m z).elim
  | succ e=>
   unfold fP at m;refine sq<|pn 1 E z λa E=>wS<|wif E m z (λm=>?_) λm=>?_
   ·refine wK<|aA<|wS<|wB<|sq<|pn 2 E z λa E=>aL (λa w=>∃ p,Jn 30 a w [(0,i),(1,.func (.func 88) #[] #[]),(7,.int .i64 (c.length:Int)),(8,.int .i64 g),(28,.bool p)] (Fo) rs (nV (fP c e) g p=some r)) ?_ ?_
    ·obtain ⟨D,H⟩:=H.raw (f _ j);refine dw [(0,0),(1,0),(2,0),(3,0),(4,0),(5,0),(6,0),(7,0),(8,0),(10,0),(11,0),(12,0),(13,0),(14,0),(9,1),(15,1),(16,0),(17,0)] [] [0] H (by kernel_rfl) (λ_ _ _ h=>False.elim h.2) λw W0 hI H=>fn 3 E z λa E=>cs m (λb m=>?_) λb m=>?_
     ·refine fk 4 E (kc 13 z b) z λa E=>bd m λl q m=>?_;obtain ⟨q14,F,s,t⟩:=gD (P:=Tryz.prog) (k:=.i64) hI (gC (.head _)) U23 rF q;refine dV E z (ws' (d:=13) E z z z z b) z z (λw hW=>iO E z z z (s w)) λa E=>dV E z (ws' (d:=13) E z z z z b) z z (λw hW=>mW E z z (G9 (cs:=[.string l.Dir,.int .i64 l.Next]) (DR.ir (N8 t)) (λ_ _ _ h=>zS h) U89 z rF w hW)) λa E=>fk 3 E (kc 13 z b) z λa E=>bd m λn u m=>?_;obtain ⟨q20,G,x,y⟩:=gD (P:=Tryz.prog) (k:=.i64) hI (gC (.head _)) U23 rF u;refine dV E z (ws' (d:=13) E z z z z b) z z (λw hW=>iO E z z z (x w)) λa E=>dV E z (ws' (d:=13) E z z z z b) z z (λw hW=>mW E z z (G9 (cs:=[.string n.Dir,.int .i64 n.Next]) (DR.ir (N8 y)) (λ_ _ _ h=>zS h) U89 z rF w hW)) λa E=>bW z<|bd m λI A m=>bI E (ws' (d:=13) E z z z z b) z z (bO E z z z ((cf_ 88) _)) (Gj H A)<|?_;rintro _ w ⟨rfl,H⟩ a E;refine nt<|⟨⟨_,_,H,(bQ),(aD m0 (bT))⟩,bW z<|bd m λJ B m=>bI E (ws' (d:=13) E z z z z b) z z (bO E z z z ((cf_ 88) _)) (Gj H B)<|?_⟩
      rintro _ w ⟨rfl,H⟩ a E;refine nt<|⟨⟨_,_,H,(bQ),(aD m0 (bT))⟩,fk 2 E (kc 13 z b) z λa E=>bG<|?_⟩
      clear hI;exact aA<|⟨_,_,E.to z,H,(Y1 f),m⟩
     refine fk 11 E (kc 13 z b) z λa E=>bW z<|pk 1 E (kc 13 z b) z λa E=>nt<|⟨⟨_,_,H,(bQ),(aD m0 (bT))⟩,bW z<|pk 1 E (kc 13 z b) z λa E=>nt<|⟨⟨_,_,H,(bQ),(aD m0 (bT))⟩,fk 2 E (kc 13 z b) z λa E=>bG<|?_⟩⟩
     clear hI;exact aA<|⟨_,_,E.to z,H,(Y1 f),m⟩
    clear E H m;rintro a w ⟨p,K,E,H,o,m⟩;unfold nV at m;refine wif E m z (λm=>?_) λm=>?_
    ·refine sq<|pn 1 E z λa E=>wR<|bJ<|aH<|aH<|bJ<|aH<|o1 E z<|?_;cases m;exact ⟨z,H.reads o⟩
    exact wK<|bM<|aA<|wG<|pn 2 E z λa E=>⟨e,nL e,_,_,E.to z,H,o,m⟩
   ·refine wX<|aT<|aT<|cL<|aA<|sq<|pn 1 E z λa E=>wR<|o1 E z<|?_;cases m;exact ⟨z,H.reads f⟩

def C5(x1:aG):Option Bool:=
  if (x1.Turn != 0)=true then (some (true)) else ((zI x1.Path x1.Data x1.Version 0 x1.Owner).bind λb=>some (!b))
theorem Tk{x1:aG}(H:Sep w (Fo) rs){r:Bool}(m:C5 x1=some r) :
    Cf 79 [.agg (nT x1).toArray] w λv w'=>.bool r=v/\Sep w' (Fo) (rs):=by
 unfold C5 at m;refine ent func79 z ntmps79 z z λa E=>sq<|bx E H z λd w a H E=>pr 1 E z λa E=>xp 1 E z λa E=>lb2 E H 0 U2 z λa E=>pr 2 E z λa E=>cs m (λb m=>?_) λb m=>?_
 ·refine pk 12 E (kc 6 z b) z λa E=>nt<|wR<|o1 E z<|have H:=H.drop 0;?_;cases m;exact ⟨z,H.reads Y0⟩
 ·refine pk 1 E (kc 6 z b) z λa E=>gl 6 E H 0 b U9 z λa E=>pk 1 E (kc 6 z b) z λa E=>gl 6 E H 0 b U9 z λa E=>pk 1 E (kc 6 z b) z λa E=>gl 6 E H 0 b U2 z λa E=>pk 1 E (kc 6 z b) z λa E=>gl 6 E H 0 b U2 z λa E=>bd m λe c m=>gc 6 E b z (cf_ 80) (Iy H c)<|?_;rintro _ w ⟨rfl,H⟩ a E;refine pk 3 E (kc 6 z b) z λa E=>nt<|wR<|o1 E z<|have H:=H.drop 0;?_;cases m;exact ⟨z,H.reads Y0⟩

def dW(c:List aG):Nat->Int->Option Int
  | 0,_=>none
  | e+1,b=>
    if (decide (b < (c.length:Int)))=true then ((idx c b).bind λf=>(C5 f).bind λd=>if d=true then (some (b)) else (dW c e (IntKind.i64.wrap (b+1)))) else (some ((-1)))
def kT(b:List aG):Option Int:=
  dW b (((b.length:Int) - 0:Int).toNat+1) 0
theorem M1{f:VL}{d:List aG}(H:Sep w (Fo) rs)(e:rSl aB f d ∈ rs){r:Int}(m:kT d=some r) :
    Cf 142 [f,.func (.func 79) #[] #[]] w λv w'=>.int .i64 r=v/\Sep w' (Fo) (rs):=by
 unfold kT at m;refine ent func142 z ntmps142 z z λa E=>sq<|pn 1 E z λa E=>wS<|sp 1 E z λa E=>lS E H e U22 z λa E=>pr 1 E z λa E=>nt<|wB<|bF (λc a w=>∃ g,Jn 19 a w [(0,f),(1,.func (.func 79) #[] #[]),(7,.int .i64 (d.length:Int)),(8,.int .i64 g)] (Fo) rs (dW d c g=some r)) (((d.length:Int) - 0:Int).toNat+1) ?_ ?_
 ·exact ⟨_,_,E.to z,H,Y0,m⟩
 ·clear E H m;rintro c a w ⟨g,k,E,H,b,m⟩;cases c with
  | zero=>exact (bD m z).elim
  | succ c=>
   unfold dW at m;refine sq<|pn 1 E z λa E=>wS<|wif E m z (λm=>?_) λm=>?_
   ·refine wK<|aA<|wS<|wB<|sp 2 E z λa E=>xp 3 E z λa E=>bd m λn j m=>dC E H (wn z) z z z z z (b _ e) U22 gM j λq9 a H E=>ldf cM E H z z z z z m0 w6 z gM λa E=>bd m λl i m=>bI E (wn z) z z (bO E z z z ((cf_ 79) _)) (Tk H i)<|?_;rintro _ w ⟨rfl,H⟩ a E;refine nt<|wif E m z (λm=>?_) λm=>?_
    ·refine sq<|pn 2 E z λa E=>wR<|bJ<|aH<|aH<|bJ<|aH<|o1 E z<|?_;cases m;exact ⟨z,H.reads (Y1 b)⟩
    exact wK<|bM<|aA<|wG<|pn 2 E z λa E=>⟨c,nL c,_,_,E.to z,H,(Y1 b),m⟩
   ·refine wX<|aT<|aT<|cL<|aA<|sq<|pn 1 E z λa E=>wR<|o1 E z<|?_;cases m;exact ⟨z,H.reads b⟩

def iS(b:List aG):Option Bool:=
  (kT b).bind λc=>some (decide (c ≥ 0))
theorem I2{b:VL}{c:List aG}(H:Sep w (Fo) rs)(d:rSl aB b c ∈ rs){r:Bool}(m:iS c=some r) :
    Cf 78 [b,.func (.func 79) #[] #[]] w λv w'=>.bool r=v/\Sep w' (Fo) (rs):=by
 unfold iS at m;refine ent func78 z ntmps78 z z λa E=>sp 1 E z λa E=>xp 2 E z λa E=>bd m λf e m=>xk2 E z (cf_ 142) (M1 H d e) λw H a E=>pn 2 E z λa E=>wR<|o1 E z<|?_;cases m;exact ⟨z,H.reads Y0⟩

def C6(x1:aM):Option Bool:=
  (fW x1.Dir).bind λb=>if (!b)=true then (some (true)) else ((xL x1.Next 1 10000).bind λc=>some (!c))
theorem Tl{x1:aM}(H:Sep w (Fo) rs){r:Bool}(m:C6 x1=some r) :
    Cf 82 [.agg #[.string x1.Dir,.int .i64 x1.Next]] w λv w'=>.bool r=v/\Sep w' (Fo) (rs):=by
 unfold C6 at m;refine ent func82 z ntmps82 z z λa E=>sq<|bx E H z λe w a H E=>pr 1 E z λa E=>xp 1 E z λa E=>lb2 E H 0 U9 z λa E=>bd m λf c m=>xk2 E z (cf_ 83) (kQ H c) λw H a E=>pr 2 E z λa E=>cs m (λb m=>?_) λb m=>?_
 ·refine pk 6 E (kc 7 z b) z λa E=>nt<|wR<|o1 E z<|have H:=H.drop 0;?_;cases m;exact ⟨z,H.reads Y0⟩
 ·refine pk 1 E (kc 7 z b) z λa E=>gl 7 E H 0 b U2 z λa E=>bd m λg d m=>gc 7 E b z (cf_ 84) (Ce H d)<|?_;rintro _ w ⟨rfl,H⟩ a E;refine pk 3 E (kc 7 z b) z λa E=>nt<|wR<|o1 E z<|have H:=H.drop 0;?_;cases m;exact ⟨z,H.reads Y0⟩

def dX(c:List aM):Nat->Int->Option Int
  | 0,_=>none
  | e+1,b=>
    if (decide (b < (c.length:Int)))=true then ((idx c b).bind λf=>(C6 f).bind λd=>if d=true then (some (b)) else (dX c e (IntKind.i64.wrap (b+1)))) else (some ((-1)))
def kU(b:List aM):Option Int:=
  dX b (((b.length:Int) - 0:Int).toNat+1) 0
theorem M2{f:VL}{d:List aM}(H:Sep w (Fo) rs)(e:rSl aC f d ∈ rs){r:Int}(m:kU d=some r) :
    Cf 143 [f,.func (.func 82) #[] #[]] w λv w'=>.int .i64 r=v/\Sep w' (Fo) (rs):=by
 unfold kU at m;refine ent func143 z ntmps143 z z λa E=>sq<|pn 1 E z λa E=>wS<|sp 1 E z λa E=>lS E H e U23 z λa E=>pr 1 E z λa E=>nt<|wB<|bF (λc a w=>∃ g,Jn 19 a w [(0,f),(1,.func (.func 82) #[] #[]),(7,.int .i64 (d.length:Int)),(8,.int .i64 g)] (Fo) rs (dX d c g=some r)) (((d.length:Int) - 0:Int).toNat+1) ?_ ?_
 ·exact ⟨_,_,E.to z,H,Y0,m⟩
 ·clear E H m;rintro c a w ⟨g,k,E,H,b,m⟩;cases c with
  | zero=>exact (bD m z).elim
  | succ c=>
   unfold dX at m;refine sq<|pn 1 E z λa E=>wS<|wif E m z (λm=>?_) λm=>?_
   ·refine wK<|aA<|wS<|wB<|sp 2 E z λa E=>xp 3 E z λa E=>bd m λn j m=>dC E H (wn z) z z z z z (b _ e) U23 rF j λq9 a H E=>ldf eD E H z z z z z m0 U89 z rF λa E=>bd m λl i m=>bI E (wn z) z z (bO E z z z ((cf_ 82) _)) (Tl H i)<|?_;rintro _ w ⟨rfl,H⟩ a E;refine nt<|wif E m z (λm=>?_) λm=>?_
    ·refine sq<|pn 2 E z λa E=>wR<|bJ<|aH<|aH<|bJ<|aH<|o1 E z<|?_;cases m;exact ⟨z,H.reads (Y1 b)⟩
    exact wK<|bM<|aA<|wG<|pn 2 E z λa E=>⟨c,nL c,_,_,E.to z,H,(Y1 b),m⟩
   ·refine wX<|aT<|aT<|cL<|aA<|sq<|pn 1 E z λa E=>wR<|o1 E z<|?_;cases m;exact ⟨z,H.reads b⟩

def iT(b:List aM):Option Bool:=
  (kU b).bind λc=>some (decide (c ≥ 0))
theorem I3{b:VL}{c:List aM}(H:Sep w (Fo) rs)(d:rSl aC b c ∈ rs){r:Bool}(m:iT c=some r) :
    Cf 81 [b,.func (.func 82) #[] #[]] w λv w'=>.bool r=v/\Sep w' (Fo) (rs):=by
 unfold iT at m;refine ent func81 z ntmps81 z z λa E=>sp 1 E z λa E=>xp 2 E z λa E=>bd m λf e m=>xk2 E z (cf_ 143) (M2 H d e) λw H a E=>pn 2 E z λa E=>wR<|o1 E z<|?_;cases m;exact ⟨z,H.reads Y0⟩

def rM(x1:aK):Option Bool:=
  (iS x1.Nodes).bind λd=>(iT x1.Turns).bind λe=>if (!d)=true then (if (!e)=true then ((vP x1.Nodes).bind λb=>if b=true then ((vQ x1.Turns).bind λc=>some (c)) else (some (false))) else (some (false))) else (some (false))
theorem Z7{x1:aK}{k l:VL}(H:Sep w (Fo) rs)(e:rSl aB k x1.Nodes ∈ rs)(f:rSl aC l x1.Turns ∈ rs){r:Bool}(m:rM x1=some r) :
    Cf 37 [.agg #[k,l]] w λv w'=>.bool r=v/\Sep w' (Fo) (rs):=by
 unfold rM at m;refine ent func37 z ntmps37 z z λa E=>sq<|bx E H z λq w a H E=>pr 1 E z λa E=>xp 1 E z λa E=>lb2 E H 0 U22 z λa E=>bd m λs n m=>xk2 E z (cf_ 78) (I2 H e n) λw H a E=>pr 1 E z λa E=>xp 1 E z λa E=>lb2 E H 0 U23 z λa E=>bd m λt g m=>xk2 E z (cf_ 81) (I3 H f g) λw H a E=>pr 1 E z λa E=>xp 3 E z λa E=>cs m (λd m=>?_) λd m=>?_
 ·refine pk 4 E (kc 13 z d) z λa E=>cs m (λb m=>?_) λb m=>?_
  ·refine pk 1 E (kc 17 z b) z λa E=>gl 17 E H 0 b U22 z λa E=>bd m λo i m=>gc 17 E b z (cf_ 85) (Fm H e i)<|?_;rintro _ w ⟨rfl,H⟩ a E;refine pk 2 E (kc 17 z b) z λa E=>cs m (λc m=>?_) λc m=>?_
   ·refine pk 1 E (kc 22 z c) z λa E=>gl 22 E H 0 c U23 z λa E=>bd m λp j m=>gc 22 E c z (cf_ 87) (Fp H f j)<|?_;rintro _ w ⟨rfl,H⟩ a E;refine pk 2 E (kc 22 z c) z λa E=>nt<|wR<|o1 E z<|have H:=H.drop 0;?_;cases m;exact ⟨z,H.reads Y0⟩
   refine pk 5 E (kc 22 z c) z λa E=>nt<|wR<|o1 E z<|have H:=H.drop 0;?_;cases m;exact ⟨z,H.reads Y0⟩
  refine pk 10 E (kc 17 z b) z λa E=>nt<|wR<|o1 E z<|have H:=H.drop 0;?_;cases m;exact ⟨z,H.reads Y0⟩
 ·refine pk 14 E (kc 13 z d) z λa E=>nt<|wR<|o1 E z<|have H:=H.drop 0;?_;cases m;exact ⟨z,H.reads Y0⟩

def hZ(b:Int):Option Int:=
  some (b)
theorem sA{e:Nat}{b:Int}{c d f g i j k:VL}(H:Sep w (Blk e 185 [c,d,f,g,i,j,k]::Fo) rs){r:Int}(m:hZ b=some r) :
    Cf 203 [pt e 0,.int .i64 b] w λv w'=>.tuple #[]=v/\Sep w' (Blk e 185 [c,d,.int .i64 r,.string (ByteArray.mk #[]),.string (ByteArray.mk #[]),.int .i64 0,nS]::Fo) (rs):=by
 unfold hZ at m;refine ent func203 z ntmps203 z z λa E=>wG<|pr 2 E z λa E=>sv2 E z (cN E z (E.evs z) (v:=.agg #[.int .i64 b,.string (ByteArray.mk #[]),.string (ByteArray.mk #[]),.int .i64 0,nS]) (by kernel_rfl)) λa E=>pr 2 E z λa E=>ss 0 E H z L8 z λw H=>wN<|xI E z<|?_;cases m;exact ⟨z,H.reads Y0⟩

def sB(b:BY)(c:BY):Option Int:=
  some (Extern.BytealgCompare.cmp b c)
theorem V3{b c:BY}(H:Sep w (Fo) rs){r:Int}(m:sB b c=some r) :
    Cf 190 [.string b,.string c] w λv w'=>.int .i64 r=v/\Sep w' (Fo) (rs):=by
 unfold sB at m;refine ent func190 z ntmps190 z z λa E=>sp 1 E z λa E=>xp 2 E z λa E=>sv2 E z (Mf E z z (EX _ _ _)) λa E=>pn 1 E z λa E=>wR<|o1 E z<|?_;cases m;exact ⟨z,H.reads Y0⟩

def qK(b:BY)(c:BY):Option Int:=
  (sB b c).bind λd=>some (d)
theorem xP{b c:BY}(H:Sep w (Fo) rs){r:Int}(m:qK b c=some r) :
    Cf 113 [.string b,.string c] w λv w'=>.int .i64 r=v/\Sep w' (Fo) (rs):=by
 unfold qK at m;refine ent func113 z ntmps113 z z λa E=>sp 1 E z λa E=>xp 2 E z λa E=>bd m λe d m=>xk2 E z (cf_ 190) (V3 H d) λw H a E=>pn 1 E z λa E=>wR<|o1 E z<|?_;cases m;exact ⟨z,H.reads Y0⟩

def uO(x1:aG)(b:BY):Option Int:=
  (qK x1.Path b).bind λc=>some (c)
theorem Ah{x1:aG}{b:BY}(H:Sep w (Fo) rs){r:Int}(m:uO x1 b=some r) :
    Cf 280 [.agg (nT x1).toArray,.string b] w λv w'=>.int .i64 r=v/\Sep w' (Fo) (rs):=by
 unfold uO at m;refine ent func280 z ntmps280 z z λa E=>sq<|bx E H z λd w a H E=>pr 1 E z λa E=>xp 1 E z λa E=>lb2 E H 0 U9 z λa E=>pr 1 E z λa E=>bd m λe c m=>xk2 E z (cf_ 113) (xP H c) λw H a E=>pn 1 E z λa E=>wR<|o1 E z<|have H:=H.drop 0;?_;cases m;exact ⟨z,H.reads Y0⟩

def cD(c:List aG)(e:BY):Nat->Int->Int->Option zT
  | 0,_,_=>none
  | f+1,b,d=>
    if (decide (b < d))=true then ((idx c (IntKind.i64.wrap (uB .u64 (IntKind.u64.wrap (IntKind.i64.wrap (b+d))) 1))).bind λk=>(uO k e).bind λg=>if (decide (g < 0))=true then (cD c e f (IntKind.i64.wrap ((IntKind.i64.wrap (uB .u64 (IntKind.u64.wrap (IntKind.i64.wrap (b+d))) 1))+1)) d) else (cD c e f b (IntKind.i64.wrap (uB .u64 (IntKind.u64.wrap (IntKind.i64.wrap (b+d))) 1)))) else (if (decide (b < (c.length:Int)))=true then ((idx c b).bind λi=>(uO i e).bind λj=>some (b,j == 0)) else (some (b,false)))
def fQ(b:List aG)(c:BY):Option zT:=
  cD b c (((b.length:Int) - 0:Int).toNat+1) 0 (b.length:Int)
theorem yB{k:VL}{f:List aG}{q:BY}(H:Sep w (Row 107 aB k f::Fo) rs){r:Int×Bool}(m:fQ f q=some r) :
    Cf 279 [k,.string q,.func (.func 280) #[] #[]] w λv w'=>.tuple #[.int .i64 r.1,.bool r.2]=v/\Sep w' (Row 107 aB k f::Fo) (rs):=by
 unfold fQ at m;refine ent func279 z ntmps279 z z λa E=>sp 2 E z λa E=>xp 1 E z λa E=>sv2 E z (lQ (i:=0) E H z z z U22) λa E=>pr 1 E z λa E=>xp 3 E z λa E=>nt<|wS<|wB<|bF (λc a w=>∃ s t,Jn 49 a w [(0,k),(1,.string q),(2,.func (.func 280) #[] #[]),(8,.int .i64 (f.length:Int)),(9,.int .i64 s),(10,.int .i64 t)] (Row 107 aB k f::Fo) rs (cD f q c s t=some r)) (((f.length:Int) - 0:Int).toNat+1) ?_ ?_
 ·exact X3 ⟨E.to z,H,Y0,m⟩
 ·clear E H m;rintro c a w ⟨s,t,y,E,H,j,m⟩;cases c with
  | zero=>exact (bD m z).elim
  | succ c=>
   unfold cD at m;refine wS<|sq<|pn 3 E z λa E=>wif E m z (λm=>?_) λm=>?_
   ·refine wK<|aA<|wB<|sp 4 E z λa E=>sv2 E z (He E z z z (by decide)) λa E=>pr 2 E z λa E=>xp 3 E z λa E=>bd m λl n m=>?_;obtain ⟨A,B,o⟩:=H.rowformNE (i:=0) z n;refine sv2 E z (dP (d:=aB) E o z z z z U22 gM n) λa E=>sv2 E z (kJ (i:=0) E H cM o z z z n (us:=[.string l.Path,.string l.Data,.int .i64 l.Version,.int .i64 l.Turn,.int .i64 l.Owner]) z w6 z gM) λa E=>pr 1 E z λa E=>bd m λC u m=>bI E (wn z) z z (bO E z z z ((cf_ 280) _)) (Ah H u)<|?_;rintro _ w ⟨rfl,H⟩ a E;refine pn 1 E z λa E=>wif E m z (λm=>?_) λm=>?_
    ·exact wG<|pr 3 E z λa E=>wN<|bM<|aA<|⟨c,nL c,X3 ⟨E.to z,H,j,m⟩⟩
    exact wG<|pr 2 E z λa E=>wN<|bM<|aA<|⟨c,nL c,X3 ⟨E.to z,H,j,m⟩⟩
   ·refine wX<|aT<|aT<|cL<|aA<|sp 5 E z λa E=>cs m (λb m=>?_) λb m=>?_
    ·refine pk 3 E (kc 39 z b) z λa E=>bd m λe g m=>?_;obtain ⟨D,F,p⟩:=H.rowformNE (i:=0) z g;refine gv 39 E b z (dP (d:=aB) E p z z z z U22 gM g) λa E=>gv 39 E b z (kJ (i:=0) E H cM p z z z g (us:=[.string e.Path,.string e.Data,.int .i64 e.Version,.int .i64 e.Turn,.int .i64 e.Owner]) z w6 z gM) λa E=>pk 1 E (kc 39 z b) z λa E=>bd m λG x m=>bI E (ws' (d:=39) E z z z z b) z z (bO E z z z ((cf_ 280) _)) (Ah H x)<|?_;rintro _ w ⟨rfl,H⟩ a E;refine pk 4 E (kc 39 z b) z λa E=>nt<|wR<|hX E z z z<|?_;cases m;exact ⟨z,H.reads j⟩
    ·refine pk 11 E (kc 39 z b) z λa E=>nt<|wR<|hX E z z z<|?_;cases m;exact ⟨z,H.reads j⟩

def nO(d:List aG)(c:BY):Option zT:=
  (fQ d c).bind λb=>some (b.1,b.2)
theorem Q7{k:Nat}{b c d e f g i:VL}{l:List aG}{j:BY}(H:Sep w (Blk k 185 [b,c,d,e,f,g,i]::Row 107 aB b l::Fo) rs){r:Int×Bool}(m:nO l j=some r) :
    Cf 209 [pt k 0,.string j] w λv w'=>.tuple #[.int .i64 r.1,.bool r.2]=v/\Sep w' (Blk k 185 [b,c,d,e,f,g,i]::Row 107 aB b l::Fo) (rs):=by
 unfold nO at m;refine ent func209 z ntmps209 z z λa E=>sp 2 E z λa E=>xp 4 E z λa E=>lb2 E H 0 U22 z λa E=>pr 1 E z λa E=>have H:=H.frs [0,1] z;bd m λo n m=>xk2 E z (cf_ 279) (yB H n) λw H a E=>pn 4 E z λa E=>wR<|hX E z z z<|have H:=H.frs [0,1] z;?_;cases m;exact ⟨z,H.reads Y0⟩

def uP(x20:Int):Option Wd:=
  some ((-1),x20,(ByteArray.mk #[]),(ByteArray.mk #[]),0,[])
def qT(f:List aG)(b:Int×Bool)(g:Int)(i:BY)(j:BY)(k:Int)(c:List BY)(d:Bool):Option Wd:=
  if d=true then ((hZ 63).bind λe=>uP e) else ((idx f b.1).bind λl=>some (b.1,g,i,j,k,c))
def qU(d:List aG)(b:Int×Bool)(f:Int)(g:BY)(i:BY)(j:Int)(c:List BY)(e:bE)(k:Bool):Option Wd:=
  if (!b.2)=true then ((hZ 62).bind λl=>uP l) else (if k=true then (if (decide (e.Version ≥ 0))=true then ((idx d b.1).bind λm=>qT d b f g i j c (e.Version != m.Version)) else (qT d b f g i j c false)) else (qT d b f g i j c false))
def iY(e:List aG)(f:Int)(g:BY)(i:BY)(j:Int)(c:List BY)(b:bE):Option Wd:=
  (nO e b.Path).bind λd=>if (b.Kind == 3)=true then (qU e d f g i j c b true) else (if (b.Kind == 5)=true then (qU e d f g i j c b true) else (qU e d f g i j c b (b.Kind == 6)))
theorem vB{o:Nat}{c j p:VL}{q:List aG}{y A:Int}{B C:BY}{l:List BY}{x:bE}(H:Sep w (Blk o 185 [c,p,.int .i64 y,.string B,.string C,.int .i64 A,j]::Row 107 aB c q::Row 9 kS j l::Fo) rs){r:Int×Int×BY×BY×Int×cR}(m:iY q y B C A l x=some r) :
    Cf 202 [pt o 0,.agg (cB x).toArray] w λv w'=>∃ P,orp c r.1 5=v/\Sep w' (Blk o 185 [c,p,.int .i64 r.2.1,.string r.2.2.1,.string r.2.2.2.1,.int .i64 r.2.2.2.2.1,P]::Row 107 aB c q::Row 9 kS P r.2.2.2.2.2::Fo) (rs):=by
 unfold iY at m;refine ent func202 z ntmps202 z z λa E=>sq<|bx E H z λK w a H E=>pr 1 E z λa E=>xp 2 E z λa E=>lb2 E H 0 U9 z λa E=>have H:=H.frs [3,1,3,3] z;bd m λs L m=>xk2 E z (cf_ 209) (Q7 H L) λw H a E=>pn 5 E z λa E=>aL (λa w=>∃ D,Jn 63 a w [(0,pt o 0),(3,pt K 0),(5,.int .i64 s.1),(6,.bool s.2),(7,.bool D)] (Blk o 185 [c,p,.int .i64 y,.string B,.string C,.int .i64 A,j]::Blk K 97 (cB x)::Row 107 aB c q::Row 9 kS j l::Fo) rs (qU q s y B C A l x D=some r)) ?_ ?_
 ·refine wG<|pr 1 E z λa E=>lb2 E H 2 U3 z λa E=>pr 2 E z λa E=>cs m (λe m=>?_) λe m=>?_
  ·exact pk 10 E (kc 18 z e) z λa E=>nt<|have H:=H.frs [3,2,3,3] z;⟨_,_,E.to z,H,Y0,m⟩
  refine pk 1 E (kc 18 z e) z λa E=>gl 18 E H 2 e U3 z λa E=>pk 3 E (kc 18 z e) z λa E=>cs m (λf m=>?_) λf m=>?_
  ·exact pk 5 E (kc 23 z f) z λa E=>nt<|have H:=H.frs [3,2,3,3] z;⟨_,_,E.to z,H,Y0,m⟩
  exact pk 1 E (kc 23 z f) z λa E=>gl 23 E H 2 f U3 z λa E=>pk 3 E (kc 23 z f) z λa E=>nt<|have H:=H.frs [3,2,3,3] z;⟨_,_,E.to z,H,Y0,m⟩
 ·clear E H m;rintro a w ⟨D,Q,E,H,n,m⟩;unfold qU at m;refine aL (λa w=>∃ x20,Jn 63 a w [] (Blk o 185 [c,p,.int .i64 x20,.string (ByteArray.mk #[]),.string (ByteArray.mk #[]),.int .i64 0,nS]::Row 107 aB c q::Fo) rs (uP x20=some r)) ?_ ?_
  ·refine wB<|sq<|pn 3 E z λa E=>wif E m z (λm=>?_) λm=>?_
   ·exact wG<|pr 1 E z λa E=>bd m λT M m=>xk2 E z (cf_ 203) (sA H M) λw H a E=>wN<|bM<|aA<|have H:=H.drs [1,2];⟨_,_,E.nil,H,n,m⟩
   refine aL (λa w=>∃ F,Jn 63 a w [(0,pt o 0),(5,.int .i64 s.1),(40,.bool F)] (Blk o 185 [c,p,.int .i64 y,.string B,.string C,.int .i64 A,j]::Row 107 aB c q::Row 9 kS j l::Fo) rs (qT q s y B C A l F=some r)) ?_ ?_
   ·refine dz [0,0,0,0,0,0,0,0,0,0,0,0,0,0,0,0,0,0,0,0,1] [0,1,2] H λw W0 hI H=>fn 2 E z λa E=>cs m (λg m=>?_) λg m=>?_
    ·refine fk 1 E (kc 42 z g) z λa E=>fb E z (ws' (d:=42) E z z z z g) z z z z mm1 z U2 z λa E=>fk 3 E (kc 42 z g) z λa E=>cs m (λb m=>?_) λb m=>?_
     ·refine fk 1 E (kc 47 z b) z λa E=>fb E z (ws' (d:=47) E z z z z b) z z z z mm1 z U2 z λa E=>fk 4 E (kc 47 z b) z λa E=>fb E z (ws' (d:=47) E z z z z b) z z z z m0 z U22 z λa E=>fk 1 E (kc 47 z b) z λa E=>bd m λU t m=>?_;obtain ⟨V,W,G⟩:=H.rowformNE (i:=2) z t;refine dV E z (ws' (d:=47) E z z z z b) z z (λw hW=>dP (d:=aB) E G z z z z U22 gM t) λa E=>fk 1 E (kc 47 z b) z λa E=>dV E z (ws' (d:=47) E z z z z b) z z (λw hW=>Oj (d:=aB) (k:=2) E cM G t mm2 z z z U2 z hW) λa E=>fk 2 E (kc 47 z b) z λa E=>bW z<|pn 1 E z λa E=>⟨sx H [0,1,2] z,bG<|?_⟩
      clear hI;exact aA<|have H:=H.drop 1;⟨_,_,E.to z,H,n,m⟩
     refine fk 13 E (kc 47 z b) z λa E=>bW z<|pn 1 E z λa E=>⟨sx H [0,1,2] z,bG<|?_⟩
     clear hI;exact aA<|have H:=H.drop 1;⟨_,_,E.to z,H,n,m⟩
    refine fk 18 E (kc 42 z g) z λa E=>bW z<|pn 1 E z λa E=>⟨sx H [0,1,2] z,bG<|?_⟩
    clear hI;exact aA<|have H:=H.drop 1;⟨_,_,E.to z,H,n,m⟩
   clear E H m;rintro a w ⟨F,R,E,H,I,m⟩;unfold qT at m;refine wif E m z (λm=>?_) λm=>?_
   ·exact wG<|pr 1 E z λa E=>bd m λX N m=>xk2 E z (cf_ 203) (sA H N) λw H a E=>wN<|bM<|aA<|have H:=H.drop 2;⟨_,_,E.nil,H,I,m⟩
   refine sp 4 E z λa E=>lb2 E H 0 U22 z λa E=>pr 1 E z λa E=>bd m λY u m=>?_;obtain ⟨Z,b0,J⟩:=H.rowformNE (i:=1) z u;refine sv2 E z (dP (d:=aB) E J z z z z U22 gM u) λa E=>pn 1 E z λa E=>wR<|bJ<|aH<|o1 E z<|?_;cases m;exact ⟨_,Jw _ J u,H.reads I⟩
  ·clear E H m;rintro a w ⟨x20,S,E,H,O,m⟩;unfold uP at m;refine sq<|pn 1 E z λa E=>wR<|o1 E z<|have H:=H.nilRow 9 kS;have H:=H.frs [0,2,2] z;?_;cases m;exact ⟨_,z,H.reads O⟩

def wC(x1:aM)(b:BY):Option Int:=
  (qK x1.Dir b).bind λc=>some (c)
theorem Bu{x1:aM}{b:BY}(H:Sep w (Fo) rs){r:Int}(m:wC x1 b=some r) :
    Cf 275 [.agg #[.string x1.Dir,.int .i64 x1.Next],.string b] w λv w'=>.int .i64 r=v/\Sep w' (Fo) (rs):=by
 unfold wC at m;refine ent func275 z ntmps275 z z λa E=>sq<|bx E H z λd w a H E=>pr 1 E z λa E=>xp 1 E z λa E=>lb2 E H 0 U9 z λa E=>pr 1 E z λa E=>bd m λe c m=>xk2 E z (cf_ 113) (xP H c) λw H a E=>pn 1 E z λa E=>wR<|o1 E z<|have H:=H.drop 0;?_;cases m;exact ⟨z,H.reads Y0⟩

def cE(c:List aM)(e:BY):Nat->Int->Int->Option zT
  | 0,_,_=>none
  | f+1,b,d=>
    if (decide (b < d))=true then ((idx c (IntKind.i64.wrap (uB .u64 (IntKind.u64.wrap (IntKind.i64.wrap (b+d))) 1))).bind λk=>(wC k e).bind λg=>if (decide (g < 0))=true then (cE c e f (IntKind.i64.wrap ((IntKind.i64.wrap (uB .u64 (IntKind.u64.wrap (IntKind.i64.wrap (b+d))) 1))+1)) d) else (cE c e f b (IntKind.i64.wrap (uB .u64 (IntKind.u64.wrap (IntKind.i64.wrap (b+d))) 1)))) else (if (decide (b < (c.length:Int)))=true then ((idx c b).bind λi=>(wC i e).bind λj=>some (b,j == 0)) else (some (b,false)))
def cH(b:List aM)(c:BY):Option zT:=
  cE b c (((b.length:Int) - 0:Int).toNat+1) 0 (b.length:Int)
theorem iG{j:VL}{e:List aM}{o:BY}(H:Sep w (Row 89 aC j e::Fo) rs){r:Int×Bool}(m:cH e o=some r) :
    Cf 274 [j,.string o,.func (.func 275) #[] #[]] w λv w'=>.tuple #[.int .i64 r.1,.bool r.2]=v/\Sep w' (Row 89 aC j e::Fo) (rs):=by
 unfold cH at m;refine ent func274 z ntmps274 z z λa E=>sp 2 E z λa E=>xp 1 E z λa E=>sv2 E z (lQ (i:=0) E H z z z U23) λa E=>pr 1 E z λa E=>xp 3 E z λa E=>nt<|wS<|wB<|bF (λc a w=>∃ q s,Jn 49 a w [(0,j),(1,.string o),(2,.func (.func 275) #[] #[]),(8,.int .i64 (e.length:Int)),(9,.int .i64 q),(10,.int .i64 s)] (Row 89 aC j e::Fo) rs (cE e o c q s=some r)) (((e.length:Int) - 0:Int).toNat+1) ?_ ?_
 ·exact X3 ⟨E.to z,H,Y0,m⟩
 ·clear E H m;rintro c a w ⟨q,s,y,E,H,g,m⟩;cases c with
  | zero=>exact (bD m z).elim
  | succ c=>
   unfold cE at m;refine wS<|sq<|pn 3 E z λa E=>wif E m z (λm=>?_) λm=>?_
   ·refine wK<|aA<|wB<|sp 4 E z λa E=>sv2 E z (He E z z z (by decide)) λa E=>pr 2 E z λa E=>xp 3 E z λa E=>bd m λx k m=>?_;obtain ⟨A,B,l⟩:=H.rowformNE (i:=0) z k;refine sv2 E z (dP (d:=aC) E l z z z z U23 rF k) λa E=>sv2 E z (kJ (i:=0) E H eD l z z z k (us:=[.string x.Dir,.int .i64 x.Next]) z U89 z rF) λa E=>pr 1 E z λa E=>bd m λC t m=>bI E (wn z) z z (bO E z z z ((cf_ 275) _)) (Bu H t)<|?_;rintro _ w ⟨rfl,H⟩ a E;refine pn 1 E z λa E=>wif E m z (λm=>?_) λm=>?_
    ·exact wG<|pr 3 E z λa E=>wN<|bM<|aA<|⟨c,nL c,X3 ⟨E.to z,H,g,m⟩⟩
    exact wG<|pr 2 E z λa E=>wN<|bM<|aA<|⟨c,nL c,X3 ⟨E.to z,H,g,m⟩⟩
   ·refine wX<|aT<|aT<|cL<|aA<|sp 5 E z λa E=>cs m (λb m=>?_) λb m=>?_
    ·refine pk 3 E (kc 39 z b) z λa E=>bd m λp f m=>?_;obtain ⟨D,F,n⟩:=H.rowformNE (i:=0) z f;refine gv 39 E b z (dP (d:=aC) E n z z z z U23 rF f) λa E=>gv 39 E b z (kJ (i:=0) E H eD n z z z f (us:=[.string p.Dir,.int .i64 p.Next]) z U89 z rF) λa E=>pk 1 E (kc 39 z b) z λa E=>bd m λG u m=>bI E (ws' (d:=39) E z z z z b) z z (bO E z z z ((cf_ 275) _)) (Bu H u)<|?_;rintro _ w ⟨rfl,H⟩ a E;refine pk 4 E (kc 39 z b) z λa E=>nt<|wR<|hX E z z z<|?_;cases m;exact ⟨z,H.reads g⟩
    ·refine pk 11 E (kc 39 z b) z λa E=>nt<|wR<|hX E z z z<|?_;cases m;exact ⟨z,H.reads g⟩

def E9(x1:bE):Option (Int×BY×BY×BY×Int×Int×Bool):=
  some (x1.Kind,x1.Dir,x1.Path,x1.Data,x1.Version,x1.Owner,x1.Turns)
theorem Kt{x1:bE}(H:Sep w (Fo) rs){r:Int×BY×BY×BY×Int×Int×Bool}(m:E9 x1=some r) :
    Cf 213 [.agg (cB x1).toArray] w λv w'=>∃ b,.func (.func 283) #[] #[pt b 0]=v/\Sep w' (Blk b 97 [.int .i64 r.1,.string r.2.1,.string r.2.2.1,.string r.2.2.2.1,.int .i64 r.2.2.2.2.1,.int .i64 r.2.2.2.2.2.1,.bool r.2.2.2.2.2.2]::Fo) (rs):=by
 unfold E9 at m;refine ent func213 z ntmps213 z z λa E=>sq<|bx E H z λc w a H E=>pr 1 E z λa E=>nx<|sv2 E z (nR E z z z) λa E=>pn 1 E z λa E=>wR<|o1 E z<|?_;cases m;exact ⟨_,z,H.reads Y0⟩

def A4(x1:aG)(c:BY):Option Bool:=
  (tZ x1.Path).bind λb=>if b.2=true then (some (sEq b.1 c)) else (some (false))
theorem Fq{x1:aG}{j:Nat}{k:BY}{c d e f g i:VL}(H:Sep w (Blk j 97 [c,d,.string k,e,f,g,i]::Fo) rs){r:Bool}(m:A4 x1 k=some r) :
    Cf 283 [.agg (nT x1).toArray,pt j 0] w λv w'=>.bool r=v/\Sep w' (Blk j 97 [c,d,.string k,e,f,g,i]::Fo) (rs):=by
 unfold A4 at m;refine ent func283 z ntmps283 z z λa E=>sq<|bx E H z λn w a H E=>pr 1 E z λa E=>xp 1 E z λa E=>lb2 E H 0 U9 z λa E=>bd m λo l m=>xk2 E z (cf_ 180) (R9 H l) λw H a E=>pr 5 E z λa E=>xp 2 E z λa E=>cs m (λb m=>?_) λb m=>?_
 ·refine pk 2 E (kc 13 z b) z λa E=>gl 13 E H 1 b U9 z λa E=>pk 3 E (kc 13 z b) z λa E=>nt<|wR<|o1 E z<|have H:=H.drop 0;?_;cases m;exact ⟨z,H.reads Y0⟩
 ·refine pk 6 E (kc 13 z b) z λa E=>nt<|wR<|o1 E z<|have H:=H.drop 0;?_;cases m;exact ⟨z,H.reads Y0⟩

def xQ(e:List aG)(i:Int)(j:BY)(k:BY)(l:Int)(f:List BY)(c:bE):Option QW:=
  (iY e i j k l f c).bind λb=>if (decide (b.1 < 0))=true then (some (e,b.2.1,b.2.2.1,b.2.2.2.1,b.2.2.2.2.1,b.2.2.2.2.2)) else ((idx e b.1).bind λd=>if (d.Version == 281474976710656)=true then ((hZ 2).bind λg=>some (e,g,(ByteArray.mk #[]),(ByteArray.mk #[]),0,[])) else (some ((e.set b.1.toNat ({ d with Data:=c.Data }:aG)).set b.1.toNat ({ ({ d with Data:=c.Data }:aG) with Version:=IntKind.i64.wrap ((({ d with Data:=c.Data }:aG).Version)+1) }:aG),b.2.1,b.2.2.1,b.2.2.2.1,({ ({ d with Data:=c.Data }:aG) with Version:=IntKind.i64.wrap ((({ d with Data:=c.Data }:aG).Version)+1) }:aG).Version,b.2.2.2.2.2)))
theorem Ni{o:Nat}{g j l:VL}{s:List aG}{t u:Int}{x y:BY}{n:List BY}{e:bE}(H:Sep w (Blk o 185 [g,l,.int .i64 t,.string x,.string y,.int .i64 u,j]::Row 107 aB g s::Row 9 kS j n::Fo) rs){r:dL×Int×BY×BY×Int×cR}(m:xQ s t x y u n e=some r) :
    Cf 129 [pt o 0,.agg (cB e).toArray] w λv w'=>∃ A,.tuple #[]=v/\Sep w' (Blk o 185 [g,l,.int .i64 r.2.1,.string r.2.2.1,.string r.2.2.2.1,.int .i64 r.2.2.2.2.1,A]::Row 107 aB g r.1::Row 9 kS A r.2.2.2.2.2::Fo) (rs):=by
 unfold xQ at m;refine ent func129 z ntmps129 z z λa E=>sq<|bx E H z λB w a H E=>xp 1 E z λa E=>ln 0 (cB e) E H U97 z mR λa E=>have H:=H.frs [0,3,3,3] z;bd m λC p m=>xc2 E z (cf_ 202) (vB H p)<|?_;rintro _ w ⟨D,rfl,H⟩ a E;refine pn 1 E z λa E=>wB<|sp 1 E z λa E=>sv2 E z (OC E Rd Re z z z) λa E=>pn 1 E z λa E=>wif E m z (λm=>?_) λm=>?_
 ·refine wK<|bM<|xI E z<|have H:=H.drop 3;?_;cases m;exact ⟨_,z,H.reads Y0⟩
 ·refine sp 1 E z λa E=>bd m λf b m=>?_;obtain ⟨F,G,c⟩:=H.rowformNE (i:=1) z b;rw [Jw 5 c b] at E;refine pr 2 E z λa E=>sv2 E z (uX (d:=aB) (i:=1) (k:=2) E H cM c z z z b z U2 z) λa E=>pn 2 E z λa E=>wif E m z (λm=>?_) λm=>?_
  ·refine wG<|pr 1 E z λa E=>bd m λI q m=>xk2 E z (cf_ 203) (sA H q) λw H a E=>wN<|bM<|xI E z<|have H:=H.nilRow 9 kS;have H:=H.drs [3,3];have H:=H.frs [0,2,2] z;?_;cases m;exact ⟨_,z,H.reads Y0⟩
  ·refine sp 2 E z λa E=>lb2 E H 3 U9 z λa E=>pr 2 E z λa E=>Br (d:=aB) (i:=1) (k:=1) (z':=({ f with Data:=e.Data }:aG)) E H cM (wn z) z c z z z z z z b z z sz9 λw H=>xp 3 E z λa E=>sv2 E z (uX (d:=aB) (i:=1) (k:=2) E H cM c z z z (F5 b) z U2 z) λa E=>pr 3 E z λa E=>Br (d:=aB) (i:=1) (k:=2) (z':=({ ({ f with Data:=e.Data }:aG) with Version:=IntKind.i64.wrap ((({ f with Data:=e.Data }:aG).Version)+1) }:aG)) E H cM (wn z) z c z z z z z z (F5 b) z z sz2 λw H=>nt<|wG<|pr 4 E z λa E=>sv2 E z (uX (d:=aB) (i:=1) (k:=2) E H cM c z z z (F5 (F5 b)) z U2 z) λa E=>pr 3 E z λa E=>ss 0 E H z sz2 z λw H=>wN<|bM<|xI E z<|have H:=H.drop 3;?_;cases m;exact ⟨_,z,H.reads Y0⟩

def rN(b:Bool)(c:cR):Option (Bool×cR):=
  some (b,c)
def rO(x1:aG)(b:List BY)(c:Bool):Option (Bool×cR):=
  if c=true then ((w9 x1.Path).bind λd=>(ck (b.length+([d]:List BY).length <= LIM)).bind λe=>rN c (b ++ ([d]:List BY))) else (rN c b)
def qV(x1:aG)(e:Int)(c:BY)(b:List BY):Option (Bool×cR):=
  if (x1.Owner == e)=true then ((A4 x1 c).bind λd=>rO x1 b d) else (rO x1 b false)
theorem Ai{x1:aG}{P j c g f:Nat}{Q:Int}{k:BY}{n o p q s t u y A B C D F G I J K L M:VL}{N:List BY}(H:Sep w (Blk P 97 [o,p,q,s,t,.int .i64 Q,u]::Blk j 121 [.func (.func 283) #[] #[pt c 0]]::Blk c 97 [y,A,.string k,B,C,D,F]::Blk g 182 [pt f 0]::Blk f 185 [G,I,J,K,L,M,n]::Row 9 kS n N::Fo) rs){r:Bool×cR}(m:qV x1 Q k N=some r) :
    Cf 216 [.agg (nT x1).toArray,pt P 0,pt j 0,pt g 0] w λv w'=>∃ Z,.bool r.1=v/\Sep w' (Blk P 97 [o,p,q,s,t,.int .i64 Q,u]::Blk j 121 [.func (.func 283) #[] #[pt c 0]]::Blk c 97 [y,A,.string k,B,C,D,F]::Blk g 182 [pt f 0]::Blk f 185 [G,I,J,K,L,M,Z]::Row 9 kS Z r.2::Fo) (rs):=by
 unfold qV at m;refine ent func216 z ntmps216 z z λa E=>sq<|bx E H z λU w a H E=>pn 1 E z λa E=>aL (λa w=>∃ l,Jn 33 a w [(3,pt g 0),(4,pt U 0),(6,.bool l)] (Blk g 182 [pt f 0]::Blk U 107 (nT x1)::Blk P 97 [o,p,q,s,t,.int .i64 Q,u]::Blk j 121 [.func (.func 283) #[] #[pt c 0]]::Blk c 97 [y,A,.string k,B,C,D,F]::Blk f 185 [G,I,J,K,L,M,n]::Row 9 kS n N::Fo) rs (rO x1 N l=some r)) ?_ ?_
 ·refine wG<|pr 1 E z λa E=>lb2 E H 0 U2 z λa E=>pr 1 E z λa E=>lb2 E H 1 U2 z λa E=>pr 2 E z λa E=>cs m (λb m=>?_) λb m=>?_
  ·refine gl 12 E H 2 b UI z λa E=>gv 12 E b z (zQ (i:=0) (us:=(nT x1)) E H z z z z w6 z gM) λa E=>have H:=H.frs [6,6,6,5,5,5,6] z;bd m λb2 V m=>bI E (ws' (d:=12) E z z z z b) z z (bO E z z z ((cf_ 283) _)) (Fq H V)<|?_;rintro _ w ⟨rfl,H⟩ a E;exact pk 2 E (kc 12 z b) z λa E=>nt<|have H:=H.frs [6,6,2,5,5,5,6] z;⟨_,_,E.to z,H,Y0,m⟩
  exact pk 5 E (kc 12 z b) z λa E=>nt<|have H:=H.frs [6,6,5,5,5,5,6] z;⟨_,_,E.to z,H,Y0,m⟩
 ·clear E H m;rintro a w ⟨l,b0,E,H,R,m⟩;unfold rO at m;refine aL (λa w=>∃ S T,Jn 33 a w [(6,.bool l)] (Blk P 97 [o,p,q,s,t,.int .i64 Q,u]::Blk j 121 [.func (.func 283) #[] #[pt c 0]]::Blk c 97 [y,A,.string k,B,C,D,F]::Blk g 182 [pt f 0]::Blk f 185 [G,I,J,K,L,M,S]::Row 9 kS S T::Fo) rs (rN l T=some r)) ?_ ?_
  ·refine sq<|pn 1 E z λa E=>wif E m z (λm=>?_) λm=>?_
   ·refine dz [0,0,0,0,0,0,0,0,1,1,1,2,2,2,2] [0,1,5] H λw W0 hI H=>fb2 E m0 CL z λa E=>fb2 E m0 CL z λa E=>fn 3 E z λa E=>fb2 E mm2 U33 z λa E=>fn 1 E z λa E=>fb2 E mm1 U9 z λa E=>bW z<|bd m λO W m=>xk2 E z (cf_ 207) (Fi H W) λw H a E=>nt<|⟨sx H [0,1,5] z,bW z<|sD (e:=9) (d:=kS) (cs:=[.string O]) (xs:=[O]) E H (wn z) z z z (E.evs z) (by kernel_rfl) z (λok hr=>(Rows.single (d:=kS) (cs:=[.string O]) (x:=O) z)) λb3 w a H E=>nt<|⟨sx H [0,1,5] z,bW z<|bk m λX m=>eF (i:=6) E H (wn z) z z z z z z (lH m0) U33 Kh z X z λb4 w a H E=>nt<|⟨sx H [0,1,5] z,bK z<|pn 1 E z λa E=>bK z<|pn 1 E z λa E=>bK z<|pn 1 E z λa E=>bK z<|?_⟩⟩⟩
    obtain ⟨q63,b5,rfl⟩:=H.rowform (i:=6) z;refine ss 5 E H z PV z λw H=>nt<|bG<|?_;clear hI;exact aA<|have H:=H.drop 1;have H:=H.frs [5,5,2,5,5,5] z;X3 ⟨E.to z,H,(Y1 R),m⟩
   exact wK<|aA<|have H:=H.drop 1;have H:=H.frs [5,5,2,5,5,5] z;X3 ⟨E.to z,H,R,m⟩
  ·clear E H m;rintro a w ⟨S,T,b1,E,H,Y,m⟩;unfold rN at m;refine sq<|pn 2 E z λa E=>wR<|o1 E z<|?_;cases m;exact ⟨_,z,H.reads Y⟩

def cW(f:List aG)(g:Int)(d:BY):Nat->Int->cR->Option (Int×cR)
  | 0,_,_=>none
  | j+1,b,e=>
    if (decide (b < (f.length:Int)))=true then ((idx f b).bind λi=>(qV i g d e).bind λc=>if c.1=true then (some (b,c.2)) else (cW f g d j (IntKind.i64.wrap (b+1)) c.2)) else (some ((-1),e))
def jE(b:List aG)(e:Int)(c:BY)(d:List BY):Option (Int×cR):=
  cW b e c (((b.length:Int) - 0:Int).toNat+1) 0 d
theorem J9{e T q s t u x y A B C D F G I J K L M:VL}{l:List aG}{N f b g c:Nat}{O:Int}{j:BY}{U:List BY}(H:Sep w (Row 107 aB e l::Blk N 97 [q,s,t,u,x,.int .i64 O,y]::Blk f 121 [.func (.func 283) #[] #[pt b 0]]::Blk b 97 [A,B,.string j,C,D,F,G]::Blk g 182 [pt c 0]::Blk c 185 [e,I,J,K,L,M,T]::Row 9 kS T U::Fo) rs){r:Int×cR}(m:jE l O j U=some r) :
    Cf 142 [e,.func (.func 216) #[] #[pt N 0,pt f 0,pt g 0]] w λv w'=>∃ W,.int .i64 r.1=v/\Sep w' (Blk N 97 [q,s,t,u,x,.int .i64 O,y]::Blk f 121 [.func (.func 283) #[] #[pt b 0]]::Blk b 97 [A,B,.string j,C,D,F,G]::Blk g 182 [pt c 0]::Blk c 185 [e,I,J,K,L,M,W]::Row 107 aB e l::Row 9 kS W r.2::Fo) (rs):=by
 unfold jE at m;refine ent func142 z ntmps142 z z λa E=>sq<|pn 1 E z λa E=>wS<|sp 1 E z λa E=>sv2 E z (lQ (i:=0) E H z z z U22) λa E=>pr 1 E z λa E=>nt<|wB<|bF (λp a w=>∃ P Q R,Jn 19 a w [(0,e),(1,.func (.func 216) #[] #[pt N 0,pt f 0,pt g 0]),(7,.int .i64 (l.length:Int)),(8,.int .i64 Q)] (Row 107 aB e l::Blk N 97 [q,s,t,u,x,.int .i64 O,y]::Blk f 121 [.func (.func 283) #[] #[pt b 0]]::Blk g 182 [pt c 0]::Blk b 97 [A,B,.string j,C,D,F,G]::Blk c 185 [e,I,J,K,L,M,P]::Row 9 kS P R::Fo) rs (cW l O j p Q R=some r)) (((l.length:Int) - 0:Int).toNat+1) ?_ ?_
 ·exact have H:=H.frs [6,6,5,6,6,6,6] z;X4 ⟨E.to z,H,Y0,m⟩
 ·clear E H m;rintro p a w ⟨P,Q,R,X,E,H,n,m⟩;cases p with
  | zero=>exact (bD m z).elim
  | succ p=>
   unfold cW at m;refine sq<|pn 1 E z λa E=>wS<|wif E m z (λm=>?_) λm=>?_
   ·refine wK<|aA<|wS<|wB<|sp 2 E z λa E=>xp 3 E z λa E=>bd m λk o m=>?_;obtain ⟨Y,Z,S⟩:=H.rowformNE (i:=0) z o;refine sv2 E z (dP (d:=aB) E S z z z z U22 gM o) λa E=>sv2 E z (kJ (i:=0) E H cM S z z z o (us:=[.string k.Path,.string k.Data,.int .i64 k.Version,.int .i64 k.Turn,.int .i64 k.Owner]) z w6 z gM) λa E=>have H:=H.frs [0,6,6,5,6,6,6] z;bd m λb0 V m=>bI E (wn z) z z (bO E z z z ((cf_ 216) _)) (Ai H V)<|?_;rintro _ w ⟨b1,rfl,H⟩ a E;refine nt<|wif E m z (λm=>?_) λm=>?_
    ·refine sq<|pn 2 E z λa E=>wR<|bJ<|aH<|aH<|bJ<|aH<|o1 E z<|have H:=H.frs [5,6,6,6,6,6,6] z;?_;cases m;exact ⟨_,z,H.reads n⟩
    exact wK<|bM<|aA<|wG<|pn 2 E z λa E=>have H:=H.frs [5,5,4,5,5,5,6] z;⟨p,nL p,X4 ⟨E.to z,H,n,m⟩⟩
   ·refine wX<|aT<|aT<|cL<|aA<|sq<|pn 1 E z λa E=>wR<|o1 E z<|have H:=H.frs [6,1,6,5,6,6,6] z;?_;cases m;exact ⟨_,z,H.reads n⟩

def fX(rec_1:dL->Int->Int->cR->Option Rh)(b:Int)(c:dL)(d:Int)(e:cR):Option Rh:=
  rec_1 c d (IntKind.i64.wrap (b+1)) e
def dH(j:Int)(e:BY):Nat->dL->Int->Int->cR->Option Rh
  | 0,_,_,_,_=>none
  | k+1,c,b,d,g=>
    if (decide (d < (c.length:Int)))=true then ((idx c d).bind λi=>(qV i j e g).bind λf=>if (!f.1)=true then ((idx c b).bind λl=>fX (dH j e k) d (c.set b.toNat i) (IntKind.i64.wrap (b+1)) f.2) else (fX (dH j e k) d c b f.2)) else ((ck (0 <= b/\b <= c.length)).bind λm=>(ck (0 <= b/\b <= (c.take b.toNat ++ List.replicate (c.length - b.toNat) (⟨⟨#[]⟩,⟨#[]⟩,0,0,0⟩:aG)).length)).bind λn=>some ((c.take b.toNat ++ List.replicate (c.length - b.toNat) (⟨⟨#[]⟩,⟨#[]⟩,0,0,0⟩:aG)).take b.toNat,g))
def jV(c:List aG)(e:Int)(d:BY)(f:List BY):Option Rh:=
  (jE c e d f).bind λb=>if (b.1 == (-1))=true then (some (c,b.2)) else (dH e d (((c.length:Int) - (IntKind.i64.wrap (b.1+1)):Int).toNat+1) c b.1 (IntKind.i64.wrap (b.1+1)) b.2)
theorem L3{k b1 u x y A B C D F G I J K L M N O P:VL}{b3:List aG}{n f c g e:Nat}{o:Int}{j:BY}{b2:List BY}(H:Sep w (Row 107 aB k b3::Blk n 97 [u,x,y,A,B,.int .i64 o,C]::Blk f 121 [.func (.func 283) #[] #[pt c 0]]::Blk c 97 [D,F,.string j,G,I,J,K]::Blk g 182 [pt e 0]::Blk e 185 [k,L,M,N,O,P,b1]::Row 9 kS b1 b2::Fo) rs){r:dL×cR}(m:jV b3 o j b2=some r) :
    Cf 215 [k,.func (.func 216) #[] #[pt n 0,pt f 0,pt g 0]] w λv w'=>∃ b8 b9,b8=v/\Sep w' (Row 107 aB b8 r.1::Blk n 97 [u,x,y,A,B,.int .i64 o,C]::Blk f 121 [.func (.func 283) #[] #[pt c 0]]::Blk c 97 [D,F,.string j,G,I,J,K]::Blk g 182 [pt e 0]::Blk e 185 [k,L,M,N,O,P,b9]::Row 9 kS b9 r.2::Fo) (rs):=by
 unfold jV at m;refine ent func215 z ntmps215 z z λa E=>sp 1 E z λa E=>xp 2 E z λa E=>bd m λc0 b4 m=>xc2 E z (cf_ 142) (J9 H b4)<|?_;rintro _ w ⟨c3,rfl,H⟩ a E;refine pn 1 E z λa E=>wS<|sq<|pn 2 E z λa E=>wif E m z (λm=>?_) λm=>?_
 ·refine sq<|pn 2 E z λa E=>wR<|aH<|o1 E z<|have H:=H.frs [6,5,5,5,5,5,6] z;?_;cases m;exact ⟨_,_,z,H.reads Y0⟩
 ·refine wK<|aA<|wS<|sq<|pn 3 E z λa E=>wB<|bF (λp a w=>∃ Q R S l T,Jn 42 a w [(0,k),(1,.func (.func 216) #[] #[pt n 0,pt f 0,pt g 0]),(5,.int .i64 S),(6,.int .i64 l)] (Row 107 aB k R::Blk n 97 [u,x,y,A,B,.int .i64 o,C]::Blk f 121 [.func (.func 283) #[] #[pt c 0]]::Blk g 182 [pt e 0]::Blk c 97 [D,F,.string j,G,I,J,K]::Blk e 185 [k,L,M,N,O,P,Q]::Row 9 kS Q T::Fo) rs (dH o j p R S l T=some r)) (((b3.length:Int) - (IntKind.i64.wrap (c0.1+1)):Int).toNat+1) ?_ ?_
  ·exact have H:=H.frs [6,5,4,5,5,5,6] z;X6 ⟨E.to z,H,Y0,m⟩
  ·clear E H m;rintro p a w ⟨Q,R,S,l,T,c1,E,H,q,m⟩;cases p with
   | zero=>exact (bD m z).elim
   | succ p=>
    unfold dH at m;refine wS<|sp 2 E z λa E=>sv2 E z (lQ (i:=0) E H z z z U22) λa E=>pn 1 E z λa E=>wif E m z (λm=>?_) λm=>?_
    ·refine wK<|aA<|aL (λa w=>∃ U V W X,Jn 42 a w [(0,k),(1,.func (.func 216) #[] #[pt n 0,pt f 0,pt g 0]),(5,.int .i64 W),(6,.int .i64 l)] (Row 107 aB k V::Blk n 97 [u,x,y,A,B,.int .i64 o,C]::Blk f 121 [.func (.func 283) #[] #[pt c 0]]::Blk g 182 [pt e 0]::Blk c 97 [D,F,.string j,G,I,J,K]::Blk e 185 [k,L,M,N,O,P,U]::Row 9 kS U X::Fo) rs (fX (dH o j p) l V W X=some r)) ?_ ?_
     ·refine wB<|sp 2 E z λa E=>bd m λb s m=>?_;obtain ⟨c4,c5,Y⟩:=H.rowformNE (i:=0) z s;refine sv2 E z (dP (d:=aB) E Y z z z z U22 gM s) λa E=>sv2 E z (kJ (i:=0) E H cM Y z z z s (us:=[.string b.Path,.string b.Data,.int .i64 b.Version,.int .i64 b.Turn,.int .i64 b.Owner]) z w6 z gM) λa E=>al2 E H z CM λc6 w a H E=>ss 0 E H z gM z λw H=>xp 1 E z λa E=>ln 0 (nT b) E H w6 z gM λa E=>have H:=H.frs [1,1,7,7,6,7,7,7] z;bd m λc7 b5 m=>bI E (wn z) z z (bO E z z z ((cf_ 216) _)) (Ai H b5)<|?_;rintro _ w ⟨c8,rfl,H⟩ a E;refine pn 1 E z λa E=>wif E m z (λm=>?_) λm=>?_
      ·refine sp 2 E z λa E=>ln 6 (nT b) E H w6 z gM λa E=>bd m λc9 t m=>?_;obtain ⟨d0,d1,Z⟩:=H.rowformNE (i:=7) z t;exact sv2 E z (dP (d:=aB) E Z z z z z U22 gM t) λa E=>W8 (d:=aB) (i:=7) (us:=[.string b.Path,.string b.Data,.int .i64 b.Version,.int .i64 b.Turn,.int .i64 b.Owner]) (z':=b) E H cM (wn z) z Z z z z z z z z t gM λw H=>nt<|wG<|pr 3 E z λa E=>wN<|bM<|aA<|have H:=H.drop 6;have H:=H.frs [5,5,4,5,5,5,6] z;X5 ⟨E.to z,H,q,m⟩
      exact wK<|bM<|aA<|have H:=H.drop 6;have H:=H.frs [5,5,4,5,5,5,6] z;X5 ⟨E.to z,H,q,m⟩
     clear E H m;rintro a w ⟨U,V,W,X,c2,E,H,b6,m⟩;unfold fX at m;exact wG<|pn 3 E z λa E=>⟨p,nL p,X6 ⟨E.to z,H,b6,m⟩⟩
    ·refine wX<|aT<|aT<|cL<|aA<|sp 2 E z λa E=>bk m λb0 m=>sv2 E z (Hj (d:=aB) (i:=0) E H z z z z U22 gM b0) λa E=>Ba (i:=0) (z0:=(⟨⟨#[]⟩,⟨#[]⟩,0,0,0⟩:aG)) E H cM (wn z) z z z U22 PW z z z b0 λw H=>xp 2 E z λa E=>bk m λb7 m=>Ec (i:=0) E H cM (wn z) z z z z z z U22 gM b7 λd2 a H E=>pn 1 E z λa E=>wR<|o1 E z<|have H:=H.frs [6,6,5,6,6,6,6] z;?_;cases m;exact ⟨_,_,z,H.reads q⟩

def xR(f:List aG)(d:List BY)(b:bE):Option Rh:=
  (E9 b).bind λe=>(jV f b.Owner e.2.2.1 d).bind λc=>some (c.1,c.2)
theorem Nj{l:Nat}{p c d e f g j:VL}{q:List aG}{k:List BY}{b:bE}(H:Sep w (Blk l 185 [p,d,e,f,g,j,c]::Row 107 aB p q::Row 9 kS c k::Fo) rs){r:dL×cR}(m:xR q k b=some r) :
    Cf 134 [pt l 0,.agg (cB b).toArray] w λv w'=>∃ s t,.tuple #[]=v/\Sep w' (Blk l 185 [s,d,e,f,g,j,t]::Row 107 aB s r.1::Row 9 kS t r.2::Fo) (rs):=by
 unfold xR at m;refine ent func134 z ntmps134 z z λa E=>sq<|bx E H z λu w a H E=>bx E H z λx w a H E=>nx<|ln 0 (cB b) E H U97 z mR λa E=>bd m λy n m=>xc2 E z (cf_ 213) (Kt H n)<|?_;rintro _ w ⟨A,rfl,H⟩ a E;refine al1 E H z z z z TL z λB w a H E=>ss 0 E H z TM z λw H=>nt<|dw [(6,0),(0,0),(1,1),(2,0),(3,0),(4,0),(5,1),(7,1),(8,2),(9,2),(10,2),(11,2)] [3] [] H (by kernel_rfl) (λ_ _ _ h=>False.elim h.2) λw W0 hI H=>fv E z (λw hW=>(nR E z z z)) λa E=>fb2 E m0 CL z λa E=>bW z<|lb2 E H 3 CL z λa E=>nt<|⟨sx H [3] z,fn 3 E z λa E=>bW z<|lb2 E H 4 U22 z λa E=>nt<|⟨sx H [3] z,bW z<|have H:=H.frs [6,5,5,4,4,5,6] z;bd m λC o m=>xc2 E z (cf_ 215) (L3 H o)<|?_⟩⟩
 rintro _ w ⟨D,F,rfl,H⟩ a E;refine nt<|⟨sx H [4] z,bK z<|pn 1 E z λa E=>bK z<|pn 1 E z λa E=>bK z<|pn 1 E z λa E=>bK z<|?_⟩
 obtain ⟨q28,G,rfl⟩:=H.rowform (i:=0) z;refine ss 5 E H z Tg z λw H=>nt<|bG<|?_;clear hI;refine xI E z<|have H:=H.drs [1,1,1,1];have H:=H.frs [2,1,2] z;?_;cases m;exact ⟨_,_,z,H.reads Y0⟩

def tH(b:Int×Int×BY×BY×Int×cR)(c:Bool):Option Ri:=
  if c=true then ((hZ 65).bind λd=>some (d,(ByteArray.mk #[]),(ByteArray.mk #[]),0,[])) else (some (b.2.1,b.2.2.1,b.2.2.2.1,b.2.2.2.2.1,b.2.2.2.2.2))
def xS(c:List aG)(g:Int)(i:BY)(j:BY)(k:Int)(d:List BY)(e:bE):Option Ri:=
  (iY c g i j k d e).bind λb=>if (decide (0 <= b.1))=true then ((idx c b.1).bind λf=>tH b (f.Owner != 0)) else (tH b false)
theorem Nk{g:Nat}{f s j:VL}{q:List aG}{A B:Int}{C D:BY}{t:List BY}{l:bE}(H:Sep w (Blk g 185 [f,j,.int .i64 A,.string C,.string D,.int .i64 B,s]::Row 107 aB f q::Row 9 kS s t::Fo) rs){r:Int×BY×BY×Int×cR}(m:xS q A C D B t l=some r) :
    Cf 125 [pt g 0,.agg (cB l).toArray] w λv w'=>∃ F,.tuple #[]=v/\Sep w' (Blk g 185 [f,j,.int .i64 r.1,.string r.2.1,.string r.2.2.1,.int .i64 r.2.2.2.1,F]::Row 107 aB f q::Row 9 kS F r.2.2.2.2::Fo) (rs):=by
 unfold xS at m;refine ent func125 z ntmps125 z z λa E=>sq<|bx E H z λI w a H E=>xp 1 E z λa E=>ln 0 (cB l) E H U97 z mR λa E=>have H:=H.frs [0,3,3,3] z;bd m λc x m=>xc2 E z (cf_ 202) (vB H x)<|?_;rintro _ w ⟨u,rfl,H⟩ a E;refine pn 1 E z λa E=>aL (λa w=>∃ n,Jn 19 a w [(0,pt g 0),(16,.bool n)] (Blk g 185 [f,j,.int .i64 c.2.1,.string c.2.2.1,.string c.2.2.2.1,.int .i64 c.2.2.2.2.1,u]::Row 107 aB f q::Row 9 kS u c.2.2.2.2.2::Fo) rs (tH c n=some r)) ?_ ?_
 ·refine wG<|pr 1 E z λa E=>sv2 E z (Qj E Rd Re z z z) λa E=>pr 1 E z λa E=>cs m (λb m=>?_) λb m=>?_
  ·refine pk 1 E (kc 10 z b) z λa E=>bd m λJ e m=>?_;obtain ⟨K,L,o⟩:=H.rowformNE (i:=1) z e;rw [Jw 5 o e] at E;exact pk 2 E (kc 10 z b) z λa E=>gv 10 E b z (uX (d:=aB) (i:=1) (k:=4) E H cM o z z z e z U2 z) λa E=>pk 2 E (kc 10 z b) z λa E=>nt<|have H:=H.drop 3;⟨_,_,E.to z,H,Y0,m⟩
  exact pk 6 E (kc 10 z b) z λa E=>nt<|have H:=H.drop 3;⟨_,_,E.to z,H,Y0,m⟩
 ·clear E H m;rintro a w ⟨n,G,E,H,p,m⟩;unfold tH at m;refine wif E m z (λm=>?_) λm=>?_
  ·refine wG<|pr 1 E z λa E=>bd m λM y m=>xk2 E z (cf_ 203) (sA H y) λw H a E=>wN<|xI E z<|have H:=H.nilRow 9 kS;have H:=H.drop 3;have H:=H.frs [0,2,2] z;?_;cases m;exact ⟨_,z,H.reads p⟩
  ·refine wK<|xI E z<|?_;cases m;exact ⟨_,z,H.reads p⟩

def zV(e:List aG)(f:Int)(g:BY)(i:BY)(j:Int)(c:List BY)(d:bE):Option Ri:=
  (iY e f g i j c d).bind λb=>some (b.2.1,b.2.2.1,b.2.2.2.1,b.2.2.2.2.1,b.2.2.2.2.2)
theorem Ro{g:Nat}{c d e:VL}{i:List aG}{k l:Int}{n o:BY}{f:List BY}{b:bE}(H:Sep w (Blk g 185 [c,e,.int .i64 k,.string n,.string o,.int .i64 l,d]::Row 107 aB c i::Row 9 kS d f::Fo) rs){r:Int×BY×BY×Int×cR}(m:zV i k n o l f b=some r) :
    Cf 132 [pt g 0,.agg (cB b).toArray] w λv w'=>∃ p,.tuple #[]=v/\Sep w' (Blk g 185 [c,e,.int .i64 r.1,.string r.2.1,.string r.2.2.1,.int .i64 r.2.2.2.1,p]::Row 107 aB c i::Row 9 kS p r.2.2.2.2::Fo) (rs):=by
 unfold zV at m;refine ent func132 z ntmps132 z z λa E=>sq<|bx E H z λq w a H E=>nt<|wG<|pr 1 E z λa E=>ln 0 (cB b) E H U97 z mR λa E=>have H:=H.frs [0,3,3,3] z;bd m λs j m=>xc2 E z (cf_ 202) (vB H j)<|?_;rintro _ w ⟨t,rfl,H⟩ a E;refine wN<|xI E z<|have H:=H.drop 3;?_;cases m;exact ⟨_,z,H.reads Y0⟩

def yR(c:List aG)(g:Int)(i:BY)(j:BY)(k:Int)(d:List BY)(e:bE):Option Ri:=
  (iY c g i j k d e).bind λb=>if (decide (0 <= b.1))=true then ((idx c b.1).bind λf=>some (b.2.1,b.2.2.1,b.2.2.2.1,f.Version,b.2.2.2.2.2)) else (some (b.2.1,b.2.2.1,b.2.2.2.1,b.2.2.2.2.1,b.2.2.2.2.2))
theorem Pg{n:Nat}{f g j:VL}{o:List aG}{q s:Int}{t u:BY}{l:List BY}{c:bE}(H:Sep w (Blk n 185 [f,j,.int .i64 q,.string t,.string u,.int .i64 s,g]::Row 107 aB f o::Row 9 kS g l::Fo) rs){r:Int×BY×BY×Int×cR}(m:yR o q t u s l c=some r) :
    Cf 130 [pt n 0,.agg (cB c).toArray] w λv w'=>∃ x,.tuple #[]=v/\Sep w' (Blk n 185 [f,j,.int .i64 r.1,.string r.2.1,.string r.2.2.1,.int .i64 r.2.2.2.1,x]::Row 107 aB f o::Row 9 kS x r.2.2.2.2::Fo) (rs):=by
 unfold yR at m;refine ent func130 z ntmps130 z z λa E=>sq<|bx E H z λy w a H E=>xp 1 E z λa E=>ln 0 (cB c) E H U97 z mR λa E=>have H:=H.frs [0,3,3,3] z;bd m λA p m=>xc2 E z (cf_ 202) (vB H p)<|?_;rintro _ w ⟨B,rfl,H⟩ a E;refine pr 1 E z λa E=>xp 1 E z λa E=>sv2 E z (Qj E Rd Re z z z) λa E=>nt<|wif E m z (λm=>?_) λm=>?_
 ·refine wG<|pr 2 E z λa E=>bd m λC b m=>?_;obtain ⟨D,F,e⟩:=H.rowformNE (i:=1) z b;rw [Jw 5 e b] at E;refine pr 2 E z λa E=>sv2 E z (uX (d:=aB) (i:=1) (k:=2) E H cM e z z z b z U2 z) λa E=>pr 3 E z λa E=>ss 0 E H z sz2 z λw H=>wN<|xI E z<|have H:=H.drop 3;?_;cases m;exact ⟨_,z,H.reads Y0⟩
 ·refine wK<|xI E z<|have H:=H.drop 3;?_;cases m;exact ⟨_,z,H.reads Y0⟩

def tI(rec_1:Int->cR->Option cR)(b:Int)(c:cR):Option cR:=
  rec_1 (IntKind.i64.wrap (b+1)) c
def kV(e:List aG)(d:Int×BY×BY×BY×Int×Int×Bool):Nat->Int->cR->Option cR
  | 0,_,_=>none
  | i+1,b,c=>
    if (decide (b < (e.length:Int)))=true then ((idx e b).bind λf=>(A4 f d.2.2.1).bind λj=>if j=true then ((w9 f.Path).bind λg=>(ck (c.length+([g]:List BY).length <= LIM)).bind λk=>tI (kV e d i) b (c ++ ([g]:List BY))) else (tI (kV e d i) b c)) else (some (c))
def xT(b:List aG)(c:List BY)(d:bE):Option cR:=
  (E9 d).bind λe=>kV b e (((b.length:Int) - 0:Int).toNat+1) 0 c
theorem Nl{k:Nat}{c J p q s t u:VL}{f:List aG}{K:List BY}{B:bE}(H:Sep w (Blk k 185 [c,p,q,s,t,u,J]::Row 107 aB c f::Row 9 kS J K::Fo) rs){r:cR}(m:xT f K B=some r) :
    Cf 133 [pt k 0,.agg (cB B).toArray] w λv w'=>∃ Q,.tuple #[]=v/\Sep w' (Blk k 185 [c,p,q,s,t,u,Q]::Row 107 aB c f::Row 9 kS Q r::Fo) (rs):=by
 unfold xT at m;refine ent func133 z ntmps133 z z λa E=>sq<|bx E H z λT w a H E=>nx<|ln 0 (cB B) E H U97 z mR λa E=>bd m λb L m=>xc2 E z (cf_ 213) (Kt H L)<|?_;rintro _ w ⟨y,rfl,H⟩ a E;refine pr 1 E z λa E=>xp 4 E z λa E=>lb2 E H 2 U22 z λa E=>sv2 E z (lQ (i:=3) E H z z z U22) λa E=>pn 1 E z λa E=>wB<|bF (λl a w=>∃ C j D,Jn 37 a w [(0,pt k 0),(4,.func (.func 283) #[] #[pt y 0]),(13,c),(14,.int .i64 (f.length:Int)),(15,.int .i64 j)] (Blk k 185 [c,p,q,s,t,u,C]::Blk y 97 [.int .i64 b.1,.string b.2.1,.string b.2.2.1,.string b.2.2.2.1,.int .i64 b.2.2.2.2.1,.int .i64 b.2.2.2.2.2.1,.bool b.2.2.2.2.2.2]::Row 107 aB c f::Row 9 kS C D::Fo) rs (kV f b l j D=some r)) (((f.length:Int) - 0:Int).toNat+1) ?_ ?_
 ·exact have H:=H.drop 1;have H:=H.frs [3,3,2,3] z;X4 ⟨E.to z,H,Y0,m⟩
 ·clear E H m;rintro l a w ⟨C,j,D,R,E,H,n,m⟩;cases l with
  | zero=>exact (bD m z).elim
  | succ l=>
   unfold kV at m;refine sq<|pn 1 E z λa E=>wS<|wif E m z (λm=>?_) λm=>?_
   ·refine wK<|aA<|aL (λa w=>∃ F G,Jn 37 a w [(0,pt k 0),(4,.func (.func 283) #[] #[pt y 0]),(13,c),(14,.int .i64 (f.length:Int)),(15,.int .i64 j)] (Blk k 185 [c,p,q,s,t,u,F]::Blk y 97 [.int .i64 b.1,.string b.2.1,.string b.2.2.1,.string b.2.2.2.1,.int .i64 b.2.2.2.2.1,.int .i64 b.2.2.2.2.2.1,.bool b.2.2.2.2.2.2]::Row 107 aB c f::Row 9 kS F G::Fo) rs (tI (kV f b l) j G=some r)) ?_ ?_
    ·refine wB<|sq<|bd m λg o m=>?_;obtain ⟨U,V,I⟩:=H.rowformNE (i:=2) z o;refine sv2 E z (dP (d:=aB) E I z z z z U22 gM o) λa E=>sv2 E z (kJ (i:=2) E H cM I z z z o (us:=[.string g.Path,.string g.Data,.int .i64 g.Version,.int .i64 g.Turn,.int .i64 g.Owner]) z w6 z gM) λa E=>al2 E H z CM λW w a H E=>ss 0 E H z gM z λw H=>xp 1 E z λa E=>ln 0 (nT g) E H w6 z gM λa E=>have H:=H.frs [4,4,3,3,4] z;bd m λX M m=>bI E (wn z) z z (bO E z z z ((cf_ 283) _)) (Fq H M)<|?_;rintro _ w ⟨rfl,H⟩ a E;refine nt<|wif E m z (λm=>?_) λm=>?_
     ·refine dz [0,0,0,0,0,0,0,0,1,1,1,2,2,2,2] [1,2] H λw W0 hI H=>fn 5 E z λa E=>fb2 E mm1 U33 z λa E=>fn 1 E z λa E=>fb2 E m0 U9 z λa E=>bW z<|bd m λA N m=>xk2 E z (cf_ 207) (Fi H N) λw H a E=>nt<|⟨sx H [1,2] z,bW z<|sD (e:=9) (d:=kS) (cs:=[.string A]) (xs:=[A]) E H (wn z) z z z (E.evs z) (by kernel_rfl) z (λok hr=>(Rows.single (d:=kS) (cs:=[.string A]) (x:=A) z)) λY w a H E=>nt<|⟨sx H [1,2] z,bW z<|bk m λO m=>eF (i:=4) E H (wn z) z z z z z z (lH m0) U33 Kh z O z λZ w a H E=>nt<|⟨sx H [1,2] z,bK z<|pn 1 E z λa E=>bK z<|pn 1 E z λa E=>bK z<|pn 1 E z λa E=>bK z<|?_⟩⟩⟩
      obtain ⟨q45,b0,rfl⟩:=H.rowform (i:=4) z;refine ss 2 E H z PV z λw H=>nt<|bG<|?_;clear hI;exact bM<|aA<|have H:=H.drop 1;have H:=H.frs [3,3,2,3] z;X3 ⟨E.to z,H,(Y1 n),m⟩
     exact wK<|bM<|aA<|have H:=H.drop 1;have H:=H.frs [3,3,2,3] z;X3 ⟨E.to z,H,n,m⟩
    clear E H m;rintro a w ⟨F,G,S,E,H,P,m⟩;unfold tI at m;exact wG<|pn 2 E z λa E=>⟨l,nL l,X4 ⟨E.to z,H,P,m⟩⟩
   ·refine wX<|aT<|aT<|cL<|xI E z<|have H:=H.drop 1;?_;cases m;exact ⟨_,z,H.reads n⟩

def yS(d:List aG)(g:Int)(i:BY)(j:BY)(k:Int)(e:List BY)(f:bE):Option Ri:=
  (iY d g i j k e f).bind λb=>if (decide (0 <= b.1))=true then ((idx d b.1).bind λc=>some (b.2.1,b.2.2.1,c.Data,c.Version,b.2.2.2.2.2)) else (some (b.2.1,b.2.2.1,b.2.2.2.1,b.2.2.2.2.1,b.2.2.2.2.2))
theorem Ph{n:Nat}{f g j:VL}{o:List aG}{q s:Int}{t u:BY}{l:List BY}{e:bE}(H:Sep w (Blk n 185 [f,j,.int .i64 q,.string t,.string u,.int .i64 s,g]::Row 107 aB f o::Row 9 kS g l::Fo) rs){r:Int×BY×BY×Int×cR}(m:yS o q t u s l e=some r) :
    Cf 131 [pt n 0,.agg (cB e).toArray] w λv w'=>∃ x,.tuple #[]=v/\Sep w' (Blk n 185 [f,j,.int .i64 r.1,.string r.2.1,.string r.2.2.1,.int .i64 r.2.2.2.1,x]::Row 107 aB f o::Row 9 kS x r.2.2.2.2::Fo) (rs):=by
 unfold yS at m;refine ent func131 z ntmps131 z z λa E=>sq<|bx E H z λy w a H E=>xp 1 E z λa E=>ln 0 (cB e) E H U97 z mR λa E=>have H:=H.frs [0,3,3,3] z;bd m λA p m=>xc2 E z (cf_ 202) (vB H p)<|?_;rintro _ w ⟨B,rfl,H⟩ a E;refine pr 1 E z λa E=>xp 1 E z λa E=>sv2 E z (Qj E Rd Re z z z) λa E=>nt<|wif E m z (λm=>?_) λm=>?_
 ·refine dz [0,0,0,0,0,0,0,0,0,0,0,0,0,1,2,2,2,2] [1] H λw W0 hI H=>fn 3 E z λa E=>bd m λC b m=>?_;obtain ⟨D,F,c⟩:=H.rowformNE (i:=1) z b;rw [Jw 5 c b] at E;refine fn 2 E z λa E=>fv E z (λw hW=>Oj (d:=aB) (k:=1) E cM c b m0 z z z U9 z hW) λa E=>fn 3 E z λa E=>fv E z (λw hW=>Oj (d:=aB) (k:=2) E cM c b m0 z z z U2 z hW) λa E=>fn 3 E z λa E=>bW z<|ss 0 E H z sz9 z λw H=>nt<|⟨sx H [1] z,bK z<|pn 1 E z λa E=>bK z<|pn 1 E z λa E=>bK z<|pn 1 E z λa E=>bK z<|ss 0 E H z sz2 z λw H=>nt<|bG<|?_⟩
  clear hI;refine xI E z<|have H:=H.drop 3;?_;cases m;exact ⟨_,z,H.reads Y0⟩
 ·refine wK<|xI E z<|have H:=H.drop 3;?_;cases m;exact ⟨_,z,H.reads Y0⟩

def wD(d:List aG)(g:Int)(i:BY)(j:BY)(k:Int)(f:List BY)(e:bE):Option QW:=
  (iY d g i j k f e).bind λb=>if (decide (0 <= b.1))=true then ((nO d e.Path).bind λc=>(ck (0 <= c.1/\c.1 < d.length/\IntKind.i64.wrap (c.1+1)=c.1+1)).bind λl=>some (d.eraseIdx c.1.toNat,b.2.1,b.2.2.1,b.2.2.2.1,b.2.2.2.2.1,b.2.2.2.2.2)) else (some (d,b.2.1,b.2.2.1,b.2.2.2.1,b.2.2.2.2.1,b.2.2.2.2.2))
theorem Ku{f:Nat}{l c d:VL}{n:List aG}{o p:Int}{q s:BY}{e:List BY}{b:bE}(H:Sep w (Blk f 185 [l,d,.int .i64 o,.string q,.string s,.int .i64 p,c]::Row 107 aB l n::Row 9 kS c e::Fo) rs){r:dL×Int×BY×BY×Int×cR}(m:wD n o q s p e b=some r) :
    Cf 127 [pt f 0,.agg (cB b).toArray] w λv w'=>∃ t u,.tuple #[]=v/\Sep w' (Blk f 185 [t,d,.int .i64 r.2.1,.string r.2.2.1,.string r.2.2.2.1,.int .i64 r.2.2.2.2.1,u]::Row 107 aB t r.1::Row 9 kS u r.2.2.2.2.2::Fo) (rs):=by
 unfold wD at m;refine ent func127 z ntmps127 z z λa E=>sq<|bx E H z λx w a H E=>xp 1 E z λa E=>ln 0 (cB b) E H U97 z mR λa E=>have H:=H.frs [0,3,3,3] z;bd m λy g m=>xc2 E z (cf_ 202) (vB H g)<|?_;rintro _ w ⟨A,rfl,H⟩ a E;refine sv2 E z (Qj E Rd Re z z z) λa E=>nt<|wif E m z (λm=>?_) λm=>?_
 ·refine sp 2 E z λa E=>lb2 E H 3 U9 z λa E=>bd m λB j m=>xk2 E z (cf_ 209) (Q7 H j) λw H a E=>pn 5 E z λa E=>wG<|pr 5 E z λa E=>lb2 E H 0 U22 z λa E=>pr 3 E z λa E=>bk m λk m=>xc2 E z (cf_ 212) (delete_c (ix:=1) H z k) λC w H a E=>pr 3 E z λa E=>?_;obtain ⟨q23,D,rfl⟩:=H.rowform (i:=1) z;refine ss 0 E H z Tg z λw H=>wN<|xI E z<|have H:=H.drop 3;?_;cases m;exact ⟨_,_,z,H.reads Y0⟩
 ·refine wK<|xI E z<|have H:=H.drop 3;?_;cases m;exact ⟨_,_,z,H.reads Y0⟩

def dR(c:List aG)(d:BY):Nat->Int->Option Int
  | 0,_=>none
  | f+1,b=>
    if (decide (b < (c.length:Int)))=true then ((idx c b).bind λx20=>(A4 x20 d).bind λe=>if e=true then (some (b)) else (dR c d f (IntKind.i64.wrap (b+1)))) else (some ((-1)))
def jF(b:List aG)(c:BY):Option Int:=
  dR b c (((b.length:Int) - 0:Int).toNat+1) 0
theorem K1{g j k l n o p:VL}{b:List aG}{q:Nat}{s:BY}(H:Sep w (Row 107 aB g b::Blk q 97 [j,k,.string s,l,n,o,p]::Fo) rs){r:Int}(m:jF b s=some r) :
    Cf 142 [g,.func (.func 283) #[] #[pt q 0]] w λv w'=>.int .i64 r=v/\Sep w' (Blk q 97 [j,k,.string s,l,n,o,p]::Row 107 aB g b::Fo) (rs):=by
 unfold jF at m;refine ent func142 z ntmps142 z z λa E=>sq<|pn 1 E z λa E=>wS<|sp 1 E z λa E=>sv2 E z (lQ (i:=0) E H z z z U22) λa E=>pr 1 E z λa E=>nt<|wB<|bF (λf a w=>∃ t,Jn 19 a w [(0,g),(1,.func (.func 283) #[] #[pt q 0]),(7,.int .i64 (b.length:Int)),(8,.int .i64 t)] (Row 107 aB g b::Blk q 97 [j,k,.string s,l,n,o,p]::Fo) rs (dR b s f t=some r)) (((b.length:Int) - 0:Int).toNat+1) ?_ ?_
 ·exact ⟨_,_,E.to z,H,Y0,m⟩
 ·clear E H m;rintro f a w ⟨t,y,E,H,c,m⟩;cases f with
  | zero=>exact (bD m z).elim
  | succ f=>
   unfold dR at m;refine sq<|pn 1 E z λa E=>wS<|wif E m z (λm=>?_) λm=>?_
   ·refine wK<|aA<|wS<|wB<|sp 2 E z λa E=>xp 3 E z λa E=>bd m λx20 e m=>?_;obtain ⟨A,B,u⟩:=H.rowformNE (i:=0) z e;refine sv2 E z (dP (d:=aB) E u z z z z U22 gM e) λa E=>sv2 E z (kJ (i:=0) E H cM u z z z e (us:=[.string x20.Path,.string x20.Data,.int .i64 x20.Version,.int .i64 x20.Turn,.int .i64 x20.Owner]) z w6 z gM) λa E=>have H:=H.frs [0,1] z;bd m λC x m=>bI E (wn z) z z (bO E z z z ((cf_ 283) _)) (Fq H x)<|?_;rintro _ w ⟨rfl,H⟩ a E;refine nt<|wif E m z (λm=>?_) λm=>?_
    ·refine sq<|pn 2 E z λa E=>wR<|bJ<|aH<|aH<|bJ<|aH<|o1 E z<|?_;cases m;exact ⟨z,H.reads c⟩
    exact wK<|bM<|aA<|wG<|pn 2 E z λa E=>have H:=H.frs [0,1] z;⟨f,nL f,_,_,E.to z,H,c,m⟩
   ·refine wX<|aT<|aT<|cL<|aA<|sq<|pn 1 E z λa E=>wR<|o1 E z<|have H:=H.frs [0,1] z;?_;cases m;exact ⟨z,H.reads c⟩

def fS(c:List aG)(d:BY):Option Bool:=
  (jF c d).bind λb=>some (decide (b ≥ 0))
theorem E5{i b c d e f g:VL}{j:List aG}{k:Nat}{l:BY}(H:Sep w (Row 107 aB i j::Blk k 97 [b,c,.string l,d,e,f,g]::Fo) rs){r:Bool}(m:fS j l=some r) :
    Cf 78 [i,.func (.func 283) #[] #[pt k 0]] w λv w'=>.bool r=v/\Sep w' (Blk k 97 [b,c,.string l,d,e,f,g]::Row 107 aB i j::Fo) (rs):=by
 unfold fS at m;refine ent func78 z ntmps78 z z λa E=>sp 1 E z λa E=>xp 2 E z λa E=>bd m λo n m=>xk2 E z (cf_ 142) (K1 H n) λw H a E=>pn 2 E z λa E=>wR<|o1 E z<|?_;cases m;exact ⟨z,H.reads Y0⟩

def K2:Option Unit:=
  some ()
theorem Jj{b:VL}(H:Sep w (Fo) rs){r:Unit}(m:K2=some r) :
    Cf 214 [b] w λv w'=>.int .i64 0=v/\Sep w' (Fo) (rs):=by
 unfold K2 at m;refine ent func214 z ntmps214 z z λa E=>sp 1 E z λa E=>nx<|pn 1 E z λa E=>wR<|o1 E z<|?_;cases m;exact ⟨z,H.reads Y0⟩

def uQ(b:aM)(c:dO):Option Cr:=
  some (b.Next,c)
def qW(b:Int×Bool)(c:dO):Option Cr:=
  (idx c b.1).bind λe=>K2.bind λg=>(idx c b.1).bind λd=>(idx (c.set b.1.toNat ({ d with Next:=0 }:aM)) b.1).bind λf=>if (f.Next == 0)=true then ((ck (0 <= b.1/\b.1 < (c.set b.1.toNat ({ d with Next:=0 }:aM)).length/\IntKind.i64.wrap (b.1+1)=b.1+1)).bind λi=>uQ e ((c.set b.1.toNat ({ d with Next:=0 }:aM)).eraseIdx b.1.toNat)) else (uQ e (c.set b.1.toNat ({ d with Next:=0 }:aM)))
def yT(c:List aM)(d:BY):Option Cr:=
  (cH c d).bind λb=>if (!b.2)=true then ((ck (0 <= b.1/\b.1 <= c.length/\c.length <= 1000000)).bind λe=>qW b (c.take b.1.toNat ++ (⟨d,0⟩:aM)::c.drop b.1.toNat)) else (qW b c)
theorem Pi{s:Nat}{O j l n o p q:VL}{P:List aM}{b:BY}(H:Sep w (Blk s 185 [j,O,l,n,o,p,q]::Row 89 aC O P::Fo) rs){r:Int×dO}(m:yT P b=some r) :
    Cf 204 [pt s 0,.string b,.func (.func 214) #[] #[]] w λv w'=>∃ Q,.int .i64 r.1=v/\Sep w' (Blk s 185 [j,Q,l,n,o,p,q]::Row 89 aC Q r.2::Fo) (rs):=by
 unfold yT at m;refine ent func204 z ntmps204 z z λa E=>sp 1 E z λa E=>xp 4 E z λa E=>lb2 E H 0 U23 z λa E=>pr 1 E z λa E=>have H:=H.frs [0,1] z;bd m λG J m=>xk2 E z (cf_ 274) (iG H J) λw H a E=>pn 5 E z λa E=>aL (λa w=>∃ t u,Jn 80 a w [(0,pt s 0),(2,.func (.func 214) #[] #[]),(7,.int .i64 G.1)] (Blk s 185 [j,t,l,n,o,p,q]::Row 89 aC t u::Fo) rs (qW G u=some r)) ?_ ?_
 ·refine sq<|pn 2 E z λa E=>wif E m z (λm=>?_) λm=>?_
  ·refine wG<|pr 5 E z λa E=>lb2 E H 1 U23 z λa E=>pr 2 E z λa E=>sv2 E z (cN E z (E.evs z) (v:=.agg #[.string b,.int .i64 0]) (by kernel_rfl)) λa E=>kH (e:=89) (d:=aC) (cs:=[.string b,.int .i64 0]) (xs:=[(⟨b,0⟩:aM)]) E H (wn z) z z z (E.evs z) (by kernel_rfl) z z (λok hr=>(Rows.single (d:=aC) (cs:=[.string b,.int .i64 0]) (x:=(⟨b,0⟩:aM)) zH)) λU w a H E=>bk m λK m=>xc2 E z (cf_ 276) (Tn.insert_a (ix:=1) (iu:=0) H z z (by decide) K) λV w H a E=>pr 3 E z λa E=>?_;obtain ⟨q55,W,rfl⟩:=H.rowform (i:=1) z;exact ss 2 E H z Hn z λw H=>nt<|have H:=H.drop 0;have H:=H.frs [0,1] z;X3 ⟨E.to z,H,Y0,m⟩
  exact wK<|aA<|have H:=H.frs [0,1] z;X3 ⟨E.to z,H,Y0,m⟩
 ·clear E H m;rintro a w ⟨t,u,S,E,H,y,m⟩;unfold qW at m;refine sp 4 E z λa E=>lb2 E H 0 U23 z λa E=>pr 1 E z λa E=>bd m λI c m=>?_;obtain ⟨X,Y,A⟩:=H.rowformNE (i:=1) z c;refine sv2 E z (dP (d:=aC) E A z z z z U23 rF c) λa E=>pr 1 E z λa E=>sv2 E z (uX (d:=aC) (i:=1) (k:=1) E H eD A z z z c z U2 z) λa E=>pn 1 E z λa E=>aL (λa w=>∃ B C,Jn 80 a w [(9,.int .i64 I.Next)] (Blk s 185 [j,B,l,n,o,p,q]::Row 89 aC B C::Fo) rs (uQ I C=some r)) ?_ ?_
  ·refine wS<|dz [0,0,0,0,0,0,0,0,1,2,2,2] [0] H λw W0 hI H=>fn 4 E z λa E=>fb2 E m0 U23 z λa E=>fn 3 E z λa E=>bW z<|bd m λZ L m=>bI E (wn z) z z (bO E z z z ((cf_ 214) _)) (Jj H L)<|?_;rintro _ w ⟨rfl,H⟩ a E;refine nt<|⟨sx H [0] z,bK z<|bd m λR f m=>?_⟩
   obtain ⟨b0,b1,D⟩:=H.rowformNE (i:=1) z f;refine sv2 E z (dP (d:=aC) E D z z z z U23 rF f) λa E=>nt<|bK z<|pn 1 E z λa E=>bK z<|Br (d:=aC) (i:=1) (k:=1) (z':=({ R with Next:=0 }:aM)) E H eD (wn z) z D z z z z z z f z z sz2 λw H=>nt<|bG<|?_;clear hI;refine aA<|sp 4 E z λa E=>lb2 E H 0 U23 z λa E=>pr 1 E z λa E=>bd m λb2 g m=>?_;obtain ⟨b3,b4,F⟩:=H.rowformNE (i:=1) z g;refine sv2 E z (dP (d:=aC) E F z z z z U23 rF g) λa E=>pr 1 E z λa E=>sv2 E z (uX (d:=aC) (i:=1) (k:=1) E H eD F z z z g z U2 z) λa E=>pn 1 E z λa E=>wif E m z (λm=>?_) λm=>?_
   ·refine wG<|pr 5 E z λa E=>lb2 E H 0 U23 z λa E=>pr 3 E z λa E=>bk m λM m=>xc2 E z (cf_ 277) (Tn.delete_c (ix:=1) H z M) λb5 w H a E=>pr 3 E z λa E=>?_;obtain ⟨q49,b6,rfl⟩:=H.rowform (i:=1) z;exact ss 0 E H z Hn z λw H=>nt<|X3 ⟨E.to z,H,y,m⟩
   exact wK<|aA<|X3 ⟨E.to z,H,y,m⟩
  ·clear E H m;rintro a w ⟨B,C,T,E,H,N,m⟩;unfold uQ at m;refine sq<|pn 2 E z λa E=>wR<|o1 E z<|?_;cases m;exact ⟨_,z,H.reads N⟩

def B5(j:List aG)(c:List aM)(k:Int)(l:BY)(m:BY)(n:Int)(d:List BY)(b:bE):Option (dO×Int×BY×BY×Int×cR):=
  (E9 b).bind λe=>(fS j e.2.2.1).bind λf=>if f=true then ((hZ 64).bind λg=>some (c,g,(ByteArray.mk #[]),(ByteArray.mk #[]),0,[])) else ((yT c b.Path).bind λi=>some (i.2,k,l,m,n,d))
theorem Nm{f:Nat}{c n d:VL}{g:List aG}{o:List aM}{p q:Int}{s t:BY}{e:List BY}{b:bE}(H:Sep w (Blk f 185 [c,n,.int .i64 p,.string s,.string t,.int .i64 q,d]::Row 107 aB c g::Row 89 aC n o::Row 9 kS d e::Fo) rs){r:dO×Int×BY×BY×Int×cR}(m:B5 g o p s t q e b=some r) :
    Cf 128 [pt f 0,.agg (cB b).toArray] w λv w'=>∃ u x,.tuple #[]=v/\Sep w' (Blk f 185 [c,u,.int .i64 r.2.1,.string r.2.2.1,.string r.2.2.2.1,.int .i64 r.2.2.2.2.1,x]::Row 107 aB c g::Row 89 aC u r.1::Row 9 kS x r.2.2.2.2.2::Fo) (rs):=by
 unfold B5 at m;refine ent func128 z ntmps128 z z λa E=>sq<|bx E H z λy w a H E=>nt<|wS<|wS<|dz [0,0,0,0,0,0,1,1] [0,1] H λw W0 hI H=>fn 4 E z λa E=>fb2 E mm1 U22 z λa E=>fbn E (cB b) z (wn z) z z z z m0 z U97 z mR λa E=>bW z<|bd m λA i m=>xc2 E z (cf_ 213) (Kt H i)<|?_;rintro _ w ⟨B,rfl,H⟩ a E;refine nt<|⟨sx H [1,2] z,bW z<|have H:=H.frs [5,5,4,4,4,5] z;bd m λC j m=>xk2 E z (cf_ 78) (E5 H j) λw H a E=>nt<|⟨sx H [2,3] z,bG<|?_⟩⟩
 clear hI;refine aA<|wif E m z (λm=>?_) λm=>?_
 ·refine sp 1 E z λa E=>have H:=H.frs [5,5,4,4,4,5] z;bd m λD k m=>xk2 E z (cf_ 203) (sA H k) λw H a E=>nt<|wR<|aH<|Qa E z<|have H:=H.nilRow 9 kS;have H:=H.drs [2,3,4];have H:=H.frs [0,3,3,3] z;?_;cases m;exact ⟨_,_,z,H.reads Y0⟩
 ·refine wK<|aA<|wG<|pr 2 E z λa E=>lb2 E H 2 U9 z λa E=>have H:=H.frs [5,3,3,3,5,5] z;bd m λF l m=>xc2 E z (cf_ 204) (Pi H l)<|?_;rintro _ w ⟨G,rfl,H⟩ a E;refine wN<|xI E z<|have H:=H.drs [2,3];have H:=H.frs [3,2,3,3] z;?_;cases m;exact ⟨_,_,z,H.reads Y0⟩

def B6(x1:Int):Option Int:=
  some (x1)
theorem Nn{x1:Int}(H:Sep w (Fo) rs){r:Int}(m:B6 x1=some r) :
    Cf 205 [.int .i64 x1] w λv w'=>.int .i64 r=v/\Sep w' (Fo) (rs):=by
 unfold B6 at m;refine ent func205 z ntmps205 z z λa E=>sp 1 E z λa E=>nx<|pn 2 E z λa E=>wR<|o1 E z<|?_;cases m;exact ⟨z,H.reads Y0⟩

def sH(b:aM)(c:dO):Option Cr:=
  some (b.Next,c)
def oF(b:Int×Bool)(c:dO):Option Cr:=
  (idx c b.1).bind λf=>(B6 f.Next).bind λd=>(idx c b.1).bind λe=>(idx (c.set b.1.toNat ({ e with Next:=d }:aM)) b.1).bind λg=>if (g.Next == 0)=true then ((ck (0 <= b.1/\b.1 < (c.set b.1.toNat ({ e with Next:=d }:aM)).length/\IntKind.i64.wrap (b.1+1)=b.1+1)).bind λi=>sH f ((c.set b.1.toNat ({ e with Next:=d }:aM)).eraseIdx b.1.toNat)) else (sH f (c.set b.1.toNat ({ e with Next:=d }:aM)))
def wE(c:List aM)(d:BY):Option Cr:=
  (cH c d).bind λb=>if (!b.2)=true then ((ck (0 <= b.1/\b.1 <= c.length/\c.length <= 1000000)).bind λe=>oF b (c.take b.1.toNat ++ (⟨d,0⟩:aM)::c.drop b.1.toNat)) else (oF b c)
theorem Kv{s:Nat}{O j l n o p q:VL}{P:List aM}{b:BY}(H:Sep w (Blk s 185 [j,O,l,n,o,p,q]::Row 89 aC O P::Fo) rs){r:Int×dO}(m:wE P b=some r) :
    Cf 204 [pt s 0,.string b,.func (.func 205) #[] #[]] w λv w'=>∃ Q,.int .i64 r.1=v/\Sep w' (Blk s 185 [j,Q,l,n,o,p,q]::Row 89 aC Q r.2::Fo) (rs):=by
 unfold wE at m;refine ent func204 z ntmps204 z z λa E=>sp 1 E z λa E=>xp 4 E z λa E=>lb2 E H 0 U23 z λa E=>pr 1 E z λa E=>have H:=H.frs [0,1] z;bd m λG J m=>xk2 E z (cf_ 274) (iG H J) λw H a E=>pn 5 E z λa E=>aL (λa w=>∃ t u,Jn 80 a w [(0,pt s 0),(2,.func (.func 205) #[] #[]),(7,.int .i64 G.1)] (Blk s 185 [j,t,l,n,o,p,q]::Row 89 aC t u::Fo) rs (oF G u=some r)) ?_ ?_
 ·refine sq<|pn 2 E z λa E=>wif E m z (λm=>?_) λm=>?_
  ·refine wG<|pr 5 E z λa E=>lb2 E H 1 U23 z λa E=>pr 2 E z λa E=>sv2 E z (cN E z (E.evs z) (v:=.agg #[.string b,.int .i64 0]) (by kernel_rfl)) λa E=>kH (e:=89) (d:=aC) (cs:=[.string b,.int .i64 0]) (xs:=[(⟨b,0⟩:aM)]) E H (wn z) z z z (E.evs z) (by kernel_rfl) z z (λok hr=>(Rows.single (d:=aC) (cs:=[.string b,.int .i64 0]) (x:=(⟨b,0⟩:aM)) zH)) λV w a H E=>bk m λK m=>xc2 E z (cf_ 276) (Tn.insert_a (ix:=1) (iu:=0) H z z (by decide) K) λW w H a E=>pr 3 E z λa E=>?_;obtain ⟨q55,X,rfl⟩:=H.rowform (i:=1) z;exact ss 2 E H z Hn z λw H=>nt<|have H:=H.drop 0;have H:=H.frs [0,1] z;X3 ⟨E.to z,H,Y0,m⟩
  exact wK<|aA<|have H:=H.frs [0,1] z;X3 ⟨E.to z,H,Y0,m⟩
 ·clear E H m;rintro a w ⟨t,u,T,E,H,y,m⟩;unfold oF at m;refine sp 4 E z λa E=>lb2 E H 0 U23 z λa E=>pr 1 E z λa E=>bd m λI c m=>?_;obtain ⟨Y,Z,A⟩:=H.rowformNE (i:=1) z c;refine sv2 E z (dP (d:=aC) E A z z z z U23 rF c) λa E=>pr 1 E z λa E=>sv2 E z (uX (d:=aC) (i:=1) (k:=1) E H eD A z z z c z U2 z) λa E=>pn 1 E z λa E=>aL (λa w=>∃ B C,Jn 80 a w [(9,.int .i64 I.Next)] (Blk s 185 [j,B,l,n,o,p,q]::Row 89 aC B C::Fo) rs (sH I C=some r)) ?_ ?_
  ·refine wS<|dz [0,0,0,0,0,0,0,0,1,2,2,2] [0] H λw W0 hI H=>fn 4 E z λa E=>fb2 E m0 U23 z λa E=>fn 3 E z λa E=>bW z<|bd m λR L m=>bI E (wn z) z z (bO E z z z ((cf_ 205) _)) (Nn H L)<|?_;rintro _ w ⟨rfl,H⟩ a E;refine nt<|⟨sx H [0] z,bK z<|bd m λS f m=>?_⟩
   obtain ⟨b0,b1,D⟩:=H.rowformNE (i:=1) z f;refine sv2 E z (dP (d:=aC) E D z z z z U23 rF f) λa E=>nt<|bK z<|pn 1 E z λa E=>bK z<|Br (d:=aC) (i:=1) (k:=1) (z':=({ S with Next:=R }:aM)) E H eD (wn z) z D z z z z z z f z z sz2 λw H=>nt<|bG<|?_;clear hI;refine aA<|sp 4 E z λa E=>lb2 E H 0 U23 z λa E=>pr 1 E z λa E=>bd m λb2 g m=>?_;obtain ⟨b3,b4,F⟩:=H.rowformNE (i:=1) z g;refine sv2 E z (dP (d:=aC) E F z z z z U23 rF g) λa E=>pr 1 E z λa E=>sv2 E z (uX (d:=aC) (i:=1) (k:=1) E H eD F z z z g z U2 z) λa E=>pn 1 E z λa E=>wif E m z (λm=>?_) λm=>?_
   ·refine wG<|pr 5 E z λa E=>lb2 E H 0 U23 z λa E=>pr 3 E z λa E=>bk m λM m=>xc2 E z (cf_ 277) (Tn.delete_c (ix:=1) H z M) λb5 w H a E=>pr 3 E z λa E=>?_;obtain ⟨q49,b6,rfl⟩:=H.rowform (i:=1) z;exact ss 0 E H z Hn z λw H=>nt<|X3 ⟨E.to z,H,y,m⟩
   exact wK<|aA<|X3 ⟨E.to z,H,y,m⟩
  ·clear E H m;rintro a w ⟨B,C,U,E,H,N,m⟩;unfold sH at m;refine sq<|pn 2 E z λa E=>wR<|o1 E z<|?_;cases m;exact ⟨_,z,H.reads N⟩

def B7(x1:Int):Option Int:=
  some (IntKind.i64.wrap (x1+1))
theorem Np{x1:Int}(H:Sep w (Fo) rs){r:Int}(m:B7 x1=some r) :
    Cf 210 [.int .i64 x1] w λv w'=>.int .i64 r=v/\Sep w' (Fo) (rs):=by
 unfold B7 at m;refine ent func210 z ntmps210 z z λa E=>sp 1 E z λa E=>nx<|pn 3 E z λa E=>wR<|o1 E z<|?_;cases m;exact ⟨z,H.reads Y0⟩

def sI(b:aM)(c:dO):Option Cr:=
  some (b.Next,c)
def oG(b:Int×Bool)(c:dO):Option Cr:=
  (idx c b.1).bind λf=>(B7 f.Next).bind λd=>(idx c b.1).bind λe=>(idx (c.set b.1.toNat ({ e with Next:=d }:aM)) b.1).bind λg=>if (g.Next == 0)=true then ((ck (0 <= b.1/\b.1 < (c.set b.1.toNat ({ e with Next:=d }:aM)).length/\IntKind.i64.wrap (b.1+1)=b.1+1)).bind λi=>sI f ((c.set b.1.toNat ({ e with Next:=d }:aM)).eraseIdx b.1.toNat)) else (sI f (c.set b.1.toNat ({ e with Next:=d }:aM)))
def wF(c:List aM)(d:BY):Option Cr:=
  (cH c d).bind λb=>if (!b.2)=true then ((ck (0 <= b.1/\b.1 <= c.length/\c.length <= 1000000)).bind λe=>oG b (c.take b.1.toNat ++ (⟨d,0⟩:aM)::c.drop b.1.toNat)) else (oG b c)
theorem Kw{s:Nat}{O j l n o p q:VL}{P:List aM}{b:BY}(H:Sep w (Blk s 185 [j,O,l,n,o,p,q]::Row 89 aC O P::Fo) rs){r:Int×dO}(m:wF P b=some r) :
    Cf 204 [pt s 0,.string b,.func (.func 210) #[] #[]] w λv w'=>∃ Q,.int .i64 r.1=v/\Sep w' (Blk s 185 [j,Q,l,n,o,p,q]::Row 89 aC Q r.2::Fo) (rs):=by
 unfold wF at m;refine ent func204 z ntmps204 z z λa E=>sp 1 E z λa E=>xp 4 E z λa E=>lb2 E H 0 U23 z λa E=>pr 1 E z λa E=>have H:=H.frs [0,1] z;bd m λG J m=>xk2 E z (cf_ 274) (iG H J) λw H a E=>pn 5 E z λa E=>aL (λa w=>∃ t u,Jn 80 a w [(0,pt s 0),(2,.func (.func 210) #[] #[]),(7,.int .i64 G.1)] (Blk s 185 [j,t,l,n,o,p,q]::Row 89 aC t u::Fo) rs (oG G u=some r)) ?_ ?_
 ·refine sq<|pn 2 E z λa E=>wif E m z (λm=>?_) λm=>?_
  ·refine wG<|pr 5 E z λa E=>lb2 E H 1 U23 z λa E=>pr 2 E z λa E=>sv2 E z (cN E z (E.evs z) (v:=.agg #[.string b,.int .i64 0]) (by kernel_rfl)) λa E=>kH (e:=89) (d:=aC) (cs:=[.string b,.int .i64 0]) (xs:=[(⟨b,0⟩:aM)]) E H (wn z) z z z (E.evs z) (by kernel_rfl) z z (λok hr=>(Rows.single (d:=aC) (cs:=[.string b,.int .i64 0]) (x:=(⟨b,0⟩:aM)) zH)) λV w a H E=>bk m λK m=>xc2 E z (cf_ 276) (Tn.insert_a (ix:=1) (iu:=0) H z z (by decide) K) λW w H a E=>pr 3 E z λa E=>?_;obtain ⟨q55,X,rfl⟩:=H.rowform (i:=1) z;exact ss 2 E H z Hn z λw H=>nt<|have H:=H.drop 0;have H:=H.frs [0,1] z;X3 ⟨E.to z,H,Y0,m⟩
  exact wK<|aA<|have H:=H.frs [0,1] z;X3 ⟨E.to z,H,Y0,m⟩
 ·clear E H m;rintro a w ⟨t,u,T,E,H,y,m⟩;unfold oG at m;refine sp 4 E z λa E=>lb2 E H 0 U23 z λa E=>pr 1 E z λa E=>bd m λI c m=>?_;obtain ⟨Y,Z,A⟩:=H.rowformNE (i:=1) z c;refine sv2 E z (dP (d:=aC) E A z z z z U23 rF c) λa E=>pr 1 E z λa E=>sv2 E z (uX (d:=aC) (i:=1) (k:=1) E H eD A z z z c z U2 z) λa E=>pn 1 E z λa E=>aL (λa w=>∃ B C,Jn 80 a w [(9,.int .i64 I.Next)] (Blk s 185 [j,B,l,n,o,p,q]::Row 89 aC B C::Fo) rs (sI I C=some r)) ?_ ?_
  ·refine wS<|dz [0,0,0,0,0,0,0,0,1,2,2,2] [0] H λw W0 hI H=>fn 4 E z λa E=>fb2 E m0 U23 z λa E=>fn 3 E z λa E=>bW z<|bd m λR L m=>bI E (wn z) z z (bO E z z z ((cf_ 210) _)) (Np H L)<|?_;rintro _ w ⟨rfl,H⟩ a E;refine nt<|⟨sx H [0] z,bK z<|bd m λS f m=>?_⟩
   obtain ⟨b0,b1,D⟩:=H.rowformNE (i:=1) z f;refine sv2 E z (dP (d:=aC) E D z z z z U23 rF f) λa E=>nt<|bK z<|pn 1 E z λa E=>bK z<|Br (d:=aC) (i:=1) (k:=1) (z':=({ S with Next:=R }:aM)) E H eD (wn z) z D z z z z z z f z z sz2 λw H=>nt<|bG<|?_;clear hI;refine aA<|sp 4 E z λa E=>lb2 E H 0 U23 z λa E=>pr 1 E z λa E=>bd m λb2 g m=>?_;obtain ⟨b3,b4,F⟩:=H.rowformNE (i:=1) z g;refine sv2 E z (dP (d:=aC) E F z z z z U23 rF g) λa E=>pr 1 E z λa E=>sv2 E z (uX (d:=aC) (i:=1) (k:=1) E H eD F z z z g z U2 z) λa E=>pn 1 E z λa E=>wif E m z (λm=>?_) λm=>?_
   ·refine wG<|pr 5 E z λa E=>lb2 E H 0 U23 z λa E=>pr 3 E z λa E=>bk m λM m=>xc2 E z (cf_ 277) (Tn.delete_c (ix:=1) H z M) λb5 w H a E=>pr 3 E z λa E=>?_;obtain ⟨q49,b6,rfl⟩:=H.rowform (i:=1) z;exact ss 0 E H z Hn z λw H=>nt<|X3 ⟨E.to z,H,y,m⟩
   exact wK<|aA<|X3 ⟨E.to z,H,y,m⟩
  ·clear E H m;rintro a w ⟨B,C,U,E,H,N,m⟩;unfold sI at m;refine sq<|pn 2 E z λa E=>wR<|o1 E z<|?_;cases m;exact ⟨_,z,H.reads N⟩

end Go.Cb
