/- Functions of the program, walked: each comes to its plain function. -/
import Derived.Test.YteakhlfapjaodaaGreatDoorTso
import Derived.Test.YteakhlfapjaodaaGreatDoorExso
import Derived.Test.YteakhlfapjaodaaGreatDoorN4so
set_option linter.unusedVariables false
set_option linter.unusedSimpArgs false
set_option maxRecDepth 20000
set_option maxHeartbeats 1000000
namespace Go.Cb
open Go.Proofs Go.RowKit
variable {w:World} {Fo:List Ob} {rs:List Rp}

def qY(b:ByteArray)(c:Int):Option Int:=
  some (ixB b c)
theorem N3{b:ByteArray}{c:Int}(H:Sep w (Fo) rs){r:Int}(m:qY b c=some r) :
    Cf 289 [.string b,.int .u8 c] w λ v w'=>.int .i64 r=v/\Sep w' (Fo) (rs):=by
 unfold qY at m
 refine ent Tryz.func289 z Tryz.ntmps289 z z λ a E=>sp 1 E z λ a E=>xp 2 E z λ a E=>sv2 E z (Iw E z z (KM _ _ _)) λ a E=>pn 1 E z λ a E=>wR<|o1 E z<|?_
 cases m
 exact ⟨z,H.reads Y0⟩

def kQ(b:ByteArray)(c:Int):Option Int:=
  (qY b c).bind λ d=>some (d)
theorem C9{b:ByteArray}{c:Int}(H:Sep w (Fo) rs){r:Int}(m:kQ b c=some r) :
    Cf 227 [.string b,.int .u8 c] w λ v w'=>.int .i64 r=v/\Sep w' (Fo) (rs):=by
 unfold kQ at m
 refine ent Tryz.func227 z Tryz.ntmps227 z z λ a E=>sp 1 E z λ a E=>xp 2 E z λ a E=>bd m λ e d m=>xk2 E z (cf_ 289) (N3 H d) λ w H a E=>pn 1 E z λ a E=>wR<|o1 E z<|?_
 cases m
 exact ⟨z,H.reads Y0⟩

def lM(b:Bool):Option Bool:=
  if b=true then (some (true)) else (some (false))
def lN(x1:Int)(b:Bool):Option Bool:=
  if b=true then (some (true)) else (if (decide (57343 < x1))=true then (lM (decide (x1 <= 1114111))) else (lM false))
def oD(x1:Int):Option Bool:=
  if (decide (0 <= x1))=true then (lN x1 (decide (x1 < 55296))) else (lN x1 false)
theorem Aw{x1:Int}(H:Sep w (Fo) rs){r:Bool}(m:oD x1=some r) :
    Cf 356 [.int .i32 x1] w λ v w'=>.bool r=v/\Sep w' (Fo) (rs):=by
 unfold oD at m
 refine ent Tryz.func356 z Tryz.ntmps356 z z λ a E=>sq<|pn 1 E z λ a E=>wS<|wB<|aN (λ a w=>∃ f,Jn 17 a w [(0,.int .i32 x1),(3,.bool f)] (Fo) rs (lN x1 f=some r)) ?_ ?_
 ·refine wG<|pr 3 E z λ a E=>cs m (λ b m=>?_) λ b m=>?_
  ·exact pk 4 E (kc 6 z b) z λ a E=>nt<|⟨_,_,E.to z,H,Y0,m⟩
  ·exact pk 4 E (kc 6 z b) z λ a E=>nt<|⟨_,_,E.to z,H,Y0,m⟩
 ·clear E H m
  rintro a w ⟨f,i,E,H,c,m⟩
  unfold lN at m
  refine wif E m z (λ m=>?_) λ m=>?_
  ·refine sq<|pn 1 E z λ a E=>wR<|bM<|aH<|o1 E z<|?_
   cases m
   exact ⟨z,H.reads c⟩
  ·refine aN (λ a w=>∃ g,Jn 17 a w [(10,.bool g)] (Fo) rs (lM g=some r)) ?_ ?_
   ·refine wG<|pr 3 E z λ a E=>cs m (λ d m=>?_) λ d m=>?_
    ·exact pk 4 E (kc 13 z d) z λ a E=>nt<|⟨_,_,E.to z,H,c,m⟩
    ·exact pk 4 E (kc 13 z d) z λ a E=>nt<|⟨_,_,E.to z,H,c,m⟩
   ·clear E H m
    rintro a w ⟨g,j,E,H,e,m⟩
    unfold lM at m
    refine wif E m z (λ m=>?_) λ m=>?_
    ·refine sq<|pn 1 E z λ a E=>wR<|bM<|aH<|o1 E z<|?_
     cases m
     exact ⟨z,H.reads e⟩
    ·refine wK<|bR<|aA<|sq<|pn 1 E z λ a E=>wR<|o1 E z<|?_
     cases m
     exact ⟨z,H.reads e⟩

def uI(c:ByteArray):Nat->(Nat)->Option Int
  | 0,_=>none
  | d+1,b=>
    if decide (b < c.size)=true then (if (((Utf8.decode c b).1:Int) == 65533)=true then (some ((b:Int))) else (uI c d (b+(Utf8.decode c b).2))) else (some ((-1)))
def uJ(b:Int)(c:ByteArray):Nat->Option Int
  | 0=>none
  | j+1=>
    if (decide ((IntKind.i64.wrap (((Utf8.encode b).size:Int) - 1)) < (c.size:Int)))=true then ((idx c.data.toList (IntKind.i64.wrap (((Utf8.encode b).size:Int) - 1))).bind λ d=>(idx (Utf8.encode b).data.toList (IntKind.i64.wrap (((Utf8.encode b).size:Int) - 1))).bind λ e=>if ((d.toNat:Int) != (e.toNat:Int))=true then ((ck (0 <= (IntKind.i64.wrap ((IntKind.i64.wrap (((Utf8.encode b).size:Int) - 1))+1))/\(IntKind.i64.wrap ((IntKind.i64.wrap (((Utf8.encode b).size:Int) - 1))+1)) <= c.size)).bind λ i=>(idx (Utf8.encode b).data.toList (IntKind.i64.wrap (((Utf8.encode b).size:Int) - 1))).bind λ f=>(kQ (c.extract (IntKind.i64.wrap ((IntKind.i64.wrap (((Utf8.encode b).size:Int) - 1))+1)).toNat c.size) (f.toNat:Int)).bind λ g=>if (decide (g < 0))=true then (some ((-1))) else none) else none) else (some ((-1)))
def qM(b:ByteArray)(c:Int)(e:Bool):Option Int:=
  if e=true then ((kQ b (IntKind.u8.wrap c)).bind λ f=>some (f)) else (if (c == 65533)=true then (uI b (b.size+2) 0) else ((oD c).bind λ d=>if (!d)=true then (some ((-1))) else (uJ c b (((b.size:Int) - (IntKind.i64.wrap (((Utf8.encode c).size:Int) - 1)):Int).toNat+1))))
def tI(c:ByteArray)(b:Int):Option Int:=
  if (decide (0 <= b))=true then (qM c b (decide (b < 128))) else (qM c b false)
theorem Ge{b:ByteArray}{c:Int}(H:Sep w (Fo) rs){r:Int}(m:tI b c=some r) :
    Cf 328 [.string b,.int .i32 c] w λ v w'=>.int .i64 r=v/\Sep w' (Fo) (rs):=by
 unfold tI at m
 refine ent Tryz.func328 z Tryz.ntmps328 z z λ a E=>sq<|pn 1 E z λ a E=>wB<|aN (λ a w=>∃ n,Jn 187 a w [(0,.string b),(1,.int .i32 c),(160,.bool n)] (Fo) rs (qM b c n=some r)) ?_ ?_
 ·refine wG<|pr 3 E z λ a E=>cs m (λ d m=>?_) λ d m=>?_
  ·exact pk 4 E (kc 163 z d) z λ a E=>nt<|⟨_,_,E.to z,H,Y0,m⟩
  ·exact pk 4 E (kc 163 z d) z λ a E=>nt<|⟨_,_,E.to z,H,Y0,m⟩
 ·clear E H m
  rintro a w ⟨n,D,E,H,g,m⟩
  unfold qM at m
  refine wif E m z (λ m=>?_) λ m=>?_
  ·refine sp 3 E z λ a E=>bd m λ L y m=>xk2 E z (cf_ 227) (C9 H y) λ w H a E=>pn 1 E z λ a E=>wR<|bM<|o1 E z<|?_
   cases m
   exact ⟨z,H.reads g⟩
  ·refine sq<|pn 3 E z λ a E=>wif E m z (λ m=>?_) λ m=>?_
   ·refine wS<|sp 1 E z λ a E=>Qg E H (wn z) z z z z U9 λ A w a H E=>nt<|wB<|bL (λ j a w=>∃ o,Jn 187 a w [(175,pt A 0)] (Bw A (.stringIter b o)::Fo) rs (uI b j o=some r)) (b.size+2) ?_ ?_
    ·exact ⟨_,_,E.to z,H,g,m⟩
    ·clear E H m
     rintro j a w ⟨o,B,E,H,e,m⟩
     cases j with
     | zero=>exact (bF m z).elim
     | succ j=>
      unfold uI at m
      refine sq<|cs m (λ f m=>?_) λ f m=>?_
      ·refine Qh (i:=0) E H (wn z) z z z z z f λ w a H E=>pn 1 E z λ a E=>wS<|wp_cond_true (E.eval z)<|wK<|aA<|wB<|sq<|pr 4 E z λ a E=>nx<|pn 2 E z λ a E=>wif E m z (λ m=>?_) λ m=>?_
       ·refine sq<|pn 2 E z λ a E=>wR<|bM<|aH<|bM<|aH<|bM<|o1 E z<|have H:=H.drop 0;?_
        cases m
        exact ⟨z,H.reads e⟩
       ·exact wK<|bR<|aA<|⟨j,nL j,_,_,E.to z,H,e,m⟩
      ·refine Qi (i:=0) E H (wn z) z z z z z f λ a E=>pn 1 E z λ a E=>wS<|wp_cond_false (E.eval z)<|wX<|aW<|aW<|cT<|aA<|sq<|pn 1 E z λ a E=>wR<|bM<|o1 E z<|have H:=H.drop 0;?_
       cases m
       exact ⟨z,H.reads e⟩
   ·refine sp 1 E z λ a E=>bd m λ F p m=>xk2 E z (cf_ 356) (Aw H p) λ w H a E=>pn 2 E z λ a E=>wif E m z (λ m=>?_) λ m=>?_
    ·refine sq<|pn 1 E z λ a E=>wR<|bM<|o1 E z<|?_
     cases m
     exact ⟨z,H.reads g⟩
    ·refine wp_scope_straight<|sp 1 E z λ a E=>sv2 E z (Dd E z z (v:=.string (Utf8.encode c)) (by kernel_rfl)) λ a E=>pr 1 E z λ a E=>xp 4 E z λ a E=>xp 2 E z λ a E=>nx<|pn 1 E z λ a E=>wS<|wB<|bL (λ l a w=>Jn 187 a w [(0,.string b),(7,.string (Utf8.encode c)),(8,.int .i64 (IntKind.i64.wrap (((Utf8.encode c).size:Int) - 1))),(9,.int .i64 (IntKind.i64.wrap (((Utf8.encode c).size:Int) - 1))),(10,.int .i64 0)] (Fo) rs (uJ c b l=some r)) (((b.size:Int) - (IntKind.i64.wrap (((Utf8.encode c).size:Int) - 1)):Int).toNat+1) ?_ ?_
     ·exact ⟨_,E.to z,H,g,m⟩
     ·clear E H m
      rintro l a w ⟨C,E,H,k,m⟩
      cases l with
      | zero=>exact (bF m z).elim
      | succ l=>
       unfold uJ at m
       refine wS<|sq<|pn 4 E z λ a E=>wif E m z (λ m=>?_) λ m=>?_
       ·refine wK<|aA<|wB<|wp_scope_straight<|wS<|wS<|dz [0,0,0,0,0,0,0] [] H λ w W0 hI H=>fn 2 E z λ a E=>bd m λ G q m=>fv E z (λ w hW=>(St E z z z U9 q)) λ a E=>fn 2 E z λ a E=>bd m λ I s m=>fv E z (λ w hW=>(St E z z z U9 s)) λ a E=>fn 1 E z λ a E=>bG<|?_
        clear hI
        refine aA<|wif E m z (λ m=>?_) λ m=>?_
        ·refine wS<|dz [0,0,0,0,0,0,0,1,2] [] H λ w W0 hI H=>fn 3 E z λ a E=>bk m λ t m=>fv E z (λ w hW=>(De E z z z U9 t)) λ a E=>fn 2 E z λ a E=>bd m λ J u m=>fv E z (λ w hW=>(St E z z z U9 u)) λ a E=>bQ z<|bd m λ K x m=>xk2 E z (cf_ 227) (C9 H x) λ w H a E=>nt<|⟨⟨_,_,H,(bC),(bI)⟩,bH z<|pn 1 E z λ a E=>bG<|?_⟩
         clear hI
         refine aA<|wS<|sq<|pn 2 E z λ a E=>wif E m z (λ m=>?_) λ m=>?_
         ·refine sq<|pn 1 E z λ a E=>wR<|aH<|aH<|DA<|bM<|aH<|bM<|aH<|DA<|bM<|o1 E z<|?_
          cases m
          exact ⟨z,H.reads k⟩
         ·exact (bF m z).elim
        ·exact (bF m z).elim
       ·refine wX<|aW<|aW<|cT<|aA<|wS<|sq<|pn 1 E z λ a E=>wR<|aH<|DA<|bM<|o1 E z<|?_
        cases m
        exact ⟨z,H.reads k⟩

def qN(b:ByteArray)(c:Int):Option Bool:=
  (tI b c).bind λ d=>some (decide (d ≥ 0))
theorem Ch{b:ByteArray}{c:Int}(H:Sep w (Fo) rs){r:Bool}(m:qN b c=some r) :
    Cf 292 [.string b,.int .i32 c] w λ v w'=>.bool r=v/\Sep w' (Fo) (rs):=by
 unfold qN at m
 refine ent Tryz.func292 z Tryz.ntmps292 z z λ a E=>sp 1 E z λ a E=>xp 2 E z λ a E=>bd m λ e d m=>xk2 E z (cf_ 328) (Ge H d) λ w H a E=>pn 2 E z λ a E=>wR<|o1 E z<|?_
 cases m
 exact ⟨z,H.reads Y0⟩

def A5(x1:Int):Option Bool:=
  (qN (ByteArray.mk #[97,98,99,100,101,102,103,104,105,106,107,108,109,110,111,112,113,114,115,116,117,118,119,120,121,122,48,49,50,51,52,53,54,55,56,57,45]) x1).bind λ b=>some (!b)
theorem Rh{x1:Int}(H:Sep w (Fo) rs){r:Bool}(m:A5 x1=some r) :
    Cf 291 [.int .i32 x1] w λ v w'=>.bool r=v/\Sep w' (Fo) (rs):=by
 unfold A5 at m
 refine ent Tryz.func291 z Tryz.ntmps291 z z λ a E=>sp 1 E z λ a E=>xp 1 E z λ a E=>bd m λ c b m=>xk2 E z (cf_ 292) (Ch H b) λ w H a E=>pn 2 E z λ a E=>wR<|o1 E z<|?_
 cases m
 exact ⟨z,H.reads Y0⟩

def mO(c:ByteArray)(d:Bool):Nat->(Nat)->Option Int
  | 0,_=>none
  | e+1,b=>
    if decide (b < c.size)=true then ((A5 ((Utf8.decode c b).1:Int)).bind λ f=>if (f == d)=true then (some ((b:Int))) else (mO c d e (b+(Utf8.decode c b).2))) else (some ((-1)))
def xW(b:ByteArray)(c:Bool):Option Int:=
  mO b c (b.size+2) 0
theorem Gf{c:ByteArray}{d:Bool}(H:Sep w (Fo) rs){r:Int}(m:xW c d=some r) :
    Cf 355 [.string c,.func (.func 291) #[] #[],.bool d] w λ v w'=>.int .i64 r=v/\Sep w' (Fo) (rs):=by
 unfold xW at m
 refine ent Tryz.func355 z Tryz.ntmps355 z z λ a E=>sq<|pn 1 E z λ a E=>wS<|sp 1 E z λ a E=>Qg E H (wn z) z z z z U9 λ j w a H E=>nt<|wB<|bL (λ b a w=>∃ g,Jn 21 a w [(1,.func (.func 291) #[] #[]),(2,.bool d),(10,pt j 0)] (Bw j (.stringIter c g)::Fo) rs (mO c d b g=some r)) (c.size+2) ?_ ?_
 ·exact ⟨_,_,E.to z,H,Y0,m⟩
 ·clear E H m
  rintro b a w ⟨g,n,E,H,e,m⟩
  cases b with
  | zero=>exact (bF m z).elim
  | succ b=>
   unfold mO at m
   refine sq<|cs m (λ f m=>?_) λ f m=>?_
   ·refine Qh (i:=0) E H (wn z) z z z z z f λ w a H E=>pn 1 E z λ a E=>wS<|wp_cond_true (E.eval z)<|wK<|aA<|wB<|sq<|pr 4 E z λ a E=>xp 2 E z λ a E=>bd m λ l k m=>bK E (wn z) z z (bO E z z z ((cf_ 291) _)) (Rh H k)<|?_
    rintro _ w ⟨rfl,H⟩ a E
    refine pr 1 E z λ a E=>sv2 E z (xJ E z z z (v:=.bool (l == d)) (by kernel_rfl)) λ a E=>nt<|wif E m z (λ m=>?_) λ m=>?_
    ·refine sq<|pn 2 E z λ a E=>wR<|bM<|aH<|bM<|aH<|o1 E z<|have H:=H.drop 0;?_
     cases m
     exact ⟨z,H.reads e⟩
    ·exact wK<|bR<|aA<|⟨b,nL b,_,_,E.to z,H,e,m⟩
   ·refine Qi (i:=0) E H (wn z) z z z z z f λ a E=>pn 1 E z λ a E=>wS<|wp_cond_false (E.eval z)<|wX<|aW<|aW<|cT<|aA<|sq<|pn 1 E z λ a E=>wR<|o1 E z<|have H:=H.drop 0;?_
    cases m
    exact ⟨z,H.reads e⟩

def xX(b:ByteArray):Option Int:=
  (xW b true).bind λ c=>some (c)
theorem Gg{b:ByteArray}(H:Sep w (Fo) rs){r:Int}(m:xX b=some r) :
    Cf 327 [.string b,.func (.func 291) #[] #[]] w λ v w'=>.int .i64 r=v/\Sep w' (Fo) (rs):=by
 unfold xX at m
 refine ent Tryz.func327 z Tryz.ntmps327 z z λ a E=>sp 1 E z λ a E=>xp 2 E z λ a E=>bd m λ d c m=>xk2 E z (cf_ 355) (Gf H c) λ w H a E=>pn 1 E z λ a E=>wR<|o1 E z<|?_
 cases m
 exact ⟨z,H.reads Y0⟩

def uK(b:ByteArray):Option Bool:=
  (xX b).bind λ c=>some (decide (c ≥ 0))
theorem Ci{b:ByteArray}(H:Sep w (Fo) rs){r:Bool}(m:uK b=some r) :
    Cf 290 [.string b,.func (.func 291) #[] #[]] w λ v w'=>.bool r=v/\Sep w' (Fo) (rs):=by
 unfold uK at m
 refine ent Tryz.func290 z Tryz.ntmps290 z z λ a E=>sp 1 E z λ a E=>xp 2 E z λ a E=>bd m λ d c m=>xk2 E z (cf_ 327) (Gg H c) λ w H a E=>pn 2 E z λ a E=>wR<|o1 E z<|?_
 cases m
 exact ⟨z,H.reads Y0⟩

def zB(b:ByteArray):Option Bool:=
  (uK b).bind λ c=>if (!(sEq b (ByteArray.mk #[])))=true then (if (decide ((b.size:Int) <= 12))=true then (some (!c)) else (some (false))) else (some (false))
theorem Cj{d:ByteArray}(H:Sep w (Fo) rs){r:Bool}(m:zB d=some r) :
    Cf 228 [.string d] w λ v w'=>.bool r=v/\Sep w' (Fo) (rs):=by
 unfold zB at m
 refine ent Tryz.func228 z Tryz.ntmps228 z z λ a E=>sp 1 E z λ a E=>xp 1 E z λ a E=>bd m λ f e m=>xk2 E z (cf_ 290) (Ci H e) λ w H a E=>pr 1 E z λ a E=>nx<|pr 3 E z λ a E=>cs m (λ b m=>?_) λ b m=>?_
 ·refine pk 5 E (kc 8 z b) z λ a E=>cs m (λ c m=>?_) λ c m=>?_
  ·refine pk 4 E (kc 13 z c) z λ a E=>nt<|wR<|o1 E z<|?_
   cases m
   exact ⟨z,H.reads Y0⟩
  ·refine pk 4 E (kc 13 z c) z λ a E=>nt<|wR<|o1 E z<|?_
   cases m
   exact ⟨z,H.reads Y0⟩
 ·refine pk 9 E (kc 8 z b) z λ a E=>nt<|wR<|o1 E z<|?_
  cases m
  exact ⟨z,H.reads Y0⟩

def iE(c:ByteArray)(b:ByteArray):Option Bool:=
  if (decide ((c.size:Int) ≥ (b.size:Int)))=true then ((ck (0 <= (b.size:Int)/\(b.size:Int) <= c.size)).bind λ d=>some (sEq (c.extract 0 (b.size:Int).toNat) b)) else (some (false))
theorem N4{c d:ByteArray}(H:Sep w (Fo) rs){r:Bool}(m:iE c d=some r) :
    Cf 284 [.string c,.string d] w λ v w'=>.bool r=v/\Sep w' (Fo) (rs):=by
 unfold iE at m
 refine ent Tryz.func284 z Tryz.ntmps284 z z λ a E=>sp 1 E z λ a E=>xp 6 E z λ a E=>cs m (λ b m=>?_) λ b m=>?_
 ·refine pk 3 E (kc 10 z b) z λ a E=>bk m λ e m=>gv 10 E b z (Gr E z z z U9 e) λ a E=>pk 4 E (kc 10 z b) z λ a E=>nt<|wR<|o1 E z<|?_
  cases m
  exact ⟨z,H.reads Y0⟩
 ·refine pk 8 E (kc 10 z b) z λ a E=>nt<|wR<|o1 E z<|?_
  cases m
  exact ⟨z,H.reads Y0⟩

def iF(b:ByteArray)(c:ByteArray):Option Eo:=
  (iE b c).bind λ d=>if (!d)=true then (some (b,false)) else ((ck (0 <= (c.size:Int)/\(c.size:Int) <= b.size)).bind λ e=>some (b.extract (c.size:Int).toNat b.size,true))
theorem N5{b c:ByteArray}(H:Sep w (Fo) rs){r:ByteArray×Bool}(m:iF b c=some r) :
    Cf 217 [.string b,.string c] w λ v w'=>.tuple #[.string r.1,.bool r.2]=v/\Sep w' (Fo) (rs):=by
 unfold iF at m
 refine ent Tryz.func217 z Tryz.ntmps217 z z λ a E=>sq<|pn 2 E z λ a E=>wS<|sp 2 E z λ a E=>bd m λ f d m=>xk2 E z (cf_ 284) (N4 H d) λ w H a E=>pn 1 E z λ a E=>wif E m z (λ m=>?_) λ m=>?_
 ·refine sq<|pn 3 E z λ a E=>wR<|aH<|jN E z z z<|?_
  cases m
  exact ⟨z,H.reads Y0⟩
 ·refine wK<|aA<|sp 3 E z λ a E=>bk m λ e m=>sv2 E z (De E z z z U9 e) λ a E=>pn 2 E z λ a E=>wR<|jN E z z z<|?_
  cases m
  exact ⟨z,H.reads Y0⟩

def kT(c:ByteArray)(d:ByteArray):Option Eo:=
  (iF c d).bind λ b=>some (b.1,b.2)
theorem R3{b c:ByteArray}(H:Sep w (Fo) rs){r:ByteArray×Bool}(m:kT b c=some r) :
    Cf 135 [.string b,.string c] w λ v w'=>.tuple #[.string r.1,.bool r.2]=v/\Sep w' (Fo) (rs):=by
 unfold kT at m
 refine ent Tryz.func135 z Tryz.ntmps135 z z λ a E=>sp 2 E z λ a E=>xp 2 E z λ a E=>bd m λ e d m=>xk2 E z (cf_ 217) (N5 H d) λ w H a E=>pn 4 E z λ a E=>wR<|jN E z z z<|?_
 cases m
 exact ⟨z,H.reads Y0⟩

def sC:Option Nv:=
  some ([],false)
def vO(rec_1:ByteArray->eY->Option Nv)(c:ByteArray×Bool)(d:eY)(b:Int):Option Nv:=
  (ck (0 <= b/\b <= c.1.size)).bind λ f=>(zB (c.1.extract 0 b.toNat)).bind λ e=>if (!e)=true then (sC) else ((ck (0 <= b/\b <= c.1.size)).bind λ g=>(ck (d.length+([c.1.extract 0 b.toNat]:List ByteArray).length <= LIM)).bind λ i=>(ck (0 <= b/\b <= c.1.size)).bind λ j=>rec_1 (c.1.extract b.toNat c.1.size) (d ++ ([c.1.extract 0 b.toNat]:List ByteArray)))
def pU:Nat->ByteArray->eY->Option Nv
  | 0,_,_=>none
  | e+1,f,b=>
    if (!(sEq f (ByteArray.mk #[])))=true then ((kT f (ByteArray.mk #[47])).bind λ c=>if (!c.2)=true then (sC) else (if ((b.length:Int) == 6)=true then (sC) else ((kQ c.1 47).bind λ d=>if (decide (d < 0))=true then (vO (pU e) c b (c.1.size:Int)) else (vO (pU e) c b d)))) else (if (decide ((b.length:Int) > 0))=true then (some (b,true)) else (some ([],false)))
def zT(b:ByteArray):Option Nv:=
  if (sEq b (ByteArray.mk #[47]))=true then (some ([],true)) else (pU (b.size+2) b [])
theorem Hk{o:ByteArray}(H:Sep w (Fo) rs){r:eY×Bool}(m:zT o=some r) :
    Cf 144 [.string o] w λ v w'=>∃ C,.tuple #[C,.bool r.2]=v/\Sep w' (Row 9 kS C r.1::Fo) (rs):=by
 unfold zT at m
 refine ent Tryz.func144 z Tryz.ntmps144 z z λ a E=>sq<|pn 2 E z λ a E=>wp_scope_jumps 0 (λ a w=>Jn 48 a w [] (Fo) rs (sC=some r)) (λ _ _=>0) z ?_ ?_
 ·refine sq<|pn 1 E z λ a E=>wS<|sq<|pn 2 E z λ a E=>wif E m z (λ m=>?_) λ m=>?_
  ·refine sq<|pn 2 E z λ a E=>wR<|aH<|Is<|jN E z z z<|have H:=H.nilRow 9 kS;?_
   cases m
   exact ⟨_,z,H.reads Y0⟩
  ·refine wK<|aA<|wS<|wB<|bL (λ g a w=>∃ k p l,Jn 48 a w [(0,.string p),(4,k)] (Row 9 kS k l::Fo) rs (pU g p l=some r)) (o.size+2) ?_ ?_
   ·exact have H:=H.nilRow 9 kS;X4 ⟨E.to z,H,Y0,m⟩
   ·clear E H m
    rintro g a w ⟨k,p,l,G,E,H,f,m⟩
    cases g with
    | zero=>exact (bF m z).elim
    | succ g=>
     unfold pU at m
     refine wS<|sq<|pn 2 E z λ a E=>wif E m z (λ m=>?_) λ m=>?_
     ·refine wK<|aA<|wB<|sp 1 E z λ a E=>bd m λ j q m=>xk2 E z (cf_ 135) (R3 H q) λ w H a E=>pn 5 E z λ a E=>wS<|sp 3 E z λ a E=>cs m (λ b m=>?_) λ b m=>?_
      ·exact pk 4 E (kc 19 z b) z λ a E=>nt<|wp_cond_true (E.eval z)<|wp_goto<|I1<|Dc<|I1<|Dc<|I1<|Sr<|have H:=H.drop 0;⟨_,E.nil,H,f,m⟩
      ·refine pk 1 E (kc 19 z b) z λ a E=>gv 19 E b z (mZ (i:=0) E H z z z U33) λ a E=>pk 2 E (kc 19 z b) z λ a E=>nt<|wif E m z (λ m=>?_) λ m=>?_
       ·exact wp_goto<|I1<|Dc<|I1<|Dc<|I1<|Sr<|have H:=H.drop 0;⟨_,E.nil,H,f,m⟩
       ·refine wK<|aA<|sp 1 E z λ a E=>bd m λ I s m=>xk2 E z (cf_ 227) (C9 H s) λ w H a E=>pn 1 E z λ a E=>aN (λ a w=>∃ c,Jn 48 a w [(4,k),(5,.string j.1),(7,.int .i64 c)] (Row 9 kS k l::Fo) rs (vO (pU g) j l c=some r)) ?_ ?_
        ·refine sq<|pn 2 E z λ a E=>wif E m z (λ m=>?_) λ m=>?_
         ·exact wG<|pn 3 E z λ a E=>⟨_,_,E.to z,H,f,m⟩
         ·exact wK<|aA<|⟨_,_,E.to z,H,f,m⟩
        ·clear E H m
         rintro a w ⟨c,F,E,H,n,m⟩
         unfold vO at m
         refine wS<|sp 2 E z λ a E=>bk m λ t m=>sv2 E z (Gr E z z z U9 t) λ a E=>bd m λ J u m=>xk2 E z (cf_ 228) (Cj H u) λ w H a E=>pn 1 E z λ a E=>wif E m z (λ m=>?_) λ m=>?_
         ·exact wp_goto<|I1<|Dc<|I1<|Dc<|I1<|Sr<|have H:=H.drop 0;⟨_,E.nil,H,n,m⟩
         ·exact wK<|aA<|sp 3 E z λ a E=>bk m λ y m=>sv2 E z (Gr E z z z U9 y) λ a E=>xK (e:=9) (d:=kS) (cs:=[.string (j.1.extract 0 c.toNat)]) (xs:=[j.1.extract 0 c.toNat]) E H (wn z) z z z (E.evs z) (by kernel_rfl) z (λ ok hr=>(Rows.single (d:=kS) (cs:=[.string (j.1.extract 0 c.toNat)]) (x:=j.1.extract 0 c.toNat) z)) λ K w a H E=>bk m λ A m=>eZ (i:=0) E H (wn z) z z z z z z (nW m0) U33 Yi z A z λ L w a H E=>pn 1 E z λ a E=>wG<|pr 2 E z λ a E=>bk m λ B m=>sv2 E z (De E z z z U9 B) λ a E=>pr 1 E z λ a E=>wN<|bR<|aA<|⟨g,nL g,X4 ⟨E.to z,H,(Y1 n),m⟩⟩
     ·refine wX<|aW<|aW<|cT<|aA<|wS<|sp 1 E z λ a E=>sv2 E z (mZ (i:=0) E H z z z U33) λ a E=>pn 1 E z λ a E=>wif E m z (λ m=>?_) λ m=>?_
      ·refine sq<|pn 3 E z λ a E=>wR<|aH<|Is<|jN E z z z<|?_
       cases m
       exact ⟨_,z,H.reads f⟩
      ·refine wK<|aA<|wS<|wp_label<|aA<|sq<|pn 2 E z λ a E=>wR<|Is<|jN E z z z<|have H:=H.nilRow 9 kS;have H:=H.drop 1;?_
       cases m
       exact ⟨_,z,H.reads f⟩
 ·clear E H m
  rintro a w ⟨M,E,H,D,m⟩
  unfold sC at m
  refine wS<|wK<|aA<|sq<|pn 2 E z λ a E=>wR<|Is<|jN E z z z<|have H:=H.nilRow 9 kS;?_
  cases m
  exact ⟨_,z,H.reads D⟩

def eB(c:ByteArray):Nat->Int->Int->Option Int
  | 0,_,_=>none
  | d+1,x3,b=>
    if (decide (b ≥ 0))=true then ((idx c.data.toList b).bind λ e=>if ((e.toNat:Int) == x3)=true then (some (b)) else (eB c d x3 (IntKind.i64.wrap (b - 1)))) else (some ((-1)))
def iM(b:ByteArray)(c:Int):Option Int:=
  eB b (((IntKind.i64.wrap ((b.size:Int) - 1)) - 0:Int).toNat+2) c (IntKind.i64.wrap ((b.size:Int) - 1))
theorem D2{c:ByteArray}{f:Int}(H:Sep w (Fo) rs){r:Int}(m:iM c f=some r) :
    Cf 346 [.string c,.int .u8 f] w λ v w'=>.int .i64 r=v/\Sep w' (Fo) (rs):=by
 unfold iM at m
 refine ent Tryz.func346 z Tryz.ntmps346 z z λ a E=>sq<|pn 1 E z λ a E=>wS<|sq<|pn 4 E z λ a E=>wB<|bL (λ b a w=>∃ x3 e,Jn 19 a w [(0,.string c),(1,.int .u8 x3),(5,.int .i64 e)] (Fo) rs (eB c b x3 e=some r)) (((IntKind.i64.wrap ((c.size:Int) - 1)) - 0:Int).toNat+2) ?_ ?_
 ·exact X3 ⟨E.to z,H,Y0,m⟩
 ·clear E H m
  rintro b a w ⟨x3,e,i,E,H,d,m⟩
  cases b with
  | zero=>exact (bF m z).elim
  | succ b=>
   unfold eB at m
   refine wS<|sq<|pn 2 E z λ a E=>wif E m z (λ m=>?_) λ m=>?_
   ·refine wK<|aA<|wS<|wB<|sp 2 E z λ a E=>bd m λ j g m=>sv2 E z (St E z z z U9 g) λ a E=>pr 2 E z λ a E=>nt<|wif E m z (λ m=>?_) λ m=>?_
    ·refine sq<|pn 2 E z λ a E=>wR<|bM<|aH<|aH<|bM<|aH<|o1 E z<|?_
     cases m
     exact ⟨z,H.reads d⟩
    ·exact wK<|bR<|aA<|wG<|pn 3 E z λ a E=>⟨b,nL b,X3 ⟨E.to z,H,d,m⟩⟩
   ·refine wX<|aW<|aW<|cT<|aA<|sq<|pn 1 E z λ a E=>wR<|o1 E z<|?_
    cases m
    exact ⟨z,H.reads d⟩

def mD(b:ByteArray)(c:ByteArray):Option Bool:=
  if (decide ((b.size:Int) ≥ (c.size:Int)))=true then ((ck (0 <= (IntKind.i64.wrap ((b.size:Int) - (c.size:Int)))/\(IntKind.i64.wrap ((b.size:Int) - (c.size:Int))) <= b.size)).bind λ d=>some (sEq (b.extract (IntKind.i64.wrap ((b.size:Int) - (c.size:Int))).toNat b.size) c)) else (some (false))
theorem N6{c d:ByteArray}(H:Sep w (Fo) rs){r:Bool}(m:mD c d=some r) :
    Cf 285 [.string c,.string d] w λ v w'=>.bool r=v/\Sep w' (Fo) (rs):=by
 unfold mD at m
 refine ent Tryz.func285 z Tryz.ntmps285 z z λ a E=>sp 1 E z λ a E=>xp 6 E z λ a E=>cs m (λ b m=>?_) λ b m=>?_
 ·refine pk 6 E (kc 10 z b) z λ a E=>bk m λ e m=>gv 10 E b z (De E z z z U9 e) λ a E=>pk 4 E (kc 10 z b) z λ a E=>nt<|wR<|o1 E z<|?_
  cases m
  exact ⟨z,H.reads Y0⟩
 ·refine pk 11 E (kc 10 z b) z λ a E=>nt<|wR<|o1 E z<|?_
  cases m
  exact ⟨z,H.reads Y0⟩

def lJ(b:ByteArray)(c:ByteArray):Option ByteArray:=
  (mD b c).bind λ d=>if d=true then ((ck (0 <= (IntKind.i64.wrap ((b.size:Int) - (c.size:Int)))/\(IntKind.i64.wrap ((b.size:Int) - (c.size:Int))) <= b.size)).bind λ e=>some (b.extract 0 (IntKind.i64.wrap ((b.size:Int) - (c.size:Int))).toNat)) else (some (b))
theorem L4{b c:ByteArray}(H:Sep w (Fo) rs){r:ByteArray}(m:lJ b c=some r) :
    Cf 218 [.string b,.string c] w λ v w'=>.string r=v/\Sep w' (Fo) (rs):=by
 unfold lJ at m
 refine ent Tryz.func218 z Tryz.ntmps218 z z λ a E=>sq<|pn 1 E z λ a E=>wS<|sp 2 E z λ a E=>bd m λ f d m=>xk2 E z (cf_ 285) (N6 H d) λ w H a E=>nt<|wif E m z (λ m=>?_) λ m=>?_
 ·refine sp 6 E z λ a E=>bk m λ e m=>sv2 E z (Gr E z z z U9 e) λ a E=>pn 1 E z λ a E=>wR<|aH<|o1 E z<|?_
  cases m
  exact ⟨z,H.reads Y0⟩
 ·refine wK<|aA<|sq<|pn 2 E z λ a E=>wR<|o1 E z<|?_
  cases m
  exact ⟨z,H.reads Y0⟩

def gZ(b:ByteArray)(c:ByteArray):Option ByteArray:=
  (lJ b c).bind λ d=>some (d)
theorem Q3{b c:ByteArray}(H:Sep w (Fo) rs){r:ByteArray}(m:gZ b c=some r) :
    Cf 136 [.string b,.string c] w λ v w'=>.string r=v/\Sep w' (Fo) (rs):=by
 unfold gZ at m
 refine ent Tryz.func136 z Tryz.ntmps136 z z λ a E=>sp 1 E z λ a E=>xp 2 E z λ a E=>bd m λ e d m=>xk2 E z (cf_ 218) (L4 H d) λ w H a E=>pn 1 E z λ a E=>wR<|o1 E z<|?_
 cases m
 exact ⟨z,H.reads Y0⟩

def xC(d:ByteArray)(c:ByteArray)(e:Bool):Option Eo:=
  if e=true then (some ((ByteArray.mk #[]),false)) else ((gZ d (ByteArray.mk #[47])).bind λ b=>(ck (b.size+(ByteArray.mk #[47]).size <= 4611686018427387904)).bind λ f=>(ck ((b ++ (ByteArray.mk #[47])).size+c.size <= 4611686018427387904)).bind λ g=>some ((b ++ (ByteArray.mk #[47])) ++ c,true))
def C6(b:ByteArray)(c:ByteArray):Option Eo:=
  (zT b).bind λ d=>if (!d.2)=true then (xC b c true) else ((zB c).bind λ e=>if (!e)=true then (xC b c true) else (xC b c ((d.1.length:Int) == 6)))
theorem Kt{d e:ByteArray}(H:Sep w (Fo) rs){r:ByteArray×Bool}(m:C6 d e=some r) :
    Cf 208 [.string d,.string e] w λ v w'=>.tuple #[.string r.1,.bool r.2]=v/\Sep w' (Fo) (rs):=by
 unfold C6 at m
 refine ent Tryz.func208 z Tryz.ntmps208 z z λ a E=>sp 2 E z λ a E=>xp 1 E z λ a E=>bd m λ s o m=>xc2 E z (cf_ 144) (Hk H o)<|?_
 rintro _ w ⟨t,rfl,H⟩ a E
 refine pn 5 E z λ a E=>wS<|aN (λ a w=>∃ g,Jn 30 a w [(0,.string d),(1,.string e),(24,.bool g)] (Fo) rs (xC d e g=some r)) ?_ ?_
 ·refine wG<|pr 3 E z λ a E=>cs m (λ b m=>?_) λ b m=>?_
  ·exact pk 9 E (kc 15 z b) z λ a E=>nt<|have H:=H.drop 0;⟨_,_,E.to z,H,Y0,m⟩
  ·refine pk 1 E (kc 15 z b) z λ a E=>bd m λ p j m=>gc 15 E b z (cf_ 228) (Cj H j)<|?_
   rintro _ w ⟨rfl,H⟩ a E
   refine pk 3 E (kc 15 z b) z λ a E=>cs m (λ c m=>?_) λ c m=>?_
   ·exact pk 4 E (kc 20 z c) z λ a E=>nt<|have H:=H.drop 0;⟨_,_,E.to z,H,Y0,m⟩
   ·exact pk 1 E (kc 20 z c) z λ a E=>gv 20 E c z (mZ (i:=0) E H z z z U33) λ a E=>pk 2 E (kc 20 z c) z λ a E=>nt<|have H:=H.drop 0;⟨_,_,E.to z,H,Y0,m⟩
 ·clear E H m
  rintro a w ⟨g,q,E,H,f,m⟩
  unfold xC at m
  refine wif E m z (λ m=>?_) λ m=>?_
  ·refine sq<|pn 2 E z λ a E=>wR<|aH<|jN E z z z<|?_
   cases m
   exact ⟨z,H.reads f⟩
  ·refine wK<|aA<|sp 1 E z λ a E=>bd m λ u k m=>xk2 E z (cf_ 136) (Q3 H k) λ w H a E=>bk m λ l m=>sv2 E z (Xu E z z z l) λ a E=>pr 1 E z λ a E=>bk m λ n m=>sv2 E z (Xu E z z z n) λ a E=>pn 2 E z λ a E=>wR<|jN E z z z<|?_
   cases m
   exact ⟨z,H.reads f⟩

def fU(b:ByteArray):Option Bool:=
  (zT b).bind λ c=>some (c.2)
theorem jQ{b:ByteArray}(H:Sep w (Fo) rs){r:Bool}(m:fU b=some r) :
    Cf 83 [.string b] w λ v w'=>.bool r=v/\Sep w' (Fo) (rs):=by
 unfold fU at m
 refine ent Tryz.func83 z Tryz.ntmps83 z z λ a E=>sp 1 E z λ a E=>xp 1 E z λ a E=>bd m λ d c m=>xc2 E z (cf_ 144) (Hk H c)<|?_
 rintro _ w ⟨e,rfl,H⟩ a E
 refine pr 5 E z λ a E=>nx<|pn 2 E z λ a E=>wR<|o1 E z<|have H:=H.drop 0;?_
 cases m
 exact ⟨z,H.reads Y0⟩

def sZ(b:ByteArray)(c:Int):Option Int:=
  (iM b c).bind λ d=>some (d)
theorem Ba{b:ByteArray}{c:Int}(H:Sep w (Fo) rs){r:Int}(m:sZ b c=some r) :
    Cf 306 [.string b,.int .u8 c] w λ v w'=>.int .i64 r=v/\Sep w' (Fo) (rs):=by
 unfold sZ at m
 refine ent Tryz.func306 z Tryz.ntmps306 z z λ a E=>sp 1 E z λ a E=>xp 2 E z λ a E=>bd m λ e d m=>xk2 E z (cf_ 346) (D2 H d) λ w H a E=>pn 1 E z λ a E=>wR<|o1 E z<|?_
 cases m
 exact ⟨z,H.reads Y0⟩

def A6(b:ByteArray)(d:Bool):Option (ByteArray×ByteArray×Bool):=
  if d=true then (some ((ByteArray.mk #[]),(ByteArray.mk #[]),false)) else ((sZ b 47).bind λ c=>(ck (0 <= (max c 1)/\(max c 1) <= b.size)).bind λ e=>(ck (0 <= (IntKind.i64.wrap (c+1))/\(IntKind.i64.wrap (c+1)) <= b.size)).bind λ f=>some (b.extract 0 (max c 1).toNat,b.extract (IntKind.i64.wrap (c+1)).toNat b.size,true))
def I5(b:ByteArray):Option (ByteArray×ByteArray×Bool):=
  (fU b).bind λ c=>if (!c)=true then (A6 b true) else (A6 b (sEq b (ByteArray.mk #[47])))
theorem Oa{c:ByteArray}(H:Sep w (Fo) rs){r:ByteArray×ByteArray×Bool}(m:I5 c=some r) :
    Cf 241 [.string c] w λ v w'=>.tuple #[.string r.1,.string r.2.1,.bool r.2.2]=v/\Sep w' (Fo) (rs):=by
 unfold I5 at m
 refine ent Tryz.func241 z Tryz.ntmps241 z z λ a E=>sq<|pn 3 E z λ a E=>wS<|aN (λ a w=>∃ e,Jn 23 a w [(0,.string c),(12,.bool e)] (Fo) rs (A6 c e=some r)) ?_ ?_
 ·refine wG<|pr 1 E z λ a E=>bd m λ k f m=>xk2 E z (cf_ 83) (jQ H f) λ w H a E=>pr 2 E z λ a E=>cs m (λ b m=>?_) λ b m=>?_
  ·exact pk 3 E (kc 9 z b) z λ a E=>nt<|⟨_,_,E.to z,H,Y0,m⟩
  ·exact pk 3 E (kc 9 z b) z λ a E=>nt<|⟨_,_,E.to z,H,Y0,m⟩
 ·clear E H m
  rintro a w ⟨e,l,E,H,d,m⟩
  unfold A6 at m
  refine wif E m z (λ m=>?_) λ m=>?_
  ·refine sq<|pn 3 E z λ a E=>wR<|aH<|Ss E z z z z<|?_
   cases m
   exact ⟨z,H.reads d⟩
  ·refine wK<|aA<|sp 1 E z λ a E=>bd m λ n i m=>xk2 E z (cf_ 306) (Ba H i) λ w H a E=>pn 1 E z λ a E=>wS<|dz [0,0,0,0,0,0,0,0,1,2,2] [] H λ w W0 hI H=>fn 2 E z λ a E=>fv E z (λ w hW=>(FK (t:=0) E z z z)) λ a E=>bk m λ j m=>fv E z (λ w hW=>(Gr E z z z U9 j)) λ a E=>fn 3 E z λ a E=>bk m λ g m=>fv E z (λ w hW=>(De E z z z U9 g)) λ a E=>bQ z<|pn 1 E z λ a E=>⟨⟨_,_,H,(bC),(bI)⟩,bH z<|pn 1 E z λ a E=>bH z<|pn 1 E z λ a E=>bG<|?_⟩
   clear hI
   refine aA<|wR<|Ss E z z z z<|?_
   cases m
   exact ⟨z,H.reads d⟩

def zC(b:ByteArray):Option ByteArray:=
  (I5 b).bind λ c=>some (c.2.1)
theorem Ck{b:ByteArray}(H:Sep w (Fo) rs){r:ByteArray}(m:zC b=some r) :
    Cf 207 [.string b] w λ v w'=>.string r=v/\Sep w' (Fo) (rs):=by
 unfold zC at m
 refine ent Tryz.func207 z Tryz.ntmps207 z z λ a E=>sp 1 E z λ a E=>xp 1 E z λ a E=>bd m λ d c m=>xk2 E z (cf_ 241) (Oa H c) λ w H a E=>pr 7 E z λ a E=>nx<|pn 2 E z λ a E=>wR<|o1 E z<|?_
 cases m
 exact ⟨z,H.reads Y0⟩

def uT(b:Int)(c:ByteArray)(e:Bool):Option Eo:=
  if e=true then (some ((ByteArray.mk #[]),false)) else ((ck (-9223372036854775808 <= IntKind.i64.wrap (10000+b)/\IntKind.i64.wrap (10000+b) <= 9223372036854775807)).bind λ g=>(ck (0 <= (1:Int)/\(1:Int) <= (ByteArray.mk (Lib.itoa (IntKind.i64.wrap (10000+b))).toArray).size)).bind λ i=>(ck (c.size+((ByteArray.mk (Lib.itoa (IntKind.i64.wrap (10000+b))).toArray).extract (1:Int).toNat (ByteArray.mk (Lib.itoa (IntKind.i64.wrap (10000+b))).toArray).size).size <= 4611686018427387904)).bind λ f=>(zB (c ++ ((ByteArray.mk (Lib.itoa (IntKind.i64.wrap (10000+b))).toArray).extract (1:Int).toNat (ByteArray.mk (Lib.itoa (IntKind.i64.wrap (10000+b))).toArray).size))).bind λ d=>if (!d)=true then (some ((ByteArray.mk #[]),false)) else (some (c ++ ((ByteArray.mk (Lib.itoa (IntKind.i64.wrap (10000+b))).toArray).extract (1:Int).toNat (ByteArray.mk (Lib.itoa (IntKind.i64.wrap (10000+b))).toArray).size),true)))
def yN(c:ByteArray)(b:Int):Option Eo:=
  if (decide (b < 0))=true then (uT b c true) else (uT b c (decide (b > 9999)))
theorem Oc{e:ByteArray}{d:Int}(H:Sep w (Fo) rs)(k:N2 Tryz.prog ∈ rs){r:ByteArray×Bool}(m:yN e d=some r) :
    Cf 206 [.string e,.int .i64 d] w λ v w'=>.tuple #[.string r.1,.bool r.2]=v/\Sep w' (Fo) (rs):=by
 unfold yN at m
 refine ent Tryz.func206 z Tryz.ntmps206 z z λ a E=>sq<|pn 2 E z λ a E=>wS<|aN (λ a w=>∃ f,Jn 23 a w [(0,.string e),(1,.int .i64 d),(12,.bool f)] (Fo) rs (uT d e f=some r)) ?_ ?_
 ·refine wG<|pr 3 E z λ a E=>cs m (λ b m=>?_) λ b m=>?_
  ·exact pk 3 E (kc 9 z b) z λ a E=>nt<|⟨_,_,E.to z,H,Y0,m⟩
  ·exact pk 3 E (kc 9 z b) z λ a E=>nt<|⟨_,_,E.to z,H,Y0,m⟩
 ·clear E H m
  rintro a w ⟨f,n,E,H,c,m⟩
  unfold uT at m
  refine wif E m z (λ m=>?_) λ m=>?_
  ·refine sq<|pn 2 E z λ a E=>wR<|aH<|jN E z z z<|?_
   cases m
   exact ⟨z,H.reads c⟩
  ·refine wK<|aA<|sp 3 E z λ a E=>bk m λ l m=>xc2 E z (cf_ 278) (MV H (c _ k) (IntKind.i64.wrap (10000+d)) l)<|?_
   rintro _ w ⟨rfl,H⟩ a E
   refine bk m λ g m=>sv2 E z (De E z z z U9 g) λ a E=>bk m λ i m=>sv2 E z (Xu E z z z i) λ a E=>pn 1 E z λ a E=>wS<|sp 1 E z λ a E=>bd m λ o j m=>xk2 E z (cf_ 228) (Cj H j) λ w H a E=>pn 1 E z λ a E=>wif E m z (λ m=>?_) λ m=>?_
   ·refine sq<|pn 2 E z λ a E=>wR<|aH<|jN E z z z<|?_
    cases m
    exact ⟨z,H.reads c⟩
   ·refine wK<|aA<|sq<|pn 3 E z λ a E=>wR<|jN E z z z<|?_
    cases m
    exact ⟨z,H.reads c⟩

def sW(c:ByteArray):Option Eo:=
  (I5 c).bind λ b=>some (b.1,b.2.2)
theorem M1{b:ByteArray}(H:Sep w (Fo) rs){r:ByteArray×Bool}(m:sW b=some r) :
    Cf 180 [.string b] w λ v w'=>.tuple #[.string r.1,.bool r.2]=v/\Sep w' (Fo) (rs):=by
 unfold sW at m
 refine ent Tryz.func180 z Tryz.ntmps180 z z λ a E=>sp 2 E z λ a E=>xp 1 E z λ a E=>bd m λ d c m=>xk2 E z (cf_ 241) (Oa H c) λ w H a E=>pr 7 E z λ a E=>nx<|pn 4 E z λ a E=>wR<|jN E z z z<|?_
 cases m
 exact ⟨z,H.reads Y0⟩

def Fy:Option Unit:=
  some ()
theorem Ri(H:Sep w (Fo) rs){r:Unit}(m:Fy=some r) :
    Cf 288 [] w λ v w'=>.agg #[.int .i64 0,.int .i64 13,.int .i64 2,.int .i64 19,.int .i64 18,.int .i64 16,.int .i64 16,.int .i64 20]=v/\Sep w' (Fo) (rs):=by
 unfold Fy at m
 refine ent Tryz.func288 z Tryz.ntmps288 z z λ a E=>sq<|al2 E H z OV λ b w a H E=>nx<|sv2 E z (cJ E z (E.evs z) (v:=.agg #[.int .i64 0,.int .i64 13,.int .i64 2,.int .i64 19,.int .i64 18,.int .i64 16,.int .i64 16,.int .i64 20]) (by kernel_rfl)) λ a E=>ss 0 E H z FS z λ w H=>nt<|wR<|oB 0 [.int .i64 0,.int .i64 13,.int .i64 2,.int .i64 19,.int .i64 18,.int .i64 16,.int .i64 16,.int .i64 20] E H KT z FS<|have H:=H.drop 0;?_
 cases m
 exact ⟨z,H.reads Y0⟩

def T8(x1:Int)(b:Int):Option Bool:=
  if (decide (x1 ≥ 0))=true then (some (decide (x1 <= b))) else (some (false))
theorem Po{x1 c:Int}(H:Sep w (Fo) rs){r:Bool}(m:T8 x1 c=some r) :
    Cf 287 [.int .i64 x1,.int .i64 c] w λ v w'=>.bool r=v/\Sep w' (Fo) (rs):=by
 unfold T8 at m
 refine ent Tryz.func287 z Tryz.ntmps287 z z λ a E=>sp 1 E z λ a E=>xp 3 E z λ a E=>cs m (λ b m=>?_) λ b m=>?_
 ·refine pk 5 E (kc 7 z b) z λ a E=>nt<|wR<|o1 E z<|?_
  cases m
  exact ⟨z,H.reads Y0⟩
 ·refine pk 5 E (kc 7 z b) z λ a E=>nt<|wR<|o1 E z<|?_
  cases m
  exact ⟨z,H.reads Y0⟩

def I6(x1:eQ)(b:Int)(c:Bool):Option Bool:=
  if c=true then (Fy.bind λ e=>(idx ([0,13,2,19,18,16,16,20]:List Int) x1.Kind).bind λ d=>if ((Ov .i64 b d) == 0)=true then (if (x1.Kind != 7)=true then (some (true)) else (some (decide (x1.Owner > 0)))) else (some (false))) else (some (false))
def I7(x1:eQ)(b:Int):Option Bool:=
  if (decide (x1.Version ≥ (-1)))=true then (I6 x1 b (decide (x1.Version <= 281474976710656))) else (I6 x1 b false)
def I8(x1:eQ)(b:Int):Option Bool:=
  if (sEq x1.Path (ByteArray.mk #[47]))=true then (I7 x1 (ior .i64 b 16)) else (I7 x1 b)
def I9(x1:eQ)(b:Int):Option Bool:=
  if x1.Turns=true then (I8 x1 (ior .i64 b 8)) else (I8 x1 b)
def J1(x1:eQ)(b:Int):Option Bool:=
  if (x1.Owner != 0)=true then (I9 x1 (ior .i64 b 4)) else (I9 x1 b)
def J2(x1:eQ)(b:Int):Option Bool:=
  if (x1.Version != 0)=true then (J1 x1 (ior .i64 b 2)) else (J1 x1 b)
def tX(x1:eQ)(b:Bool):Option Bool:=
  if b=true then (some (false)) else (if (!(sEq x1.Data (ByteArray.mk #[])))=true then (J2 x1 (ior .i64 0 1)) else (J2 x1 0))
def V5(x1:eQ):Option Bool:=
  if (decide (x1.Kind < 1))=true then (tX x1 true) else (if (decide (x1.Kind > 7))=true then (tX x1 true) else ((fU x1.Path).bind λ b=>if (!b)=true then (tX x1 true) else (if (decide ((x1.Data.size:Int) > 256))=true then (tX x1 true) else ((T8 x1.Owner 1099511627776).bind λ c=>tX x1 (!c)))))
theorem Ku{x1:eQ}(H:Sep w (Fo) rs){r:Bool}(m:V5 x1=some r) :
    Cf 222 [.agg (tU x1).toArray] w λ v w'=>.bool r=v/\Sep w' (Fo) (rs):=by
 unfold V5 at m
 refine ent Tryz.func222 z Tryz.ntmps222 z z λ a E=>sq<|bx E H z λ e w a H E=>pn 1 E z λ a E=>wS<|aN (λ a w=>∃ C,Jn 83 a w [(1,pt e 0),(30,.bool C)] (Blk e 134 (tU x1)::Fo) rs (tX x1 C=some r)) ?_ ?_
 ·refine wG<|pr 1 E z λ a E=>lb2 E H 0 U3 z λ a E=>pr 2 E z λ a E=>cs m (λ i m=>?_) λ i m=>?_
  ·exact pk 22 E (kc 8 z i) z λ a E=>nt<|⟨_,_,E.to z,H,Y0,m⟩
  ·refine pk 1 E (kc 8 z i) z λ a E=>gl 8 E H 0 i U3 z λ a E=>pk 3 E (kc 8 z i) z λ a E=>cs m (λ f m=>?_) λ f m=>?_
   ·exact pk 17 E (kc 13 z f) z λ a E=>nt<|⟨_,_,E.to z,H,Y0,m⟩
   ·refine pk 1 E (kc 13 z f) z λ a E=>gl 13 E H 0 f U9 z λ a E=>bd m λ Q D m=>gc 13 E f z (cf_ 83) (jQ H D)<|?_
    rintro _ w ⟨rfl,H⟩ a E
    refine pk 3 E (kc 13 z f) z λ a E=>cs m (λ j m=>?_) λ j m=>?_
    ·exact pk 11 E (kc 19 z j) z λ a E=>nt<|⟨_,_,E.to z,H,Y0,m⟩
    ·refine pk 1 E (kc 19 z j) z λ a E=>gl 19 E H 0 j U9 z λ a E=>pk 4 E (kc 19 z j) z λ a E=>cs m (λ g m=>?_) λ g m=>?_
     ·exact pk 5 E (kc 25 z g) z λ a E=>nt<|⟨_,_,E.to z,H,Y0,m⟩
     ·refine pk 1 E (kc 25 z g) z λ a E=>gl 25 E H 0 g U2 z λ a E=>bd m λ R F m=>gc 25 E g z (cf_ 287) (Po H F)<|?_
      rintro _ w ⟨rfl,H⟩ a E
      exact pk 2 E (kc 25 z g) z λ a E=>nt<|⟨_,_,E.to z,H,Y0,m⟩
 ·clear E H m
  rintro a w ⟨C,S,E,H,p,m⟩
  unfold tX at m
  refine wif E m z (λ m=>?_) λ m=>?_
  ·refine sq<|pn 1 E z λ a E=>wR<|aH<|o1 E z<|have H:=H.drop 0;?_
   cases m
   exact ⟨z,H.reads p⟩
  ·refine wK<|aA<|sq<|pn 1 E z λ a E=>aN (λ a w=>∃ G,Jn 83 a w [(1,pt e 0),(3,.int .i64 G)] (Blk e 134 (tU x1)::Fo) rs (J2 x1 G=some r)) ?_ ?_
   ·refine sp 1 E z λ a E=>lb2 E H 0 U9 z λ a E=>pn 1 E z λ a E=>wif E m z (λ m=>?_) λ m=>?_
    ·exact wG<|pn 3 E z λ a E=>⟨_,_,E.to z,H,p,m⟩
    ·exact wK<|aA<|⟨_,_,E.to z,H,p,m⟩
   ·clear E H m
    rintro a w ⟨G,T,E,H,B,m⟩
    unfold J2 at m
    refine aN (λ a w=>∃ I,Jn 83 a w [(1,pt e 0),(3,.int .i64 I)] (Blk e 134 (tU x1)::Fo) rs (J1 x1 I=some r)) ?_ ?_
    ·refine sp 1 E z λ a E=>lb2 E H 0 U2 z λ a E=>pn 1 E z λ a E=>wif E m z (λ m=>?_) λ m=>?_
     ·exact wG<|pn 3 E z λ a E=>⟨_,_,E.to z,H,B,m⟩
     ·exact wK<|aA<|⟨_,_,E.to z,H,B,m⟩
    ·clear E H m
     rintro a w ⟨I,L,E,H,q,m⟩
     unfold J1 at m
     refine aN (λ a w=>∃ s,Jn 83 a w [(1,pt e 0),(3,.int .i64 s)] (Blk e 134 (tU x1)::Fo) rs (I9 x1 s=some r)) ?_ ?_
     ·refine sp 1 E z λ a E=>lb2 E H 0 U2 z λ a E=>pn 1 E z λ a E=>wif E m z (λ m=>?_) λ m=>?_
      ·exact wG<|pn 3 E z λ a E=>⟨_,_,E.to z,H,q,m⟩
      ·exact wK<|aA<|⟨_,_,E.to z,H,q,m⟩
     ·clear E H m
      rintro a w ⟨s,M,E,H,t,m⟩
      unfold I9 at m
      refine aN (λ a w=>∃ u,Jn 83 a w [(1,pt e 0),(3,.int .i64 u)] (Blk e 134 (tU x1)::Fo) rs (I8 x1 u=some r)) ?_ ?_
      ·refine sp 1 E z λ a E=>lb2 E H 0 U4 z λ a E=>nt<|wif E m z (λ m=>?_) λ m=>?_
       ·exact wG<|pn 3 E z λ a E=>⟨_,_,E.to z,H,t,m⟩
       ·exact wK<|aA<|⟨_,_,E.to z,H,t,m⟩
      ·clear E H m
       rintro a w ⟨u,N,E,H,x,m⟩
       unfold I8 at m
       refine aN (λ a w=>∃ o,Jn 83 a w [(1,pt e 0),(3,.int .i64 o)] (Blk e 134 (tU x1)::Fo) rs (I7 x1 o=some r)) ?_ ?_
       ·refine sp 1 E z λ a E=>lb2 E H 0 U9 z λ a E=>pn 1 E z λ a E=>wif E m z (λ m=>?_) λ m=>?_
        ·exact wG<|pn 3 E z λ a E=>⟨_,_,E.to z,H,x,m⟩
        ·exact wK<|aA<|⟨_,_,E.to z,H,x,m⟩
       ·clear E H m
        rintro a w ⟨o,O,E,H,y,m⟩
        unfold I7 at m
        refine aN (λ a w=>∃ A,Jn 83 a w [(1,pt e 0),(3,.int .i64 o),(4,.bool A)] (Blk e 134 (tU x1)::Fo) rs (I6 x1 o A=some r)) ?_ ?_
        ·refine wG<|pr 1 E z λ a E=>lb2 E H 0 U2 z λ a E=>pr 2 E z λ a E=>cs m (λ k m=>?_) λ k m=>?_
         ·exact pk 1 E (kc 58 z k) z λ a E=>gl 58 E H 0 k U2 z λ a E=>pk 3 E (kc 58 z k) z λ a E=>nt<|⟨_,_,E.to z,H,y,m⟩
         ·exact pk 5 E (kc 58 z k) z λ a E=>nt<|⟨_,_,E.to z,H,y,m⟩
        ·clear E H m
         rintro a w ⟨A,P,E,H,n,m⟩
         unfold I6 at m
         refine wS<|dw [(0,0),(1,0),(2,0),(4,0),(5,0),(3,1),(6,0),(7,0),(8,0),(9,0),(10,0),(11,0),(12,0),(13,0),(14,0),(15,0),(16,0),(17,0),(18,0),(19,0),(20,2)] [0] [] H (by kernel_rfl) (λ _ _ _ h=>False.elim h.2) λ w W0 hI H=>fn 2 E z λ a E=>cs m (λ b m=>?_) λ b m=>?_
         ·refine fk 2 E (kc 64 z b) z λ a E=>fb E z (ws' (d:=64) E z z z z b) z z z z m0 z U3 z λ a E=>bQ z<|bd m λ U J m=>gc 64 E b z (cf_ 288) (Ri H J)<|?_
          rintro _ w ⟨rfl,H⟩ a E
          refine nt<|⟨sx H [0] z,bd m λ V K m=>dL E z (ws' (d:=64) E z z z z b) z z (λ w hW=>(GG (vs:=[.int .i64 0,.int .i64 13,.int .i64 2,.int .i64 19,.int .i64 18,.int .i64 16,.int .i64 16,.int .i64 20]) E z z z KT z sz3 U3 z (GH (Value.int .i64) (xs:=([0,13,2,19,18,16,16,20]:List Int)) K))) λ a E=>fk 4 E (kc 64 z b) z λ a E=>cs m (λ c m=>?_) λ c m=>?_⟩
          ·refine fk 1 E (kc 73 z c) z λ a E=>fb E z (ws' (d:=73) E z z z z c) z z z z m0 z U3 z λ a E=>fk 2 E (kc 73 z c) z λ a E=>cs m (λ l m=>?_) λ l m=>?_
           ·refine fk 5 E (kc' (kc 77 z l) 73 z c) z λ a E=>bH z<|pn 1 E z λ a E=>bG<|?_
            clear hI
            refine aA<|wR<|o1 E z<|have H:=H.drop 0;?_
            cases m
            exact ⟨z,H.reads n⟩
           ·refine fk 1 E (kc 77 z l) z λ a E=>fb E z (ws' (d:=77) E z z z z l) z z z z m0 z U2 z λ a E=>fk 3 E (kc' (kc 77 z l) 73 z c) z λ a E=>bH z<|pn 1 E z λ a E=>bG<|?_
            clear hI
            refine aA<|wR<|o1 E z<|have H:=H.drop 0;?_
            cases m
            exact ⟨z,H.reads n⟩
          ·refine fk 9 E (kc 73 z c) z λ a E=>bH z<|pn 1 E z λ a E=>bG<|?_
           clear hI
           refine aA<|wR<|o1 E z<|have H:=H.drop 0;?_
           cases m
           exact ⟨z,H.reads n⟩
         ·refine fk 3 E (kc 64 z b) z λ a E=>bQ z<|pk 1 E (kc 64 z b) z λ a E=>nt<|⟨sx H [0] z,fk 14 E (kc 64 z b) z λ a E=>bH z<|pn 1 E z λ a E=>bG<|?_⟩
          clear hI
          refine aA<|wR<|o1 E z<|have H:=H.drop 0;?_
          cases m
          exact ⟨z,H.reads n⟩

def mP(b:Int):Option Bool:=
  some (decide (b ≥ 5000))
def gG(b:List aG):Nat->Int->Int->Option Bool
  | 0,_,_=>none
  | f+1,c,d=>
    if (decide (d < (b.length:Int)))=true then (if (decide (c < 5000))=true then ((idx b d).bind λ e=>(idx b d).bind λ x20=>gG b f (IntKind.i64.wrap ((IntKind.i64.wrap (c+(min (e.Path.size:Int) 5000)))+(min (x20.Data.size:Int) 5000))) (IntKind.i64.wrap (d+1))) else (mP c)) else (mP c)
def tJ(b:List aG):Option Bool:=
  gG b 5002 (IntKind.i64.wrap (3 * (b.length:Int))) 0
theorem Gh{f:Value}{g:List aG}(H:Sep w (Fo) rs)(e:rSl aB f g ∈ rs){r:Bool}(m:tJ g=some r) :
    Cf 39 [f] w λ v w'=>.bool r=v/\Sep w' (Fo) (rs):=by
 unfold tJ at m
 refine ent Tryz.func39 z Tryz.ntmps39 z z λ a E=>sp 1 E z λ a E=>xp 1 E z λ a E=>lS E H e U22 z λ a E=>pn 2 E z λ a E=>aN (λ a w=>∃ i,Jn 37 a w [(3,.int .i64 i)] (Fo) rs (mP i=some r)) ?_ ?_
 ·refine sq<|pn 1 E z λ a E=>wB<|bL (λ d a w=>∃ j l,Jn 37 a w [(0,f),(3,.int .i64 j),(4,.int .i64 l)] (Fo) rs (gG g d j l=some r)) (5002) ?_ ?_
  ·exact X3 ⟨E.to z,H,Y0,m⟩
  ·clear E H m
   rintro d a w ⟨j,l,B,E,H,b,m⟩
   cases d with
   | zero=>exact (bF m z).elim
   | succ d=>
    unfold gG at m
    refine wS<|sp 2 E z λ a E=>lS E H (b _ e) U22 z λ a E=>pr 2 E z λ a E=>cs m (λ c m=>?_) λ c m=>?_
    ·refine pk 3 E (kc 12 z c) z λ a E=>nt<|wif E m z (λ m=>?_) λ m=>?_
     ·refine wK<|aA<|wS<|wB<|?_
      obtain ⟨C,H⟩:=H.raw (b _ e)
      refine dw [(0,0),(1,0),(2,0),(3,0),(4,0),(5,0),(6,0),(7,0),(8,0),(9,0),(10,0),(11,0),(12,0),(13,0),(14,0),(15,0),(16,0),(17,2)] [] [0] H (by kernel_rfl) (λ _ _ _ h=>False.elim h.2) λ w W0 hI H=>fn 3 E z λ a E=>bd m λ D n m=>?_
      obtain ⟨q15,F,o,p⟩:=fB (P:=Tryz.prog) (k:=.i64) hI (fA (.head _)) U22 gM n
      refine fv E z (λ w hW=>gO E z z z (o w)) λ a E=>?_
      have q:=pF p (λ _ _ _ h=>Pb h)
      refine fn 1 E z λ a E=>fa E z (wn z) z z z z q U9 z λ a E=>fn 1 E z λ a E=>fv E z (λ w hW=>(Mn (t:=0) E z z z)) λ a E=>fn 3 E z λ a E=>bd m λ x20 s m=>?_
      obtain ⟨q22,G,u,x⟩:=fB (P:=Tryz.prog) (k:=.i64) hI (fA (.head _)) U22 gM s
      refine fv E z (λ w hW=>gO E z z z (u w)) λ a E=>?_
      have y:=pF x (λ _ _ _ h=>Pc h)
      refine fn 1 E z λ a E=>fa E z (wn z) z z z z y U9 z λ a E=>fn 1 E z λ a E=>fv E z (λ w hW=>(Mn (t:=0) E z z z)) λ a E=>fn 1 E z λ a E=>bH z<|pn 1 E z λ a E=>bG<|?_
      clear hI
      exact bR<|aA<|wG<|pn 3 E z λ a E=>⟨d,nL d,X3 ⟨E.to z,H,(Y1 b),m⟩⟩
     ·exact wX<|aW<|aW<|cT<|aA<|⟨_,_,E.to z,H,b,m⟩
    ·exact pk 3 E (kc 12 z c) z λ a E=>nt<|wp_cond_false (E.eval z)<|wX<|aW<|aW<|cT<|aA<|⟨_,_,E.to z,H,b,m⟩
 ·clear E H m
  rintro a w ⟨i,I,E,H,A,m⟩
  unfold mP at m
  refine sq<|pn 3 E z λ a E=>wR<|o1 E z<|?_
  cases m
  exact ⟨z,H.reads A⟩

def nI(c:List ByteArray)(d:List ByteArray):Nat->Int->Option Bool
  | 0,_=>none
  | g+1,b=>
    if (decide (b < (c.length:Int)))=true then ((idx c b).bind λ e=>(idx d b).bind λ f=>if (!(sEq e f))=true then (some (false)) else (nI c d g (IntKind.i64.wrap (b+1)))) else (some (true))
def uU(b:List ByteArray)(c:List ByteArray):Option Bool:=
  if ((b.length:Int) != (c.length:Int))=true then (some (false)) else (nI b c (((b.length:Int) - 0:Int).toNat+1) 0)
theorem Hl{g i:Value}{e j:List ByteArray}(H:Sep w (Fo) rs)(d:rSl kS g e ∈ rs)(f:rSl kS i j ∈ rs){r:Bool}(m:uU e j=some r) :
    Cf 124 [g,i] w λ v w'=>.bool r=v/\Sep w' (Fo) (rs):=by
 unfold uU at m
 refine ent Tryz.func124 z Tryz.ntmps124 z z λ a E=>sq<|pn 1 E z λ a E=>wS<|sp 1 E z λ a E=>lS E H d U33 z λ a E=>pr 1 E z λ a E=>lS E H f U33 z λ a E=>pn 1 E z λ a E=>wif E m z (λ m=>?_) λ m=>?_
 ·refine sq<|pn 1 E z λ a E=>wR<|aH<|o1 E z<|?_
  cases m
  exact ⟨z,H.reads Y0⟩
 ·refine wK<|aA<|wS<|sq<|pn 1 E z λ a E=>wB<|bL (λ c a w=>∃ l,Jn 26 a w [(0,g),(1,i),(5,.int .i64 l)] (Fo) rs (nI e j c l=some r)) (((e.length:Int) - 0:Int).toNat+1) ?_ ?_
  ·exact ⟨_,_,E.to z,H,Y0,m⟩
  ·clear E H m
   rintro c a w ⟨l,u,E,H,b,m⟩
   cases c with
   | zero=>exact (bF m z).elim
   | succ c=>
    unfold nI at m
    refine wS<|sp 2 E z λ a E=>lS E H (b _ d) U33 z λ a E=>pn 1 E z λ a E=>wif E m z (λ m=>?_) λ m=>?_
    ·refine wK<|aA<|wS<|wB<|wS<|?_
     obtain ⟨x,H⟩:=H.raw (b _ d)
     obtain ⟨y,H⟩:=H.raw (t1 (b _ f))
     refine dw [(0,0),(1,0),(2,0),(3,0),(4,0),(5,0),(6,0),(7,0),(8,0)] [] [1,0] H (by kernel_rfl) (λ _ _ _ h=>False.elim h.2) λ w W0 hI H=>fn 2 E z λ a E=>bd m λ A n m=>?_
     obtain ⟨q14,B,o,p⟩:=fB (P:=Tryz.prog) (k:=.i64) hI (fA (.head _)) U33 sz9 n
     refine fv E z (λ w hW=>gO E z z z (o w)) λ a E=>fa E z (wn z) z z z z p U9 z λ a E=>fn 2 E z λ a E=>bd m λ C q m=>?_
     obtain ⟨q20,D,s,t⟩:=fB (P:=Tryz.prog) (k:=.i64) hI (fA (.tail _ (.head _))) U33 sz9 q
     refine fv E z (λ w hW=>gO E z z z (s w)) λ a E=>fa E z (wn z) z z z z t U9 z λ a E=>fn 1 E z λ a E=>bG<|?_
     clear hI
     refine aA<|wif E m z (λ m=>?_) λ m=>?_
     ·refine sq<|pn 1 E z λ a E=>wR<|bM<|aH<|aH<|bM<|aH<|o1 E z<|?_
      cases m
      exact ⟨z,H.reads (Y2 b)⟩
     ·exact wK<|bR<|aA<|wG<|pn 3 E z λ a E=>⟨c,nL c,_,_,E.to z,H,(Y2 b),m⟩
    ·refine wX<|aW<|aW<|cT<|aA<|sq<|pn 1 E z λ a E=>wR<|o1 E z<|?_
     cases m
     exact ⟨z,H.reads b⟩

def nJ(e:List aG)(f:List aG):Nat->Int->Option Bool
  | 0,_=>none
  | g+1,d=>
    if (decide (d < (e.length:Int)))=true then ((idx e d).bind λ b=>(idx f d).bind λ c=>if (!((sEq b.Path c.Path) && ((sEq b.Data c.Data) && ((b.Version == c.Version) && ((b.Turn == c.Turn) && (b.Owner == c.Owner))))))=true then (some (false)) else (nJ e f g (IntKind.i64.wrap (d+1)))) else (some (true))
def uV(b:List aG)(c:List aG):Option Bool:=
  if ((b.length:Int) != (c.length:Int))=true then (some (false)) else (nJ b c (((b.length:Int) - 0:Int).toNat+1) 0)
theorem Hm{j l:Value}{g n:List aG}(H:Sep w (Fo) rs)(f:rSl aB j g ∈ rs)(i:rSl aB l n ∈ rs){r:Bool}(m:uV g n=some r) :
    Cf 55 [j,l] w λ v w'=>.bool r=v/\Sep w' (Fo) (rs):=by
 unfold uV at m
 refine ent Tryz.func55 z Tryz.ntmps55 z z λ a E=>sq<|pn 1 E z λ a E=>wS<|sp 1 E z λ a E=>lS E H f U22 z λ a E=>pr 1 E z λ a E=>lS E H i U22 z λ a E=>pn 1 E z λ a E=>wif E m z (λ m=>?_) λ m=>?_
 ·refine sq<|pn 1 E z λ a E=>wR<|aH<|o1 E z<|?_
  cases m
  exact ⟨z,H.reads Y0⟩
 ·refine wK<|aA<|wS<|sq<|pn 1 E z λ a E=>wB<|bL (λ e a w=>∃ o,Jn 26 a w [(0,j),(1,l),(5,.int .i64 o)] (Fo) rs (nJ g n e o=some r)) (((g.length:Int) - 0:Int).toNat+1) ?_ ?_
  ·exact ⟨_,_,E.to z,H,Y0,m⟩
  ·clear E H m
   rintro e a w ⟨o,y,E,H,d,m⟩
   cases e with
   | zero=>exact (bF m z).elim
   | succ e=>
    unfold nJ at m
    refine wS<|sp 2 E z λ a E=>lS E H (d _ f) U22 z λ a E=>pn 1 E z λ a E=>wif E m z (λ m=>?_) λ m=>?_
    ·refine wK<|aA<|wS<|wB<|wS<|?_
     obtain ⟨A,H⟩:=H.raw (d _ f)
     obtain ⟨B,H⟩:=H.raw (t1 (d _ i))
     refine dw [(0,0),(1,0),(2,0),(3,0),(4,0),(5,0),(6,0),(7,0),(8,0)] [] [1,0] H (by kernel_rfl) (λ _ _ _ h=>False.elim h.2) λ w W0 hI H=>fn 2 E z λ a E=>bd m λ b p m=>?_
     obtain ⟨q14,C,q,s⟩:=fB (P:=Tryz.prog) (k:=.i64) hI (fA (.head _)) U22 gM p
     refine fv E z (λ w hW=>gO E z z z (q w)) λ a E=>fv E z (λ w hW=>kK E z z (yJ (cs:=[.string b.Path,.string b.Data,.int .i64 b.Version,.int .i64 b.Turn,.int .i64 b.Owner]) (DR.ir (w9 s)) (λ _ _ _ h=>yK h) zS z gM w hW)) λ a E=>fn 2 E z λ a E=>bd m λ c t m=>?_
     obtain ⟨q20,D,u,x⟩:=fB (P:=Tryz.prog) (k:=.i64) hI (fA (.tail _ (.head _))) U22 gM t
     refine fv E z (λ w hW=>gO E z z z (u w)) λ a E=>fv E z (λ w hW=>kK E z z (yJ (cs:=[.string c.Path,.string c.Data,.int .i64 c.Version,.int .i64 c.Turn,.int .i64 c.Owner]) (DR.ir (w9 x)) (λ _ _ _ h=>yK h) zS z gM w hW)) λ a E=>fv E z (λ w hW=>(xJ E z z z (v:=.bool (!((sEq b.Path c.Path) && ((sEq b.Data c.Data) && ((b.Version == c.Version) && ((b.Turn == c.Turn) && (b.Owner == c.Owner))))))) (Gu MK (V8 zS MJ (rX (by rfl) (by kernel_rfl) (by kernel_rfl) (O1 U9) (rX (by rfl) (by kernel_rfl) (by kernel_rfl) (O1 U9) (rX (by rfl) (by kernel_rfl) (by kernel_rfl) (A3 U2) (rX (by rfl) (by kernel_rfl) (by kernel_rfl) (A3 U2) (Ao (by rfl) (by kernel_rfl) (by kernel_rfl) (A3 U2)))))))))) λ a E=>bG<|?_
     clear hI
     refine aA<|wif E m z (λ m=>?_) λ m=>?_
     ·refine sq<|pn 1 E z λ a E=>wR<|bM<|aH<|aH<|bM<|aH<|o1 E z<|?_
      cases m
      exact ⟨z,H.reads (Y2 d)⟩
     ·exact wK<|bR<|aA<|wG<|pn 3 E z λ a E=>⟨e,nL e,_,_,E.to z,H,(Y2 d),m⟩
    ·refine wX<|aW<|aW<|cT<|aA<|sq<|pn 1 E z λ a E=>wR<|o1 E z<|?_
     cases m
     exact ⟨z,H.reads d⟩

def rE(x1:cN)(x3:cN):Option Bool:=
  if (x1.Err == x3.Err)=true then (if (sEq x1.Path x3.Path)=true then (if (sEq x1.Data x3.Data)=true then (if (x1.Version == x3.Version)=true then ((uU x1.Names x3.Names).bind λ b=>some (b)) else (some (false))) else (some (false))) else (some (false))) else (some (false))
theorem Dl{x1 x3:cN}{g i:Value}(H:Sep w (Fo) rs)(j:rSl kS g x1.Names ∈ rs)(k:rSl kS i x3.Names ∈ rs){r:Bool}(m:rE x1 x3=some r) :
    Cf 58 [.agg (P7 x1 g).toArray,.agg (P7 x3 i).toArray] w λ v w'=>.bool r=v/\Sep w' (Fo) (rs):=by
 unfold rE at m
 refine ent Tryz.func58 z Tryz.ntmps58 z z λ a E=>sq<|bx E H z λ n w a H E=>bx E H z λ o w a H E=>pr 1 E z λ a E=>xp 1 E z λ a E=>lb2 E H 1 U41 z λ a E=>pr 1 E z λ a E=>lb2 E H 0 U41 z λ a E=>pr 2 E z λ a E=>cs m (λ e m=>?_) λ e m=>?_
 ·refine pk 1 E (kc 10 z e) z λ a E=>gl 10 E H 1 e U9 z λ a E=>pk 1 E (kc 10 z e) z λ a E=>gl 10 E H 0 e U9 z λ a E=>pk 3 E (kc 10 z e) z λ a E=>cs m (λ c m=>?_) λ c m=>?_
  ·refine pk 1 E (kc 17 z c) z λ a E=>gl 17 E H 1 c U9 z λ a E=>pk 1 E (kc 17 z c) z λ a E=>gl 17 E H 0 c U9 z λ a E=>pk 3 E (kc 17 z c) z λ a E=>cs m (λ d m=>?_) λ d m=>?_
   ·refine pk 1 E (kc 24 z d) z λ a E=>gl 24 E H 1 d U2 z λ a E=>pk 1 E (kc 24 z d) z λ a E=>gl 24 E H 0 d U2 z λ a E=>pk 3 E (kc 24 z d) z λ a E=>cs m (λ b m=>?_) λ b m=>?_
    ·refine pk 1 E (kc 31 z b) z λ a E=>gl 31 E H 1 b U33 z λ a E=>pk 1 E (kc 31 z b) z λ a E=>gl 31 E H 0 b U33 z λ a E=>bd m λ l f m=>gc 31 E b z (cf_ 124) (Hl H j k f)<|?_
     rintro _ w ⟨rfl,H⟩ a E
     refine pk 2 E (kc 31 z b) z λ a E=>nt<|wR<|o1 E z<|have H:=H.drs [0,0];?_
     cases m
     exact ⟨z,H.reads Y0⟩
    ·refine pk 7 E (kc 31 z b) z λ a E=>nt<|wR<|o1 E z<|have H:=H.drs [0,0];?_
     cases m
     exact ⟨z,H.reads Y0⟩
   ·refine pk 14 E (kc 24 z d) z λ a E=>nt<|wR<|o1 E z<|have H:=H.drs [0,0];?_
    cases m
    exact ⟨z,H.reads Y0⟩
  ·refine pk 21 E (kc 17 z c) z λ a E=>nt<|wR<|o1 E z<|have H:=H.drs [0,0];?_
   cases m
   exact ⟨z,H.reads Y0⟩
 ·refine pk 28 E (kc 10 z e) z λ a E=>nt<|wR<|o1 E z<|have H:=H.drs [0,0];?_
  cases m
  exact ⟨z,H.reads Y0⟩

def X1(x1:eQ):Option Bool:=
  (V5 x1).bind λ b=>some (!b)
theorem Rj{x1:eQ}(H:Sep w (Fo) rs){r:Bool}(m:X1 x1=some r) :
    Cf 221 [.agg (tU x1).toArray] w λ v w'=>.bool r=v/\Sep w' (Fo) (rs):=by
 unfold X1 at m
 refine ent Tryz.func221 z Tryz.ntmps221 z z λ a E=>sq<|bx E H z λ c w a H E=>pr 1 E z λ a E=>nx<|ln 0 (tU x1) E H Tp z Br λ a E=>bd m λ d b m=>xk2 E z (cf_ 222) (Ku H b) λ w H a E=>pr 2 E z λ a E=>nt<|wR<|o1 E z<|have H:=H.drop 0;?_
 cases m
 exact ⟨z,H.reads Y0⟩

def kF(c:List eQ):Nat->Int->Option Int
  | 0,_=>none
  | e+1,b=>
    if (decide (b < (c.length:Int)))=true then ((idx c b).bind λ f=>(X1 f).bind λ d=>if d=true then (some (b)) else (kF c e (IntKind.i64.wrap (b+1)))) else (some ((-1)))
def qZ(b:List eQ):Option Int:=
  kF b (((b.length:Int) - 0:Int).toNat+1) 0
theorem N7{f:Value}{d:List eQ}(H:Sep w (Fo) rs)(e:rSl M9 f d ∈ rs){r:Int}(m:qZ d=some r) :
    Cf 286 [f,.func (.func 221) #[] #[]] w λ v w'=>.int .i64 r=v/\Sep w' (Fo) (rs):=by
 unfold qZ at m
 refine ent Tryz.func286 z Tryz.ntmps286 z z λ a E=>sq<|pn 1 E z λ a E=>wS<|sp 1 E z λ a E=>lS E H e Pi z λ a E=>pr 1 E z λ a E=>nt<|wB<|bL (λ c a w=>∃ g,Jn 19 a w [(0,f),(1,.func (.func 221) #[] #[]),(7,.int .i64 (d.length:Int)),(8,.int .i64 g)] (Fo) rs (kF d c g=some r)) (((d.length:Int) - 0:Int).toNat+1) ?_ ?_
 ·exact ⟨_,_,E.to z,H,Y0,m⟩
 ·clear E H m
  rintro c a w ⟨g,k,E,H,b,m⟩
  cases c with
  | zero=>exact (bF m z).elim
  | succ c=>
   unfold kF at m
   refine sq<|pn 1 E z λ a E=>wS<|wif E m z (λ m=>?_) λ m=>?_
   ·refine wK<|aA<|wS<|wB<|sp 2 E z λ a E=>xp 3 E z λ a E=>bd m λ n j m=>dP E H (wn z) z z z z z (b _ e) Pi Br j λ q9 a H E=>ldf Fw E H z z z z z m0 Tp z Br λ a E=>bd m λ l i m=>bK E (wn z) z z (bO E z z z ((cf_ 221) _)) (Rj H i)<|?_
    rintro _ w ⟨rfl,H⟩ a E
    refine nt<|wif E m z (λ m=>?_) λ m=>?_
    ·refine sq<|pn 2 E z λ a E=>wR<|bM<|aH<|aH<|bM<|aH<|o1 E z<|?_
     cases m
     exact ⟨z,H.reads (Y1 b)⟩
    ·exact wK<|bR<|aA<|wG<|pn 2 E z λ a E=>⟨c,nL c,_,_,E.to z,H,(Y1 b),m⟩
   ·refine wX<|aW<|aW<|cT<|aA<|sq<|pn 1 E z λ a E=>wR<|o1 E z<|?_
    cases m
    exact ⟨z,H.reads b⟩

def oU(b:List eQ):Option Bool:=
  (qZ b).bind λ c=>some (decide (c ≥ 0))
theorem J3{b:Value}{c:List eQ}(H:Sep w (Fo) rs)(d:rSl M9 b c ∈ rs){r:Bool}(m:oU c=some r) :
    Cf 220 [b,.func (.func 221) #[] #[]] w λ v w'=>.bool r=v/\Sep w' (Fo) (rs):=by
 unfold oU at m
 refine ent Tryz.func220 z Tryz.ntmps220 z z λ a E=>sp 1 E z λ a E=>xp 2 E z λ a E=>bd m λ f e m=>xk2 E z (cf_ 286) (N7 H d e) λ w H a E=>pn 2 E z λ a E=>wR<|o1 E z<|?_
 cases m
 exact ⟨z,H.reads Y0⟩

def Cm(b:List eQ):Option Bool:=
  (oU b).bind λ c=>if (decide ((b.length:Int) > 0))=true then (if (decide ((b.length:Int) <= 8))=true then (some (!c)) else (some (false))) else (some (false))
theorem Vz{e:Value}{f:List eQ}(H:Sep w (Fo) rs)(c:rSl M9 e f ∈ rs){r:Bool}(m:Cm f=some r) :
    Cf 140 [e] w λ v w'=>.bool r=v/\Sep w' (Fo) (rs):=by
 unfold Cm at m
 refine ent Tryz.func140 z Tryz.ntmps140 z z λ a E=>sp 1 E z λ a E=>xp 1 E z λ a E=>bd m λ i g m=>xk2 E z (cf_ 220) (J3 H c g) λ w H a E=>pr 1 E z λ a E=>nx<|pr 1 E z λ a E=>lS E H c Pi z λ a E=>pr 2 E z λ a E=>cs m (λ b m=>?_) λ b m=>?_
 ·refine pk 1 E (kc 9 z b) z λ a E=>gv 9 E b z (tG E H z z c Pi) λ a E=>pk 3 E (kc 9 z b) z λ a E=>cs m (λ d m=>?_) λ d m=>?_
  ·refine pk 4 E (kc 14 z d) z λ a E=>nt<|wR<|o1 E z<|?_
   cases m
   exact ⟨z,H.reads Y0⟩
  ·refine pk 4 E (kc 14 z d) z λ a E=>nt<|wR<|o1 E z<|?_
   cases m
   exact ⟨z,H.reads Y0⟩
 ·refine pk 9 E (kc 9 z b) z λ a E=>nt<|wR<|o1 E z<|?_
  cases m
  exact ⟨z,H.reads Y0⟩

def uL(b:List bE)(c:List bE):Option En:=
  (ck (c.length+b.length <= LIM)).bind λ d=>some (c ++ b)
theorem zD{c d:Value}{e f:List bE}{b:Nat}(H:Sep w (Blk b 192 [d]::Row 97 cP d f::Fo) rs)(g:rSl cP c e ∈ rs){r:En}(m:uL e f=some r) :
    Cf 223 [c,pt b 0] w λ v w'=>∃ j,.tuple #[]=v/\Sep w' (Blk b 192 [j]::Row 97 cP j r::Fo) (rs):=by
 unfold uL at m
 refine ent Tryz.func223 z Tryz.ntmps223 z z λ a E=>wG<|lb2 E H 0 Tr z λ a E=>pr 1 E z λ a E=>bk m λ k m=>eZ (i:=1) E H (wn z) z z z z z z (nW g) Tr PA z k z λ n w a H E=>?_
 obtain ⟨q10,l,rfl⟩:=H.rowform (i:=1) z
 refine ss 0 E H z PB z λ w H=>wN<|vX E z<|?_
 cases m
 exact ⟨_,z,H.reads Y0⟩

def zE(x1:Int)(b:ByteArray)(c:ByteArray):Option bE:=
  some ((⟨x1,b,c,(ByteArray.mk #[]),0,0,false⟩:bE))
theorem L5{x1:Int}{j k:Nat}{b c:ByteArray}{d e f g i:Value}(H:Sep w (Blk j 9 [.string b]::Blk k 134 [d,.string c,e,f,g,i]::Fo) rs){r:bE}(m:zE x1 b c=some r) :
    Cf 224 [.int .i64 x1,pt j 0,pt k 0] w λ v w'=>.agg (cB r).toArray=v/\Sep w' (Blk j 9 [.string b]::Blk k 134 [d,.string c,e,f,g,i]::Fo) (rs):=by
 unfold zE at m
 refine ent Tryz.func224 z Tryz.ntmps224 z z λ a E=>sq<|al2 E H z Lw λ l w a H E=>xp 1 E z λ a E=>lb2 E H 1 U9 z λ a E=>pr 1 E z λ a E=>lb2 E H 2 U9 z λ a E=>sv2 E z (cJ E z (E.evs z) (v:=.agg #[.int .i64 x1,.string b,.string c,.string (ByteArray.mk #[]),.int .i64 0,.int .i64 0,.bool false]) (by kernel_rfl)) λ a E=>ss 0 E H z mC z λ w H=>nt<|wR<|oB 0 [.int .i64 x1,.string b,.string c,.string (ByteArray.mk #[]),.int .i64 0,.int .i64 0,.bool false] E H U97 z mC<|have H:=H.drop 0;?_
 cases m
 exact ⟨z,H.reads Y0⟩

def L6(x1:Int)(b:ByteArray)(c:Int):Option bE:=
  some ((⟨x1,b,b,(ByteArray.mk #[]),0,c,false⟩:bE))
theorem Cn{x1 c:Int}{g:Nat}{b:ByteArray}{i d e f:Value}(H:Sep w (Blk g 134 [i,.string b,d,e,.int .i64 c,f]::Fo) rs){r:bE}(m:L6 x1 b c=some r) :
    Cf 225 [.int .i64 x1,pt g 0] w λ v w'=>.agg (cB r).toArray=v/\Sep w' (Blk g 134 [i,.string b,d,e,.int .i64 c,f]::Fo) (rs):=by
 unfold L6 at m
 refine ent Tryz.func225 z Tryz.ntmps225 z z λ a E=>sq<|al2 E H z Lw λ j w a H E=>xp 2 E z λ a E=>lb2 E H 1 U9 z λ a E=>pr 1 E z λ a E=>lb2 E H 1 U9 z λ a E=>pr 1 E z λ a E=>lb2 E H 1 U2 z λ a E=>sv2 E z (cJ E z (E.evs z) (v:=.agg #[.int .i64 x1,.string b,.string b,.string (ByteArray.mk #[]),.int .i64 0,.int .i64 c,.bool false]) (by kernel_rfl)) λ a E=>ss 0 E H z mC z λ w H=>nt<|wR<|oB 0 [.int .i64 x1,.string b,.string b,.string (ByteArray.mk #[]),.int .i64 0,.int .i64 c,.bool false] E H U97 z mC<|have H:=H.drop 0;?_
 cases m
 exact ⟨z,H.reads Y0⟩

def L7(x1:Int)(c:ByteArray)(d:ByteArray)(e:Int):Option bE:=
  (zE x1 c d).bind λ b=>some ((⟨b.Kind,b.Dir,b.Path,b.Data,e,b.Owner,b.Turns⟩:bE))
theorem Co{x1 c:Int}{k e d:Nat}{l n:ByteArray}{f g i j:Value}(H:Sep w (Blk k 258 [.func (.func 224) #[] #[pt e 0,pt d 0]]::Blk e 9 [.string l]::Blk d 134 [f,.string n,g,.int .i64 c,i,j]::Fo) rs){r:bE}(m:L7 x1 l n c=some r) :
    Cf 226 [.int .i64 x1,pt k 0,pt d 0] w λ v w'=>.agg (cB r).toArray=v/\Sep w' (Blk k 258 [.func (.func 224) #[] #[pt e 0,pt d 0]]::Blk e 9 [.string l]::Blk d 134 [f,.string n,g,.int .i64 c,i,j]::Fo) (rs):=by
 unfold L7 at m
 refine ent Tryz.func226 z Tryz.ntmps226 z z λ a E=>sq<|al2 E H z Lw λ p w a H E=>nx<|lb2 E H 1 Tq z λ a E=>pr 1 E z λ a E=>have H:=H.frs [1,1,3,3] z;bd m λ b o m=>bK E (wn z) z z (bO E z z z ((cf_ 224) _)) (L5 H o)<|?_
 rintro _ w ⟨rfl,H⟩ a E
 refine al2 E H z Lw λ q w a H E=>ss 0 E H z mC z λ w H=>xp 1 E z λ a E=>lb2 E H 2 U2 z λ a E=>pr 1 E z λ a E=>ss 0 E H z sz2 z λ w H=>nx<|ln 0 [.int .i64 b.Kind,.string b.Dir,.string b.Path,.string b.Data,.int .i64 c,.int .i64 b.Owner,.bool b.Turns] E H U97 z mC λ a E=>ss 3 E H z mC z λ w H=>nt<|wR<|oB 3 [.int .i64 b.Kind,.string b.Dir,.string b.Path,.string b.Data,.int .i64 c,.int .i64 b.Owner,.bool b.Turns] E H U97 z mC<|have H:=H.drs [0,2];have H:=H.frs [1,1,2] z;?_
 cases m
 exact ⟨z,H.reads Y0⟩

def F5(c:ByteArray):Option ByteArray:=
  (sW c).bind λ b=>if b.2=true then (some (b.1)) else (some ((ByteArray.mk #[47])))
theorem Hn{b:ByteArray}(H:Sep w (Fo) rs){r:ByteArray}(m:F5 b=some r) :
    Cf 201 [.string b] w λ v w'=>.string r=v/\Sep w' (Fo) (rs):=by
 unfold F5 at m
 refine ent Tryz.func201 z Tryz.ntmps201 z z λ a E=>sq<|pn 1 E z λ a E=>wS<|sp 1 E z λ a E=>bd m λ d c m=>xk2 E z (cf_ 180) (M1 H c) λ w H a E=>pr 5 E z λ a E=>nx<|pn 1 E z λ a E=>wif E m z (λ m=>?_) λ m=>?_
 ·refine sq<|pn 2 E z λ a E=>wR<|aH<|o1 E z<|?_
  cases m
  exact ⟨z,H.reads Y0⟩
 ·refine wK<|aA<|sq<|pn 1 E z λ a E=>wR<|o1 E z<|?_
  cases m
  exact ⟨z,H.reads Y0⟩

def qO(b:En):Option En:=
  some (b)
def Hp(x1:eQ):Option En:=
  (V5 x1).bind λ x=>if (!x)=true then (some ([])) else ((F5 x1.Path).bind λ c=>if (x1.Kind == 1)=true then ((zE 2 c x1.Path).bind λ d=>(F5 c).bind λ e=>(uL ([(⟨1,e,c,(ByteArray.mk #[]),0,0,false⟩:bE),(⟨d.Kind,d.Dir,d.Path,x1.Data,d.Version,x1.Owner,x1.Turns⟩:bE)]:List bE) []).bind λ f=>qO f) else (if (x1.Kind == 2)=true then ((L7 3 c x1.Path x1.Version).bind λ g=>(L6 4 x1.Path x1.Owner).bind λ i=>(uL ([g,i]:List bE) []).bind λ j=>qO j) else (if (x1.Kind == 3)=true then ((L7 5 c x1.Path x1.Version).bind λ b=>(uL ([(⟨b.Kind,b.Dir,b.Path,x1.Data,b.Version,b.Owner,b.Turns⟩:bE)]:List bE) []).bind λ k=>qO k) else (if (x1.Kind == 4)=true then ((L7 6 c x1.Path x1.Version).bind λ l=>(uL ([l]:List bE) []).bind λ m=>qO m) else (if (x1.Kind == 5)=true then ((zE 7 c x1.Path).bind λ n=>(uL ([n]:List bE) []).bind λ o=>qO o) else (if (x1.Kind == 6)=true then ((zE 8 c x1.Path).bind λ p=>(L6 9 x1.Path x1.Owner).bind λ q=>(uL ([p,q]:List bE) []).bind λ s=>qO s) else (if (x1.Kind == 7)=true then ((zE 8 c x1.Path).bind λ t=>(L6 10 x1.Path x1.Owner).bind λ u=>(uL ([t,u]:List bE) []).bind λ v=>qO v) else (qO []))))))))
theorem BA{x1:eQ}(H:Sep w (Fo) rs){r:En}(m:Hp x1=some r) :
    Cf 141 [.agg (tU x1).toArray] w λ v w'=>∃ U,U=v/\Sep w' (Row 97 cP U r::Fo) (rs):=by
 unfold Hp at m
 refine ent Tryz.func141 z Tryz.ntmps141 z z λ a E=>sq<|bx E H z λ d2 w a H E=>pn 1 E z λ a E=>wS<|sq<|ln 0 (tU x1) E H Tp z Br λ a E=>bd m λ d3 V m=>xk2 E z (cf_ 222) (Ku H V) λ w H a E=>pn 1 E z λ a E=>wif E m z (λ m=>?_) λ m=>?_
 ·refine sq<|pn 1 E z λ a E=>wR<|aH<|o1 E z<|have H:=H.nilRow 97 cP;have H:=H.drop 1;?_
  cases m
  exact ⟨_,z,H.reads Y0⟩
 ·refine wK<|aA<|sq<|al1 E H z z z z OX z λ W w a H E=>nx<|sv2 E z (mY E z z z) λ a E=>pr 1 E z λ a E=>xp 1 E z λ a E=>lb2 E H 1 U9 z λ a E=>bd m λ s X m=>xk2 E z (cf_ 201) (Hn H X) λ w H a E=>al1 E H z z z z zr9 z λ d4 w a H E=>ss 0 E H z sz9 z λ w H=>nx<|sv2 E z (mY E z z z) λ a E=>al1 E H z z z z OY z λ d5 w a H E=>ss 0 E H z OZ z λ w H=>nx<|sv2 E z (mY E z z z) λ a E=>pr 1 E z λ a E=>nx<|sv2 E z (mY E z z z) λ a E=>pn 1 E z λ a E=>aN (λ a w=>∃ t u,Jn 97 a w [(3,pt W 0)] (Blk W 192 [t]::Row 97 cP t u::Fo) rs (qO u=some r)) ?_ ?_
  ·refine sp 1 E z λ a E=>lb2 E H 3 U3 z λ a E=>nt<|wB<|sq<|pn 2 E z λ a E=>wif E m z (λ m=>?_) λ m=>?_
   ·refine sq<|lb2 E H 0 Tq z λ a E=>have H:=H.frs [2,1,3,3] z;bd m λ c y m=>bK E (wn z) z z (bO E z z z ((cf_ 224) _)) (L5 H y)<|?_
    rintro _ w ⟨rfl,H⟩ a E
    refine al2 E H z Lw λ Z w a H E=>ss 0 E H z mC z λ w H=>nt<|wS<|dz [0,0,0,0,0,0,0,1,0,1,2,2] [2] H λ w W0 hI H=>fn 1 E z λ a E=>fb2 E m0 U9 z λ a E=>fn 1 E z λ a E=>fb2 E m0 U2 z λ a E=>fn 1 E z λ a E=>fb2 E m0 U4 z λ a E=>fn 1 E z λ a E=>bQ z<|ss 0 E H z sz9 z λ w H=>nt<|⟨sx H [2] z,fn 1 E z λ a E=>bQ z<|ss 0 E H z sz2 z λ w H=>nt<|⟨sx H [2] z,bH z<|pn 1 E z λ a E=>bH z<|ss 0 E H z sz4 z λ w H=>nt<|bG<|?_⟩⟩
    clear hI
    refine aA<|dw [(0,0),(1,0),(3,0),(5,0),(2,1),(4,0),(6,1),(7,1)] [0,1] [] H (by kernel_rfl) (λ _ _ _ h=>False.elim h.2) λ w W0 hI H=>fn 1 E z λ a E=>fb2 E mm1 U9 z λ a E=>fb2 E mm1 U9 z λ a E=>fbn E [.int .i64 c.Kind,.string c.Dir,.string c.Path,.string x1.Data,.int .i64 c.Version,.int .i64 x1.Owner,.bool x1.Turns] z (wn z) z z z z m0 z U97 z mC λ a E=>bQ z<|bd m λ q A m=>xk2 E z (cf_ 201) (Hn H A) λ w H a E=>nt<|⟨sx H [0,1] z,fv E z (λ w hW=>(cJ E z (E.evs z) (v:=.agg #[.int .i64 1,.string q,.string s,.string (ByteArray.mk #[]),.int .i64 0,.int .i64 0,.bool false]) (by kernel_rfl))) λ a E=>bQ z<|jO (e:=97) (d:=cP) (cs:=[.int .i64 1,.string q,.string s,.string (ByteArray.mk #[]),.int .i64 0,.int .i64 0,.bool false,.int .i64 c.Kind,.string c.Dir,.string c.Path,.string x1.Data,.int .i64 c.Version,.int .i64 x1.Owner,.bool x1.Turns]) (xs:=[(⟨1,q,s,(ByteArray.mk #[]),0,0,false⟩:bE),(⟨c.Kind,c.Dir,c.Path,x1.Data,c.Version,x1.Owner,x1.Turns⟩:bE)]) E H (wn z) z z z (E.evs z) (by kernel_rfl) z z (λ ok hr=>(Rows.append (Rows.single (d:=cP) (cs:=[.int .i64 1,.string q,.string s,.string (ByteArray.mk #[]),.int .i64 0,.int .i64 0,.bool false]) (x:=(⟨1,q,s,(ByteArray.mk #[]),0,0,false⟩:bE)) jJ) (Rows.single (d:=cP) (cs:=[.int .i64 c.Kind,.string c.Dir,.string c.Path,.string x1.Data,.int .i64 c.Version,.int .i64 x1.Owner,.bool x1.Turns]) (x:=(⟨c.Kind,c.Dir,c.Path,x1.Data,c.Version,x1.Owner,x1.Turns⟩:bE)) jJ))) λ b0 w a H E=>nt<|⟨sx H [1,2] z,bQ z<|have H:=H.thaw (i:=0) z;have H:=H.nilRow 97 cP;have H:=H.frs [4,4,4,4,4,5] z;bd m λ b1 B m=>bK E (wn z) z z (bO E z z z ((cf_ 223) _)) (zD H m0 B)<|?_⟩⟩
    rintro _ w ⟨b2,rfl,H⟩ a E
    refine nt<|⟨sx H [2,3] z,bG<|?_⟩
    clear hI
    exact bR<|aA<|have H:=H.drs [2,2,2,2];X3 ⟨E.to z,H,(Y1 Y0),m⟩
   ·refine sq<|pn 2 E z λ a E=>wif E m z (λ m=>?_) λ m=>?_
    ·refine wG<|pr 2 E z λ a E=>have H:=H.frs [2,3,3,3] z;bd m λ f C m=>bK E (wn z) z z (bO E z z z ((cf_ 226) _)) (Co H C)<|?_
     rintro _ w ⟨rfl,H⟩ a E
     refine pr 1 E z λ a E=>have H:=H.frs [3,2,2,3] z;bd m λ g D m=>bK E (wn z) z z (bO E z z z ((cf_ 225) _)) (Cn H D)<|?_
     rintro _ w ⟨rfl,H⟩ a E
     refine jO (e:=97) (d:=cP) (cs:=[.int .i64 f.Kind,.string f.Dir,.string f.Path,.string f.Data,.int .i64 f.Version,.int .i64 f.Owner,.bool f.Turns,.int .i64 g.Kind,.string g.Dir,.string g.Path,.string g.Data,.int .i64 g.Version,.int .i64 g.Owner,.bool g.Turns]) (xs:=[f,g]) E H (wn z) z z z (E.evs z) (by kernel_rfl) z z (λ ok hr=>(Rows.append (Rows.single (d:=cP) (cs:=[.int .i64 f.Kind,.string f.Dir,.string f.Path,.string f.Data,.int .i64 f.Version,.int .i64 f.Owner,.bool f.Turns]) (x:=f) jJ) (Rows.single (d:=cP) (cs:=[.int .i64 g.Kind,.string g.Dir,.string g.Path,.string g.Data,.int .i64 g.Version,.int .i64 g.Owner,.bool g.Turns]) (x:=g) jJ))) λ b3 w a H E=>have H:=H.thaw (i:=0) z;have H:=H.nilRow 97 cP;have H:=H.frs [3,3,3,3,4] z;bd m λ b4 F m=>bK E (wn z) z z (bO E z z z ((cf_ 223) _)) (zD H m0 F)<|?_
     rintro _ w ⟨b5,rfl,H⟩ a E
     exact wN<|bR<|aA<|have H:=H.drs [2,2,2];X3 ⟨E.to z,H,(Y1 Y0),m⟩
    ·refine sq<|pn 2 E z λ a E=>wif E m z (λ m=>?_) λ m=>?_
     ·refine sp 1 E z λ a E=>have H:=H.frs [2,3,3,3] z;bd m λ b G m=>bK E (wn z) z z (bO E z z z ((cf_ 226) _)) (Co H G)<|?_
      rintro _ w ⟨rfl,H⟩ a E
      refine al2 E H z Lw λ b6 w a H E=>ss 0 E H z mC z λ w H=>xp 1 E z λ a E=>lb2 E H 3 U9 z λ a E=>pr 1 E z λ a E=>ss 0 E H z sz9 z λ w H=>nt<|wG<|pr 1 E z λ a E=>ln 0 [.int .i64 b.Kind,.string b.Dir,.string b.Path,.string x1.Data,.int .i64 b.Version,.int .i64 b.Owner,.bool b.Turns] E H U97 z mC λ a E=>jO (e:=97) (d:=cP) (cs:=[.int .i64 b.Kind,.string b.Dir,.string b.Path,.string x1.Data,.int .i64 b.Version,.int .i64 b.Owner,.bool b.Turns]) (xs:=[(⟨b.Kind,b.Dir,b.Path,x1.Data,b.Version,b.Owner,b.Turns⟩:bE)]) E H (wn z) z z z (E.evs z) (by kernel_rfl) z z (λ ok hr=>(Rows.single (d:=cP) (cs:=[.int .i64 b.Kind,.string b.Dir,.string b.Path,.string x1.Data,.int .i64 b.Version,.int .i64 b.Owner,.bool b.Turns]) (x:=(⟨b.Kind,b.Dir,b.Path,x1.Data,b.Version,b.Owner,b.Turns⟩:bE)) jJ)) λ b7 w a H E=>have H:=H.thaw (i:=0) z;have H:=H.nilRow 97 cP;have H:=H.frs [4,4,4,4,4,5] z;bd m λ b8 I m=>bK E (wn z) z z (bO E z z z ((cf_ 223) _)) (zD H m0 I)<|?_
      rintro _ w ⟨b9,rfl,H⟩ a E
      exact wN<|bR<|aA<|have H:=H.drs [2,2,2,2];X3 ⟨E.to z,H,(Y1 Y0),m⟩
     ·refine sq<|pn 2 E z λ a E=>wif E m z (λ m=>?_) λ m=>?_
      ·refine wG<|pr 2 E z λ a E=>have H:=H.frs [2,3,3,3] z;bd m λ j J m=>bK E (wn z) z z (bO E z z z ((cf_ 226) _)) (Co H J)<|?_
       rintro _ w ⟨rfl,H⟩ a E
       refine jO (e:=97) (d:=cP) (cs:=[.int .i64 j.Kind,.string j.Dir,.string j.Path,.string j.Data,.int .i64 j.Version,.int .i64 j.Owner,.bool j.Turns]) (xs:=[j]) E H (wn z) z z z (E.evs z) (by kernel_rfl) z z (λ ok hr=>(Rows.single (d:=cP) (cs:=[.int .i64 j.Kind,.string j.Dir,.string j.Path,.string j.Data,.int .i64 j.Version,.int .i64 j.Owner,.bool j.Turns]) (x:=j) jJ)) λ c0 w a H E=>have H:=H.thaw (i:=0) z;have H:=H.nilRow 97 cP;have H:=H.frs [3,3,3,3,4] z;bd m λ c1 K m=>bK E (wn z) z z (bO E z z z ((cf_ 223) _)) (zD H m0 K)<|?_
       rintro _ w ⟨c2,rfl,H⟩ a E
       exact wN<|bR<|aA<|have H:=H.drs [2,2,2];X3 ⟨E.to z,H,(Y1 Y0),m⟩
      ·refine sq<|pn 2 E z λ a E=>wif E m z (λ m=>?_) λ m=>?_
       ·refine wG<|pr 1 E z λ a E=>lb2 E H 0 Tq z λ a E=>have H:=H.frs [2,1,3,3] z;bd m λ k L m=>bK E (wn z) z z (bO E z z z ((cf_ 224) _)) (L5 H L)<|?_
        rintro _ w ⟨rfl,H⟩ a E
        refine jO (e:=97) (d:=cP) (cs:=[.int .i64 k.Kind,.string k.Dir,.string k.Path,.string k.Data,.int .i64 k.Version,.int .i64 k.Owner,.bool k.Turns]) (xs:=[k]) E H (wn z) z z z (E.evs z) (by kernel_rfl) z z (λ ok hr=>(Rows.single (d:=cP) (cs:=[.int .i64 k.Kind,.string k.Dir,.string k.Path,.string k.Data,.int .i64 k.Version,.int .i64 k.Owner,.bool k.Turns]) (x:=k) jJ)) λ c3 w a H E=>have H:=H.thaw (i:=0) z;have H:=H.nilRow 97 cP;have H:=H.frs [3,3,3,3,4] z;bd m λ c4 M m=>bK E (wn z) z z (bO E z z z ((cf_ 223) _)) (zD H m0 M)<|?_
        rintro _ w ⟨c5,rfl,H⟩ a E
        exact wN<|bR<|aA<|have H:=H.drs [2,2,2];X3 ⟨E.to z,H,(Y1 Y0),m⟩
       ·refine sq<|pn 2 E z λ a E=>wif E m z (λ m=>?_) λ m=>?_
        ·refine wG<|pr 1 E z λ a E=>lb2 E H 0 Tq z λ a E=>have H:=H.frs [2,1,3,3] z;bd m λ l N m=>bK E (wn z) z z (bO E z z z ((cf_ 224) _)) (L5 H N)<|?_
         rintro _ w ⟨rfl,H⟩ a E
         refine pr 1 E z λ a E=>have H:=H.frs [3,3,2,3] z;bd m λ n O m=>bK E (wn z) z z (bO E z z z ((cf_ 225) _)) (Cn H O)<|?_
         rintro _ w ⟨rfl,H⟩ a E
         refine jO (e:=97) (d:=cP) (cs:=[.int .i64 l.Kind,.string l.Dir,.string l.Path,.string l.Data,.int .i64 l.Version,.int .i64 l.Owner,.bool l.Turns,.int .i64 n.Kind,.string n.Dir,.string n.Path,.string n.Data,.int .i64 n.Version,.int .i64 n.Owner,.bool n.Turns]) (xs:=[l,n]) E H (wn z) z z z (E.evs z) (by kernel_rfl) z z (λ ok hr=>(Rows.append (Rows.single (d:=cP) (cs:=[.int .i64 l.Kind,.string l.Dir,.string l.Path,.string l.Data,.int .i64 l.Version,.int .i64 l.Owner,.bool l.Turns]) (x:=l) jJ) (Rows.single (d:=cP) (cs:=[.int .i64 n.Kind,.string n.Dir,.string n.Path,.string n.Data,.int .i64 n.Version,.int .i64 n.Owner,.bool n.Turns]) (x:=n) jJ))) λ c6 w a H E=>have H:=H.thaw (i:=0) z;have H:=H.nilRow 97 cP;have H:=H.frs [3,3,3,3,4] z;bd m λ c7 P m=>bK E (wn z) z z (bO E z z z ((cf_ 223) _)) (zD H m0 P)<|?_
         rintro _ w ⟨c8,rfl,H⟩ a E
         exact wN<|bR<|aA<|have H:=H.drs [2,2,2];X3 ⟨E.to z,H,(Y1 Y0),m⟩
        ·refine sq<|pn 2 E z λ a E=>wif E m z (λ m=>?_) λ m=>?_
         ·refine wG<|pr 1 E z λ a E=>lb2 E H 0 Tq z λ a E=>have H:=H.frs [2,1,3,3] z;bd m λ o Q m=>bK E (wn z) z z (bO E z z z ((cf_ 224) _)) (L5 H Q)<|?_
          rintro _ w ⟨rfl,H⟩ a E
          refine pr 1 E z λ a E=>have H:=H.frs [3,3,2,3] z;bd m λ p R m=>bK E (wn z) z z (bO E z z z ((cf_ 225) _)) (Cn H R)<|?_
          rintro _ w ⟨rfl,H⟩ a E
          refine jO (e:=97) (d:=cP) (cs:=[.int .i64 o.Kind,.string o.Dir,.string o.Path,.string o.Data,.int .i64 o.Version,.int .i64 o.Owner,.bool o.Turns,.int .i64 p.Kind,.string p.Dir,.string p.Path,.string p.Data,.int .i64 p.Version,.int .i64 p.Owner,.bool p.Turns]) (xs:=[o,p]) E H (wn z) z z z (E.evs z) (by kernel_rfl) z z (λ ok hr=>(Rows.append (Rows.single (d:=cP) (cs:=[.int .i64 o.Kind,.string o.Dir,.string o.Path,.string o.Data,.int .i64 o.Version,.int .i64 o.Owner,.bool o.Turns]) (x:=o) jJ) (Rows.single (d:=cP) (cs:=[.int .i64 p.Kind,.string p.Dir,.string p.Path,.string p.Data,.int .i64 p.Version,.int .i64 p.Owner,.bool p.Turns]) (x:=p) jJ))) λ c9 w a H E=>have H:=H.thaw (i:=0) z;have H:=H.nilRow 97 cP;have H:=H.frs [3,3,3,3,4] z;bd m λ d0 S m=>bK E (wn z) z z (bO E z z z ((cf_ 223) _)) (zD H m0 S)<|?_
          rintro _ w ⟨d1,rfl,H⟩ a E
          exact wN<|bR<|aA<|have H:=H.drs [2,2,2];X3 ⟨E.to z,H,(Y1 Y0),m⟩
         ·exact wK<|bR<|aA<|have H:=H.nilRow 97 cP;have H:=H.drs [1,1,2];have H:=H.frs [0,1] z;X3 ⟨E.to z,H,Y0,m⟩
  ·clear E H m
   rintro a w ⟨t,u,Y,E,H,T,m⟩
   unfold qO at m
   refine sq<|lb2 E H 0 Tr z λ a E=>pn 1 E z λ a E=>wR<|o1 E z<|have H:=H.drop 0;?_
   cases m
   exact ⟨_,z,H.reads T⟩

def M2(rec_1:y6->Int->Option y6)(b:En)(d:Int):Nat->y6->Int->Option y6
  | 0,_,_=>none
  | f+1,c,x20=>
    if (decide (x20 < (b.length:Int)))=true then ((idx b x20).bind λ e=>(ck (c.length+([(⟨d,e⟩:cR)]:List cR).length <= LIM)).bind λ g=>M2 rec_1 b d f (c ++ ([(⟨d,e⟩:cR)]:List cR)) (IntKind.i64.wrap (x20+1))) else (rec_1 c (IntKind.i64.wrap (d+1)))
def A7(c:List eQ):Nat->y6->Int->Option y6
  | 0,_,_=>none
  | g+1,e,d=>
    if (decide (d < (c.length:Int)))=true then ((idx c d).bind λ f=>(Hp f).bind λ b=>M2 (A7 c g) b d (((b.length:Int) - 0:Int).toNat+1) e 0) else (some (e))
def Et(b:List eQ):Option y6:=
  (Cm b).bind λ c=>if (!c)=true then (some ([])) else (A7 b (((b.length:Int) - 0:Int).toNat+1) [] 0)
theorem Yv{u:Value}{f:List eQ}(H:Sep w (Fo) rs)(o:rSl M9 u f ∈ rs){r:y6}(m:Et f=some r) :
    Cf 77 [u] w λ v w'=>∃ G,G=v/\Sep w' (Row 99 bT G r::Fo) (rs):=by
 unfold Et at m
 refine ent Tryz.func77 z Tryz.ntmps77 z z λ a E=>sq<|pn 1 E z λ a E=>wS<|sp 1 E z λ a E=>bd m λ S I m=>xk2 E z (cf_ 140) (Vz H o I) λ w H a E=>pn 1 E z λ a E=>wif E m z (λ m=>?_) λ m=>?_
 ·refine sq<|pn 1 E z λ a E=>wR<|aH<|o1 E z<|have H:=H.nilRow 99 bT;?_
  cases m
  exact ⟨_,z,H.reads Y0⟩
 ·refine wK<|aA<|sq<|pn 1 E z λ a E=>wS<|sp 1 E z λ a E=>lS E H o Pi z λ a E=>pn 1 E z λ a E=>wB<|bL (λ g a w=>∃ A B c,Jn 34 a w [(3,A),(11,u),(12,.int .i64 (f.length:Int)),(13,.int .i64 c)] (Row 99 bT A B::Fo) rs (A7 f g B c=some r)) (((f.length:Int) - 0:Int).toNat+1) ?_ ?_
  ·exact have H:=H.nilRow 99 bT;X4 ⟨E.to z,H,Y0,m⟩
  ·clear E H m
   rintro g a w ⟨A,B,c,L,E,H,j,m⟩
   cases g with
   | zero=>exact (bF m z).elim
   | succ g=>
    unfold A7 at m
    refine sq<|pn 1 E z λ a E=>wS<|wif E m z (λ m=>?_) λ m=>?_
    ·refine wK<|aA<|wS<|wB<|sp 1 E z λ a E=>bd m λ J C m=>dP E H (wn z) z z z z z (j _ o) Pi Br C λ q13 a H E=>ldf Fw E H z z z z z m0 Tp z Br λ a E=>al2 E H z OW λ M w a H E=>pr 1 E z λ a E=>ss 0 E H z Br z λ w H=>nx<|ln 0 (tU J) E H Tp z Br λ a E=>bd m λ l D m=>xc2 E z (cf_ 141) (BA H D)<|?_
     rintro _ w ⟨y,rfl,H⟩ a E
     refine sv2 E z (mZ (i:=0) E H z z z Tr) λ a E=>pn 1 E z λ a E=>wB<|bL (λ n a w=>∃ p q x20,Jn 34 a w [(3,p),(4,.int .i64 c),(11,u),(12,.int .i64 (f.length:Int)),(13,.int .i64 c),(19,y),(20,.int .i64 (l.length:Int)),(21,.int .i64 x20)] (Row 99 bT p q::Row 97 cP y l::Fo) rs (M2 (A7 f g) l c n q x20=some r)) (((l.length:Int) - 0:Int).toNat+1) ?_ ?_
     ·exact have H:=H.drop 1;have H:=H.frs [0,1] z;X4 ⟨E.to z,H,(Y1 j),m⟩
     ·clear E H m
      rintro n a w ⟨p,q,x20,K,E,H,s,m⟩
      cases n with
      | zero=>exact (bF m z).elim
      | succ n=>
       unfold M2 at m
       refine sq<|pn 1 E z λ a E=>wS<|wif E m z (λ m=>?_) λ m=>?_
       ·refine wK<|aA<|wS<|wB<|sq<|bd m λ b k m=>?_
        obtain ⟨N,O,t⟩:=H.rowformNE (i:=1) z k
        exact sv2 E z (dE (d:=cP) E t z z z z Tr mC k) λ a E=>sv2 E z (jP (i:=1) E H Bq t z z z k (us:=[.int .i64 b.Kind,.string b.Dir,.string b.Path,.string b.Data,.int .i64 b.Version,.int .i64 b.Owner,.bool b.Turns]) z U97 z mC) λ a E=>al2 E H z Lw λ P w a H E=>ss 0 E H z mC z λ w H=>nt<|wG<|pr 2 E z λ a E=>ln 0 (cB b) E H U97 z mC λ a E=>sv2 E z (cJ E z (E.evs z) (v:=.agg #[.int .i64 c,.int .i64 b.Kind,.string b.Dir,.string b.Path,.string b.Data,.int .i64 b.Version,.int .i64 b.Owner,.bool b.Turns]) (by kernel_rfl)) λ a E=>xK (e:=99) (d:=bT) (cs:=[.int .i64 c,.int .i64 b.Kind,.string b.Dir,.string b.Path,.string b.Data,.int .i64 b.Version,.int .i64 b.Owner,.bool b.Turns]) (xs:=[(⟨c,b⟩:cR)]) E H (wn z) z z z (E.evs z) (by kernel_rfl) z (λ ok hr=>(Rows.single (d:=bT) (cs:=[.int .i64 c,.int .i64 b.Kind,.string b.Dir,.string b.Path,.string b.Data,.int .i64 b.Version,.int .i64 b.Owner,.bool b.Turns]) (x:=(⟨c,b⟩:cR)) Di)) λ Q w a H E=>bk m λ F m=>eZ (i:=1) E H (wn z) z z z z z z (nW m0) U26 PC z F z λ R w a H E=>pr 1 E z λ a E=>wN<|bR<|aA<|wG<|pr 2 E z λ a E=>nt<|have H:=H.drop 0;⟨n,nL n,X4 ⟨E.to z,H,(Y1 s),m⟩⟩
       ·exact wX<|aW<|aW<|cT<|bR<|aA<|wG<|pn 2 E z λ a E=>have H:=H.drop 1;⟨g,nL g,X4 ⟨E.to z,H,s,m⟩⟩
    ·refine wX<|aW<|aW<|cT<|aA<|sq<|pn 2 E z λ a E=>wR<|o1 E z<|?_
     cases m
     exact ⟨_,z,H.reads j⟩

def wD(x1:Int)(b:Int)(x3:Int):Option Bool:=
  if (decide (x1 ≥ b))=true then (some (decide (x1 <= x3))) else (some (false))
theorem X2{x1 c x3:Int}(H:Sep w (Fo) rs){r:Bool}(m:wD x1 c x3=some r) :
    Cf 84 [.int .i64 x1,.int .i64 c,.int .i64 x3] w λ v w'=>.bool r=v/\Sep w' (Fo) (rs):=by
 unfold wD at m
 refine ent Tryz.func84 z Tryz.ntmps84 z z λ a E=>sp 1 E z λ a E=>xp 4 E z λ a E=>cs m (λ b m=>?_) λ b m=>?_
 ·refine pk 5 E (kc 10 z b) z λ a E=>nt<|wR<|o1 E z<|?_
  cases m
  exact ⟨z,H.reads Y0⟩
 ·refine pk 5 E (kc 10 z b) z λ a E=>nt<|wR<|o1 E z<|?_
  cases m
  exact ⟨z,H.reads Y0⟩

def yA(d:ByteArray)(e:ByteArray)(x3:Int)(f:Int)(g:Int):Option Bool:=
  (fU d).bind λ i=>if i=true then (if (decide ((e.size:Int) <= 256))=true then ((wD x3 f 281474976710656).bind λ b=>if b=true then ((wD g 0 1099511627776).bind λ c=>some (c)) else (some (false))) else (some (false))) else (some (false))
theorem Fz{g i:ByteArray}{x3 j k:Int}(H:Sep w (Fo) rs){r:Bool}(m:yA g i x3 j k=some r) :
    Cf 80 [.string g,.string i,.int .i64 x3,.int .i64 j,.int .i64 k] w λ v w'=>.bool r=v/\Sep w' (Fo) (rs):=by
 unfold yA at m
 refine ent Tryz.func80 z Tryz.ntmps80 z z λ a E=>sp 1 E z λ a E=>xp 1 E z λ a E=>bd m λ p l m=>xk2 E z (cf_ 83) (jQ H l) λ w H a E=>pr 1 E z λ a E=>cs m (λ d m=>?_) λ d m=>?_
 ·refine pk 5 E (kc 13 z d) z λ a E=>cs m (λ c m=>?_) λ c m=>?_
  ·refine pk 2 E (kc 18 z c) z λ a E=>bd m λ n e m=>gc 18 E c z (cf_ 84) (X2 H e)<|?_
   rintro _ w ⟨rfl,H⟩ a E
   refine pk 2 E (kc 18 z c) z λ a E=>cs m (λ b m=>?_) λ b m=>?_
   ·refine pk 1 E (kc 23 z b) z λ a E=>bd m λ o f m=>gc 23 E b z (cf_ 84) (X2 H f)<|?_
    rintro _ w ⟨rfl,H⟩ a E
    refine pk 2 E (kc 23 z b) z λ a E=>nt<|wR<|o1 E z<|?_
    cases m
    exact ⟨z,H.reads Y0⟩
   ·refine pk 4 E (kc 23 z b) z λ a E=>nt<|wR<|o1 E z<|?_
    cases m
    exact ⟨z,H.reads Y0⟩
  ·refine pk 9 E (kc 18 z c) z λ a E=>nt<|wR<|o1 E z<|?_
   cases m
   exact ⟨z,H.reads Y0⟩
 ·refine pk 14 E (kc 13 z d) z λ a E=>nt<|wR<|o1 E z<|?_
  cases m
  exact ⟨z,H.reads Y0⟩

def yB(x1:bE)(b:ByteArray):Option Bool:=
  (yA x1.Path x1.Data x1.Version (-1) x1.Owner).bind λ c=>if c=true then (if (sEq x1.Dir b)=true then (if (decide (x1.Kind ≥ 1))=true then (if (decide (x1.Kind <= 10))=true then (if (x1.Kind != 2)=true then (some (true)) else (some (!(sEq x1.Path (ByteArray.mk #[47]))))) else (some (false))) else (some (false))) else (some (false))) else (some (false))
def yC(x1:bE)(c:ByteArray)(b:Bool):Option Bool:=
  if b=true then (yB x1 x1.Path) else (yB x1 c)
def J4(x1:bE):Option Bool:=
  (F5 x1.Path).bind λ b=>if (x1.Kind == 4)=true then (yC x1 b true) else (if (x1.Kind == 9)=true then (yC x1 b true) else (yC x1 b (x1.Kind == 10)))
theorem Od{x1:bE}(H:Sep w (Fo) rs){r:Bool}(m:J4 x1=some r) :
    Cf 121 [.agg (cB x1).toArray] w λ v w'=>.bool r=v/\Sep w' (Fo) (rs):=by
 unfold J4 at m
 refine ent Tryz.func121 z Tryz.ntmps121 z z λ a E=>sq<|bx E H z λ n w a H E=>pr 1 E z λ a E=>xp 1 E z λ a E=>lb2 E H 0 U9 z λ a E=>bd m λ p q m=>xk2 E z (cf_ 201) (Hn H q) λ w H a E=>pn 1 E z λ a E=>aN (λ a w=>∃ o,Jn 57 a w [(1,pt n 0),(3,.string o)] (Blk n 97 (cB x1)::Fo) rs (yB x1 o=some r)) ?_ ?_
 ·refine aN (λ a w=>∃ k,Jn 57 a w [(1,pt n 0),(3,.string p),(19,.bool k)] (Blk n 97 (cB x1)::Fo) rs (yC x1 p k=some r)) ?_ ?_
  ·refine wG<|pr 1 E z λ a E=>lb2 E H 0 U3 z λ a E=>pr 2 E z λ a E=>cs m (λ c m=>?_) λ c m=>?_
   ·exact pk 9 E (kc 10 z c) z λ a E=>nt<|⟨_,_,E.to z,H,Y0,m⟩
   ·refine pk 1 E (kc 10 z c) z λ a E=>gl 10 E H 0 c U3 z λ a E=>pk 3 E (kc 10 z c) z λ a E=>cs m (λ d m=>?_) λ d m=>?_
    ·exact pk 4 E (kc 15 z d) z λ a E=>nt<|⟨_,_,E.to z,H,Y0,m⟩
    ·exact pk 1 E (kc 15 z d) z λ a E=>gl 15 E H 0 d U3 z λ a E=>pk 2 E (kc 15 z d) z λ a E=>nt<|⟨_,_,E.to z,H,Y0,m⟩
  ·clear E H m
   rintro a w ⟨k,t,E,H,l,m⟩
   unfold yC at m
   refine wif E m z (λ m=>?_) λ m=>?_
   ·exact wG<|pr 1 E z λ a E=>lb2 E H 0 U9 z λ a E=>pn 1 E z λ a E=>⟨_,_,E.to z,H,l,m⟩
   ·exact wK<|aA<|⟨_,_,E.to z,H,l,m⟩
 ·clear E H m
  rintro a w ⟨o,u,E,H,j,m⟩
  unfold yB at m
  refine sp 1 E z λ a E=>lb2 E H 0 U9 z λ a E=>pr 1 E z λ a E=>lb2 E H 0 U9 z λ a E=>pr 1 E z λ a E=>lb2 E H 0 U2 z λ a E=>pr 1 E z λ a E=>lb2 E H 0 U2 z λ a E=>bd m λ x s m=>xk2 E z (cf_ 80) (Fz H s) λ w H a E=>pr 1 E z λ a E=>cs m (λ e m=>?_) λ e m=>?_
  ·refine pk 1 E (kc 31 z e) z λ a E=>gl 31 E H 0 e U9 z λ a E=>pk 4 E (kc 31 z e) z λ a E=>cs m (λ f m=>?_) λ f m=>?_
   ·refine pk 1 E (kc 37 z f) z λ a E=>gl 37 E H 0 f U3 z λ a E=>pk 3 E (kc 37 z f) z λ a E=>cs m (λ g m=>?_) λ g m=>?_
    ·refine pk 1 E (kc 42 z g) z λ a E=>gl 42 E H 0 g U3 z λ a E=>pk 3 E (kc 42 z g) z λ a E=>cs m (λ b m=>?_) λ b m=>?_
     ·refine pk 1 E (kc 47 z b) z λ a E=>gl 47 E H 0 b U3 z λ a E=>pk 2 E (kc 47 z b) z λ a E=>cs m (λ i m=>?_) λ i m=>?_
      ·refine pk 6 E (kc' (kc 51 z i) 47 z b) z λ a E=>nt<|wR<|o1 E z<|have H:=H.drop 0;?_
       cases m
       exact ⟨z,H.reads j⟩
      ·refine pk 1 E (kc 51 z i) z λ a E=>gl 51 E H 0 i U9 z λ a E=>pk 4 E (kc' (kc 51 z i) 47 z b) z λ a E=>nt<|wR<|o1 E z<|have H:=H.drop 0;?_
       cases m
       exact ⟨z,H.reads j⟩
     ·refine pk 10 E (kc 47 z b) z λ a E=>nt<|wR<|o1 E z<|have H:=H.drop 0;?_
      cases m
      exact ⟨z,H.reads j⟩
    ·refine pk 15 E (kc 42 z g) z λ a E=>nt<|wR<|o1 E z<|have H:=H.drop 0;?_
     cases m
     exact ⟨z,H.reads j⟩
   ·refine pk 20 E (kc 37 z f) z λ a E=>nt<|wR<|o1 E z<|have H:=H.drop 0;?_
    cases m
    exact ⟨z,H.reads j⟩
  ·refine pk 26 E (kc 31 z e) z λ a E=>nt<|wR<|o1 E z<|have H:=H.drop 0;?_
   cases m
   exact ⟨z,H.reads j⟩

def zU(x1:aG):Option ByteArray:=
  some (x1.Path)
theorem Dm{x1:aG}(H:Sep w (Fo) rs){r:ByteArray}(m:zU x1=some r) :
    Cf 86 [.agg (nA x1).toArray] w λ v w'=>.string r=v/\Sep w' (Fo) (rs):=by
 unfold zU at m
 refine ent Tryz.func86 z Tryz.ntmps86 z z λ a E=>sq<|bx E H z λ b w a H E=>pr 1 E z λ a E=>xp 1 E z λ a E=>lb2 E H 0 U9 z λ a E=>pn 1 E z λ a E=>wR<|o1 E z<|have H:=H.drop 0;?_
 cases m
 exact ⟨z,H.reads Y0⟩

def nC(rec_1:Int->Option Bool)(b:Int)(c:Bool):Option Bool:=
  if c=true then (some (false)) else (rec_1 (IntKind.i64.wrap (b+1)))
def fI(c:List aG):Nat->Int->Option Bool
  | 0,_=>none
  | d+1,b=>
    if (decide (b < (c.length:Int)))=true then (if (decide (b > 0))=true then ((idx c (IntKind.i64.wrap (b - 1))).bind λ e=>(idx c b).bind λ f=>(zU e).bind λ g=>(zU f).bind λ i=>nC (fI c d) b (!(sLt g i))) else (nC (fI c d) b false)) else (some (true))
def uM(b:List aG):Option Bool:=
  fI b (((b.length:Int) - 0:Int).toNat+1) 0
theorem Cp{l:Value}{f:List aG}(H:Sep w (Fo) rs)(n:rSl aB l f ∈ rs){r:Bool}(m:uM f=some r) :
    Cf 85 [l,.func (.func 86) #[] #[]] w λ v w'=>.bool r=v/\Sep w' (Fo) (rs):=by
 unfold uM at m
 refine ent Tryz.func85 z Tryz.ntmps85 z z λ a E=>sq<|pn 1 E z λ a E=>wS<|sp 1 E z λ a E=>lS E H n U22 z λ a E=>pr 1 E z λ a E=>nt<|wB<|bL (λ g a w=>∃ j,Jn 30 a w [(0,l),(1,.func (.func 86) #[] #[]),(7,.int .i64 (f.length:Int)),(8,.int .i64 j)] (Fo) rs (fI f g j=some r)) (((f.length:Int) - 0:Int).toNat+1) ?_ ?_
 ·exact ⟨_,_,E.to z,H,Y0,m⟩
 ·clear E H m
  rintro g a w ⟨j,C,E,H,i,m⟩
  cases g with
  | zero=>exact (bF m z).elim
  | succ g=>
   unfold fI at m
   refine sq<|pn 1 E z λ a E=>wS<|wif E m z (λ m=>?_) λ m=>?_
   ·refine wK<|aA<|wS<|wB<|sq<|pn 2 E z λ a E=>aN (λ a w=>∃ p,Jn 30 a w [(0,l),(1,.func (.func 86) #[] #[]),(7,.int .i64 (f.length:Int)),(8,.int .i64 j),(28,.bool p)] (Fo) rs (nC (fI f g) j p=some r)) ?_ ?_
    ·obtain ⟨D,H⟩:=H.raw (i _ n)
     refine dw [(0,0),(1,0),(2,0),(3,0),(4,0),(5,0),(6,0),(7,0),(8,0),(10,0),(11,0),(12,0),(13,0),(14,0),(9,1),(15,1),(16,0),(17,0)] [] [0] H (by kernel_rfl) (λ _ _ _ h=>False.elim h.2) λ w W0 hI H=>fn 3 E z λ a E=>cs m (λ b m=>?_) λ b m=>?_
     ·refine fk 4 E (kc 13 z b) z λ a E=>bd m λ c q m=>?_
      obtain ⟨q14,F,s,t⟩:=fB (P:=Tryz.prog) (k:=.i64) hI (fA (.head _)) U22 gM q
      refine dL E z (ws' (d:=13) E z z z z b) z z (λ w hW=>gO E z z z (s w)) λ a E=>dL E z (ws' (d:=13) E z z z z b) z z (λ w hW=>kK E z z (yJ (cs:=[.string c.Path,.string c.Data,.int .i64 c.Version,.int .i64 c.Turn,.int .i64 c.Owner]) (DR.ir (w9 t)) (λ _ _ _ h=>yK h) zS z gM w hW)) λ a E=>fk 3 E (kc 13 z b) z λ a E=>bd m λ e u m=>?_
      obtain ⟨q20,G,x,y⟩:=fB (P:=Tryz.prog) (k:=.i64) hI (fA (.head _)) U22 gM u
      refine dL E z (ws' (d:=13) E z z z z b) z z (λ w hW=>gO E z z z (x w)) λ a E=>dL E z (ws' (d:=13) E z z z z b) z z (λ w hW=>kK E z z (yJ (cs:=[.string e.Path,.string e.Data,.int .i64 e.Version,.int .i64 e.Turn,.int .i64 e.Owner]) (DR.ir (w9 y)) (λ _ _ _ h=>yK h) zS z gM w hW)) λ a E=>bQ z<|bd m λ I A m=>bK E (ws' (d:=13) E z z z z b) z z (bO E z z z ((cf_ 86) _)) (Dm H A)<|?_
      rintro _ w ⟨rfl,H⟩ a E
      refine nt<|⟨⟨_,_,H,(bC),(aD m0 (bI))⟩,bQ z<|bd m λ J B m=>bK E (ws' (d:=13) E z z z z b) z z (bO E z z z ((cf_ 86) _)) (Dm H B)<|?_⟩
      rintro _ w ⟨rfl,H⟩ a E
      refine nt<|⟨⟨_,_,H,(bC),(aD m0 (bI))⟩,fk 2 E (kc 13 z b) z λ a E=>bG<|?_⟩
      clear hI
      exact aA<|⟨_,_,E.to z,H,(Y1 i),m⟩
     ·refine fk 11 E (kc 13 z b) z λ a E=>bQ z<|pk 1 E (kc 13 z b) z λ a E=>nt<|⟨⟨_,_,H,(bC),(aD m0 (bI))⟩,bQ z<|pk 1 E (kc 13 z b) z λ a E=>nt<|⟨⟨_,_,H,(bC),(aD m0 (bI))⟩,fk 2 E (kc 13 z b) z λ a E=>bG<|?_⟩⟩
      clear hI
      exact aA<|⟨_,_,E.to z,H,(Y1 i),m⟩
    ·clear E H m
     rintro a w ⟨p,K,E,H,o,m⟩
     unfold nC at m
     refine wif E m z (λ m=>?_) λ m=>?_
     ·refine sq<|pn 1 E z λ a E=>wR<|bM<|aH<|aH<|bM<|aH<|o1 E z<|?_
      cases m
      exact ⟨z,H.reads o⟩
     ·exact wK<|bR<|aA<|wG<|pn 2 E z λ a E=>⟨g,nL g,_,_,E.to z,H,o,m⟩
   ·refine wX<|aW<|aW<|cT<|aA<|sq<|pn 1 E z λ a E=>wR<|o1 E z<|?_
    cases m
    exact ⟨z,H.reads i⟩

def zV(x1:aM):Option ByteArray:=
  some (x1.Dir)
theorem Dn{x1:aM}(H:Sep w (Fo) rs){r:ByteArray}(m:zV x1=some r) :
    Cf 88 [.agg #[.string x1.Dir,.int .i64 x1.Next]] w λ v w'=>.string r=v/\Sep w' (Fo) (rs):=by
 unfold zV at m
 refine ent Tryz.func88 z Tryz.ntmps88 z z λ a E=>sq<|bx E H z λ b w a H E=>pr 1 E z λ a E=>xp 1 E z λ a E=>lb2 E H 0 U9 z λ a E=>pn 1 E z λ a E=>wR<|o1 E z<|have H:=H.drop 0;?_
 cases m
 exact ⟨z,H.reads Y0⟩

def nD(rec_1:Int->Option Bool)(b:Int)(c:Bool):Option Bool:=
  if c=true then (some (false)) else (rec_1 (IntKind.i64.wrap (b+1)))
def fJ(c:List aM):Nat->Int->Option Bool
  | 0,_=>none
  | d+1,b=>
    if (decide (b < (c.length:Int)))=true then (if (decide (b > 0))=true then ((idx c (IntKind.i64.wrap (b - 1))).bind λ e=>(idx c b).bind λ f=>(zV e).bind λ g=>(zV f).bind λ i=>nD (fJ c d) b (!(sLt g i))) else (nD (fJ c d) b false)) else (some (true))
def uN(b:List aM):Option Bool:=
  fJ b (((b.length:Int) - 0:Int).toNat+1) 0
theorem Cq{i:Value}{c:List aM}(H:Sep w (Fo) rs)(j:rSl aC i c ∈ rs){r:Bool}(m:uN c=some r) :
    Cf 87 [i,.func (.func 88) #[] #[]] w λ v w'=>.bool r=v/\Sep w' (Fo) (rs):=by
 unfold uN at m
 refine ent Tryz.func87 z Tryz.ntmps87 z z λ a E=>sq<|pn 1 E z λ a E=>wS<|sp 1 E z λ a E=>lS E H j U23 z λ a E=>pr 1 E z λ a E=>nt<|wB<|bL (λ e a w=>∃ g,Jn 30 a w [(0,i),(1,.func (.func 88) #[] #[]),(7,.int .i64 (c.length:Int)),(8,.int .i64 g)] (Fo) rs (fJ c e g=some r)) (((c.length:Int) - 0:Int).toNat+1) ?_ ?_
 ·exact ⟨_,_,E.to z,H,Y0,m⟩
 ·clear E H m
  rintro e a w ⟨g,C,E,H,f,m⟩
  cases e with
  | zero=>exact (bF m z).elim
  | succ e=>
   unfold fJ at m
   refine sq<|pn 1 E z λ a E=>wS<|wif E m z (λ m=>?_) λ m=>?_
   ·refine wK<|aA<|wS<|wB<|sq<|pn 2 E z λ a E=>aN (λ a w=>∃ p,Jn 30 a w [(0,i),(1,.func (.func 88) #[] #[]),(7,.int .i64 (c.length:Int)),(8,.int .i64 g),(28,.bool p)] (Fo) rs (nD (fJ c e) g p=some r)) ?_ ?_
    ·obtain ⟨D,H⟩:=H.raw (f _ j)
     refine dw [(0,0),(1,0),(2,0),(3,0),(4,0),(5,0),(6,0),(7,0),(8,0),(10,0),(11,0),(12,0),(13,0),(14,0),(9,1),(15,1),(16,0),(17,0)] [] [0] H (by kernel_rfl) (λ _ _ _ h=>False.elim h.2) λ w W0 hI H=>fn 3 E z λ a E=>cs m (λ b m=>?_) λ b m=>?_
     ·refine fk 4 E (kc 13 z b) z λ a E=>bd m λ l q m=>?_
      obtain ⟨q14,F,s,t⟩:=fB (P:=Tryz.prog) (k:=.i64) hI (fA (.head _)) U23 rW q
      refine dL E z (ws' (d:=13) E z z z z b) z z (λ w hW=>gO E z z z (s w)) λ a E=>dL E z (ws' (d:=13) E z z z z b) z z (λ w hW=>kK E z z (yJ (cs:=[.string l.Dir,.int .i64 l.Next]) (DR.ir (w9 t)) (λ _ _ _ h=>yL h) U89 z rW w hW)) λ a E=>fk 3 E (kc 13 z b) z λ a E=>bd m λ n u m=>?_
      obtain ⟨q20,G,x,y⟩:=fB (P:=Tryz.prog) (k:=.i64) hI (fA (.head _)) U23 rW u
      refine dL E z (ws' (d:=13) E z z z z b) z z (λ w hW=>gO E z z z (x w)) λ a E=>dL E z (ws' (d:=13) E z z z z b) z z (λ w hW=>kK E z z (yJ (cs:=[.string n.Dir,.int .i64 n.Next]) (DR.ir (w9 y)) (λ _ _ _ h=>yL h) U89 z rW w hW)) λ a E=>bQ z<|bd m λ I A m=>bK E (ws' (d:=13) E z z z z b) z z (bO E z z z ((cf_ 88) _)) (Dn H A)<|?_
      rintro _ w ⟨rfl,H⟩ a E
      refine nt<|⟨⟨_,_,H,(bC),(aD m0 (bI))⟩,bQ z<|bd m λ J B m=>bK E (ws' (d:=13) E z z z z b) z z (bO E z z z ((cf_ 88) _)) (Dn H B)<|?_⟩
      rintro _ w ⟨rfl,H⟩ a E
      refine nt<|⟨⟨_,_,H,(bC),(aD m0 (bI))⟩,fk 2 E (kc 13 z b) z λ a E=>bG<|?_⟩
      clear hI
      exact aA<|⟨_,_,E.to z,H,(Y1 f),m⟩
     ·refine fk 11 E (kc 13 z b) z λ a E=>bQ z<|pk 1 E (kc 13 z b) z λ a E=>nt<|⟨⟨_,_,H,(bC),(aD m0 (bI))⟩,bQ z<|pk 1 E (kc 13 z b) z λ a E=>nt<|⟨⟨_,_,H,(bC),(aD m0 (bI))⟩,fk 2 E (kc 13 z b) z λ a E=>bG<|?_⟩⟩
      clear hI
      exact aA<|⟨_,_,E.to z,H,(Y1 f),m⟩
    ·clear E H m
     rintro a w ⟨p,K,E,H,o,m⟩
     unfold nD at m
     refine wif E m z (λ m=>?_) λ m=>?_
     ·refine sq<|pn 1 E z λ a E=>wR<|bM<|aH<|aH<|bM<|aH<|o1 E z<|?_
      cases m
      exact ⟨z,H.reads o⟩
     ·exact wK<|bR<|aA<|wG<|pn 2 E z λ a E=>⟨e,nL e,_,_,E.to z,H,o,m⟩
   ·refine wX<|aW<|aW<|cT<|aA<|sq<|pn 1 E z λ a E=>wR<|o1 E z<|?_
    cases m
    exact ⟨z,H.reads f⟩

def zW(x1:aG):Option Bool:=
  if (x1.Turn != 0)=true then (some (true)) else ((yA x1.Path x1.Data x1.Version 0 x1.Owner).bind λ b=>some (!b))
theorem Pp{x1:aG}(H:Sep w (Fo) rs){r:Bool}(m:zW x1=some r) :
    Cf 79 [.agg (nA x1).toArray] w λ v w'=>.bool r=v/\Sep w' (Fo) (rs):=by
 unfold zW at m
 refine ent Tryz.func79 z Tryz.ntmps79 z z λ a E=>sq<|bx E H z λ d w a H E=>pr 1 E z λ a E=>xp 1 E z λ a E=>lb2 E H 0 U2 z λ a E=>pr 2 E z λ a E=>cs m (λ b m=>?_) λ b m=>?_
 ·refine pk 12 E (kc 6 z b) z λ a E=>nt<|wR<|o1 E z<|have H:=H.drop 0;?_
  cases m
  exact ⟨z,H.reads Y0⟩
 ·refine pk 1 E (kc 6 z b) z λ a E=>gl 6 E H 0 b U9 z λ a E=>pk 1 E (kc 6 z b) z λ a E=>gl 6 E H 0 b U9 z λ a E=>pk 1 E (kc 6 z b) z λ a E=>gl 6 E H 0 b U2 z λ a E=>pk 1 E (kc 6 z b) z λ a E=>gl 6 E H 0 b U2 z λ a E=>bd m λ e c m=>gc 6 E b z (cf_ 80) (Fz H c)<|?_
  rintro _ w ⟨rfl,H⟩ a E
  refine pk 3 E (kc 6 z b) z λ a E=>nt<|wR<|o1 E z<|have H:=H.drop 0;?_
  cases m
  exact ⟨z,H.reads Y0⟩

def dT(c:List aG):Nat->Int->Option Int
  | 0,_=>none
  | e+1,b=>
    if (decide (b < (c.length:Int)))=true then ((idx c b).bind λ f=>(zW f).bind λ d=>if d=true then (some (b)) else (dT c e (IntKind.i64.wrap (b+1)))) else (some ((-1)))
def jR(b:List aG):Option Int:=
  dT b (((b.length:Int) - 0:Int).toNat+1) 0
theorem F6{f:Value}{d:List aG}(H:Sep w (Fo) rs)(e:rSl aB f d ∈ rs){r:Int}(m:jR d=some r) :
    Cf 142 [f,.func (.func 79) #[] #[]] w λ v w'=>.int .i64 r=v/\Sep w' (Fo) (rs):=by
 unfold jR at m
 refine ent Tryz.func142 z Tryz.ntmps142 z z λ a E=>sq<|pn 1 E z λ a E=>wS<|sp 1 E z λ a E=>lS E H e U22 z λ a E=>pr 1 E z λ a E=>nt<|wB<|bL (λ c a w=>∃ g,Jn 19 a w [(0,f),(1,.func (.func 79) #[] #[]),(7,.int .i64 (d.length:Int)),(8,.int .i64 g)] (Fo) rs (dT d c g=some r)) (((d.length:Int) - 0:Int).toNat+1) ?_ ?_
 ·exact ⟨_,_,E.to z,H,Y0,m⟩
 ·clear E H m
  rintro c a w ⟨g,k,E,H,b,m⟩
  cases c with
  | zero=>exact (bF m z).elim
  | succ c=>
   unfold dT at m
   refine sq<|pn 1 E z λ a E=>wS<|wif E m z (λ m=>?_) λ m=>?_
   ·refine wK<|aA<|wS<|wB<|sp 2 E z λ a E=>xp 3 E z λ a E=>bd m λ n j m=>dP E H (wn z) z z z z z (b _ e) U22 gM j λ q9 a H E=>ldf cM E H z z z z z m0 zS z gM λ a E=>bd m λ l i m=>bK E (wn z) z z (bO E z z z ((cf_ 79) _)) (Pp H i)<|?_
    rintro _ w ⟨rfl,H⟩ a E
    refine nt<|wif E m z (λ m=>?_) λ m=>?_
    ·refine sq<|pn 2 E z λ a E=>wR<|bM<|aH<|aH<|bM<|aH<|o1 E z<|?_
     cases m
     exact ⟨z,H.reads (Y1 b)⟩
    ·exact wK<|bR<|aA<|wG<|pn 2 E z λ a E=>⟨c,nL c,_,_,E.to z,H,(Y1 b),m⟩
   ·refine wX<|aW<|aW<|cT<|aA<|sq<|pn 1 E z λ a E=>wR<|o1 E z<|?_
    cases m
    exact ⟨z,H.reads b⟩

def iA(b:List aG):Option Bool:=
  (jR b).bind λ c=>some (decide (c ≥ 0))
theorem A8{b:Value}{c:List aG}(H:Sep w (Fo) rs)(d:rSl aB b c ∈ rs){r:Bool}(m:iA c=some r) :
    Cf 78 [b,.func (.func 79) #[] #[]] w λ v w'=>.bool r=v/\Sep w' (Fo) (rs):=by
 unfold iA at m
 refine ent Tryz.func78 z Tryz.ntmps78 z z λ a E=>sp 1 E z λ a E=>xp 2 E z λ a E=>bd m λ f e m=>xk2 E z (cf_ 142) (F6 H d e) λ w H a E=>pn 2 E z λ a E=>wR<|o1 E z<|?_
 cases m
 exact ⟨z,H.reads Y0⟩

def zX(x1:aM):Option Bool:=
  (fU x1.Dir).bind λ b=>if (!b)=true then (some (true)) else ((wD x1.Next 1 10000).bind λ c=>some (!c))
theorem Pq{x1:aM}(H:Sep w (Fo) rs){r:Bool}(m:zX x1=some r) :
    Cf 82 [.agg #[.string x1.Dir,.int .i64 x1.Next]] w λ v w'=>.bool r=v/\Sep w' (Fo) (rs):=by
 unfold zX at m
 refine ent Tryz.func82 z Tryz.ntmps82 z z λ a E=>sq<|bx E H z λ e w a H E=>pr 1 E z λ a E=>xp 1 E z λ a E=>lb2 E H 0 U9 z λ a E=>bd m λ f c m=>xk2 E z (cf_ 83) (jQ H c) λ w H a E=>pr 2 E z λ a E=>cs m (λ b m=>?_) λ b m=>?_
 ·refine pk 6 E (kc 7 z b) z λ a E=>nt<|wR<|o1 E z<|have H:=H.drop 0;?_
  cases m
  exact ⟨z,H.reads Y0⟩
 ·refine pk 1 E (kc 7 z b) z λ a E=>gl 7 E H 0 b U2 z λ a E=>bd m λ g d m=>gc 7 E b z (cf_ 84) (X2 H d)<|?_
  rintro _ w ⟨rfl,H⟩ a E
  refine pk 3 E (kc 7 z b) z λ a E=>nt<|wR<|o1 E z<|have H:=H.drop 0;?_
  cases m
  exact ⟨z,H.reads Y0⟩

def dU(c:List aM):Nat->Int->Option Int
  | 0,_=>none
  | e+1,b=>
    if (decide (b < (c.length:Int)))=true then ((idx c b).bind λ f=>(zX f).bind λ d=>if d=true then (some (b)) else (dU c e (IntKind.i64.wrap (b+1)))) else (some ((-1)))
def jS(b:List aM):Option Int:=
  dU b (((b.length:Int) - 0:Int).toNat+1) 0
theorem F7{f:Value}{d:List aM}(H:Sep w (Fo) rs)(e:rSl aC f d ∈ rs){r:Int}(m:jS d=some r) :
    Cf 143 [f,.func (.func 82) #[] #[]] w λ v w'=>.int .i64 r=v/\Sep w' (Fo) (rs):=by
 unfold jS at m
 refine ent Tryz.func143 z Tryz.ntmps143 z z λ a E=>sq<|pn 1 E z λ a E=>wS<|sp 1 E z λ a E=>lS E H e U23 z λ a E=>pr 1 E z λ a E=>nt<|wB<|bL (λ c a w=>∃ g,Jn 19 a w [(0,f),(1,.func (.func 82) #[] #[]),(7,.int .i64 (d.length:Int)),(8,.int .i64 g)] (Fo) rs (dU d c g=some r)) (((d.length:Int) - 0:Int).toNat+1) ?_ ?_
 ·exact ⟨_,_,E.to z,H,Y0,m⟩
 ·clear E H m
  rintro c a w ⟨g,k,E,H,b,m⟩
  cases c with
  | zero=>exact (bF m z).elim
  | succ c=>
   unfold dU at m
   refine sq<|pn 1 E z λ a E=>wS<|wif E m z (λ m=>?_) λ m=>?_
   ·refine wK<|aA<|wS<|wB<|sp 2 E z λ a E=>xp 3 E z λ a E=>bd m λ n j m=>dP E H (wn z) z z z z z (b _ e) U23 rW j λ q9 a H E=>ldf dX E H z z z z z m0 U89 z rW λ a E=>bd m λ l i m=>bK E (wn z) z z (bO E z z z ((cf_ 82) _)) (Pq H i)<|?_
    rintro _ w ⟨rfl,H⟩ a E
    refine nt<|wif E m z (λ m=>?_) λ m=>?_
    ·refine sq<|pn 2 E z λ a E=>wR<|bM<|aH<|aH<|bM<|aH<|o1 E z<|?_
     cases m
     exact ⟨z,H.reads (Y1 b)⟩
    ·exact wK<|bR<|aA<|wG<|pn 2 E z λ a E=>⟨c,nL c,_,_,E.to z,H,(Y1 b),m⟩
   ·refine wX<|aW<|aW<|cT<|aA<|sq<|pn 1 E z λ a E=>wR<|o1 E z<|?_
    cases m
    exact ⟨z,H.reads b⟩

def iB(b:List aM):Option Bool:=
  (jS b).bind λ c=>some (decide (c ≥ 0))
theorem A9{b:Value}{c:List aM}(H:Sep w (Fo) rs)(d:rSl aC b c ∈ rs){r:Bool}(m:iB c=some r) :
    Cf 81 [b,.func (.func 82) #[] #[]] w λ v w'=>.bool r=v/\Sep w' (Fo) (rs):=by
 unfold iB at m
 refine ent Tryz.func81 z Tryz.ntmps81 z z λ a E=>sp 1 E z λ a E=>xp 2 E z λ a E=>bd m λ f e m=>xk2 E z (cf_ 143) (F7 H d e) λ w H a E=>pn 2 E z λ a E=>wR<|o1 E z<|?_
 cases m
 exact ⟨z,H.reads Y0⟩

def sD(x1:aR):Option Bool:=
  (iA x1.Nodes).bind λ d=>(iB x1.Turns).bind λ e=>if (!d)=true then (if (!e)=true then ((uM x1.Nodes).bind λ b=>if b=true then ((uN x1.Turns).bind λ c=>some (c)) else (some (false))) else (some (false))) else (some (false))
theorem Q4{x1:aR}{k l:Value}(H:Sep w (Fo) rs)(e:rSl aB k x1.Nodes ∈ rs)(f:rSl aC l x1.Turns ∈ rs){r:Bool}(m:sD x1=some r) :
    Cf 37 [.agg #[k,l]] w λ v w'=>.bool r=v/\Sep w' (Fo) (rs):=by
 unfold sD at m
 refine ent Tryz.func37 z Tryz.ntmps37 z z λ a E=>sq<|bx E H z λ q w a H E=>pr 1 E z λ a E=>xp 1 E z λ a E=>lb2 E H 0 U22 z λ a E=>bd m λ s n m=>xk2 E z (cf_ 78) (A8 H e n) λ w H a E=>pr 1 E z λ a E=>xp 1 E z λ a E=>lb2 E H 0 U23 z λ a E=>bd m λ t g m=>xk2 E z (cf_ 81) (A9 H f g) λ w H a E=>pr 1 E z λ a E=>xp 3 E z λ a E=>cs m (λ d m=>?_) λ d m=>?_
 ·refine pk 4 E (kc 13 z d) z λ a E=>cs m (λ b m=>?_) λ b m=>?_
  ·refine pk 1 E (kc 17 z b) z λ a E=>gl 17 E H 0 b U22 z λ a E=>bd m λ o i m=>gc 17 E b z (cf_ 85) (Cp H e i)<|?_
   rintro _ w ⟨rfl,H⟩ a E
   refine pk 2 E (kc 17 z b) z λ a E=>cs m (λ c m=>?_) λ c m=>?_
   ·refine pk 1 E (kc 22 z c) z λ a E=>gl 22 E H 0 c U23 z λ a E=>bd m λ p j m=>gc 22 E c z (cf_ 87) (Cq H f j)<|?_
    rintro _ w ⟨rfl,H⟩ a E
    refine pk 2 E (kc 22 z c) z λ a E=>nt<|wR<|o1 E z<|have H:=H.drop 0;?_
    cases m
    exact ⟨z,H.reads Y0⟩
   ·refine pk 5 E (kc 22 z c) z λ a E=>nt<|wR<|o1 E z<|have H:=H.drop 0;?_
    cases m
    exact ⟨z,H.reads Y0⟩
  ·refine pk 10 E (kc 17 z b) z λ a E=>nt<|wR<|o1 E z<|have H:=H.drop 0;?_
   cases m
   exact ⟨z,H.reads Y0⟩
 ·refine pk 14 E (kc 13 z d) z λ a E=>nt<|wR<|o1 E z<|have H:=H.drop 0;?_
  cases m
  exact ⟨z,H.reads Y0⟩

def gT(b:Int):Option Int:=
  some (b)
theorem rA{e:Nat}{b:Int}{c d f g i j k:Value}(H:Sep w (Blk e 185 [c,d,f,g,i,j,k]::Fo) rs){r:Int}(m:gT b=some r) :
    Cf 203 [pt e 0,.int .i64 b] w λ v w'=>.tuple #[]=v/\Sep w' (Blk e 185 [c,d,.int .i64 r,.string (ByteArray.mk #[]),.string (ByteArray.mk #[]),.int .i64 0,nS]::Fo) (rs):=by
 unfold gT at m
 refine ent Tryz.func203 z Tryz.ntmps203 z z λ a E=>wG<|pr 2 E z λ a E=>sv2 E z (cJ E z (E.evs z) (v:=.agg #[.int .i64 b,.string (ByteArray.mk #[]),.string (ByteArray.mk #[]),.int .i64 0,nS]) (by kernel_rfl)) λ a E=>pr 2 E z λ a E=>ss 0 E H z F4 z λ w H=>wN<|vX E z<|?_
 cases m
 exact ⟨z,H.reads Y0⟩

def rB(b:ByteArray)(c:ByteArray):Option Int:=
  some (Extern.BytealgCompare.cmp b c)
theorem N8{b c:ByteArray}(H:Sep w (Fo) rs){r:Int}(m:rB b c=some r) :
    Cf 190 [.string b,.string c] w λ v w'=>.int .i64 r=v/\Sep w' (Fo) (rs):=by
 unfold rB at m
 refine ent Tryz.func190 z Tryz.ntmps190 z z λ a E=>sp 1 E z λ a E=>xp 2 E z λ a E=>sv2 E z (Iw E z z (AV _ _ _)) λ a E=>pn 1 E z λ a E=>wR<|o1 E z<|?_
 cases m
 exact ⟨z,H.reads Y0⟩

def pS(b:ByteArray)(c:ByteArray):Option Int:=
  (rB b c).bind λ d=>some (d)
theorem wH{b c:ByteArray}(H:Sep w (Fo) rs){r:Int}(m:pS b c=some r) :
    Cf 113 [.string b,.string c] w λ v w'=>.int .i64 r=v/\Sep w' (Fo) (rs):=by
 unfold pS at m
 refine ent Tryz.func113 z Tryz.ntmps113 z z λ a E=>sp 1 E z λ a E=>xp 2 E z λ a E=>bd m λ e d m=>xk2 E z (cf_ 190) (N8 H d) λ w H a E=>pn 1 E z λ a E=>wR<|o1 E z<|?_
 cases m
 exact ⟨z,H.reads Y0⟩

def tK(x1:aG)(b:ByteArray):Option Int:=
  (pS x1.Path b).bind λ c=>some (c)
theorem R4{x1:aG}{b:ByteArray}(H:Sep w (Fo) rs){r:Int}(m:tK x1 b=some r) :
    Cf 280 [.agg (nA x1).toArray,.string b] w λ v w'=>.int .i64 r=v/\Sep w' (Fo) (rs):=by
 unfold tK at m
 refine ent Tryz.func280 z Tryz.ntmps280 z z λ a E=>sq<|bx E H z λ d w a H E=>pr 1 E z λ a E=>xp 1 E z λ a E=>lb2 E H 0 U9 z λ a E=>pr 1 E z λ a E=>bd m λ e c m=>xk2 E z (cf_ 113) (wH H c) λ w H a E=>pn 1 E z λ a E=>wR<|o1 E z<|have H:=H.drop 0;?_
 cases m
 exact ⟨z,H.reads Y0⟩

def cD(c:List aG)(e:ByteArray):Nat->Int->Int->Option yM
  | 0,_,_=>none
  | f+1,b,d=>
    if (decide (b < d))=true then ((idx c (IntKind.i64.wrap (sY .u64 (IntKind.u64.wrap (IntKind.i64.wrap (b+d))) 1))).bind λ k=>(tK k e).bind λ g=>if (decide (g < 0))=true then (cD c e f (IntKind.i64.wrap ((IntKind.i64.wrap (sY .u64 (IntKind.u64.wrap (IntKind.i64.wrap (b+d))) 1))+1)) d) else (cD c e f b (IntKind.i64.wrap (sY .u64 (IntKind.u64.wrap (IntKind.i64.wrap (b+d))) 1)))) else (if (decide (b < (c.length:Int)))=true then ((idx c b).bind λ i=>(tK i e).bind λ j=>some (b,j == 0)) else (some (b,false)))
def fK(b:List aG)(c:ByteArray):Option yM:=
  cD b c (((b.length:Int) - 0:Int).toNat+1) 0 (b.length:Int)
theorem wW{k:Value}{f:List aG}{q:ByteArray}(H:Sep w (Row 107 aB k f::Fo) rs){r:Int×Bool}(m:fK f q=some r) :
    Cf 279 [k,.string q,.func (.func 280) #[] #[]] w λ v w'=>.tuple #[.int .i64 r.1,.bool r.2]=v/\Sep w' (Row 107 aB k f::Fo) (rs):=by
 unfold fK at m
 refine ent Tryz.func279 z Tryz.ntmps279 z z λ a E=>sp 2 E z λ a E=>xp 1 E z λ a E=>sv2 E z (mZ (i:=0) E H z z z U22) λ a E=>pr 1 E z λ a E=>xp 3 E z λ a E=>nt<|wS<|wB<|bL (λ c a w=>∃ s t,Jn 49 a w [(0,k),(1,.string q),(2,.func (.func 280) #[] #[]),(8,.int .i64 (f.length:Int)),(9,.int .i64 s),(10,.int .i64 t)] (Row 107 aB k f::Fo) rs (cD f q c s t=some r)) (((f.length:Int) - 0:Int).toNat+1) ?_ ?_
 ·exact X3 ⟨E.to z,H,Y0,m⟩
 ·clear E H m
  rintro c a w ⟨s,t,y,E,H,j,m⟩
  cases c with
  | zero=>exact (bF m z).elim
  | succ c=>
   unfold cD at m
   refine wS<|sq<|pn 3 E z λ a E=>wif E m z (λ m=>?_) λ m=>?_
   ·refine wK<|aA<|wB<|sp 4 E z λ a E=>sv2 E z (Ee E z z z (by decide)) λ a E=>pr 2 E z λ a E=>xp 3 E z λ a E=>bd m λ l n m=>?_
    obtain ⟨A,B,o⟩:=H.rowformNE (i:=0) z n
    refine sv2 E z (dE (d:=aB) E o z z z z U22 gM n) λ a E=>sv2 E z (jP (i:=0) E H cM o z z z n (us:=[.string l.Path,.string l.Data,.int .i64 l.Version,.int .i64 l.Turn,.int .i64 l.Owner]) z zS z gM) λ a E=>pr 1 E z λ a E=>bd m λ C u m=>bK E (wn z) z z (bO E z z z ((cf_ 280) _)) (R4 H u)<|?_
    rintro _ w ⟨rfl,H⟩ a E
    refine pn 1 E z λ a E=>wif E m z (λ m=>?_) λ m=>?_
    ·exact wG<|pr 3 E z λ a E=>wN<|bR<|aA<|⟨c,nL c,X3 ⟨E.to z,H,j,m⟩⟩
    ·exact wG<|pr 2 E z λ a E=>wN<|bR<|aA<|⟨c,nL c,X3 ⟨E.to z,H,j,m⟩⟩
   ·refine wX<|aW<|aW<|cT<|aA<|sp 5 E z λ a E=>cs m (λ b m=>?_) λ b m=>?_
    ·refine pk 3 E (kc 39 z b) z λ a E=>bd m λ e g m=>?_
     obtain ⟨D,F,p⟩:=H.rowformNE (i:=0) z g
     refine gv 39 E b z (dE (d:=aB) E p z z z z U22 gM g) λ a E=>gv 39 E b z (jP (i:=0) E H cM p z z z g (us:=[.string e.Path,.string e.Data,.int .i64 e.Version,.int .i64 e.Turn,.int .i64 e.Owner]) z zS z gM) λ a E=>pk 1 E (kc 39 z b) z λ a E=>bd m λ G x m=>bK E (ws' (d:=39) E z z z z b) z z (bO E z z z ((cf_ 280) _)) (R4 H x)<|?_
     rintro _ w ⟨rfl,H⟩ a E
     refine pk 4 E (kc 39 z b) z λ a E=>nt<|wR<|jN E z z z<|?_
     cases m
     exact ⟨z,H.reads j⟩
    ·refine pk 11 E (kc 39 z b) z λ a E=>nt<|wR<|jN E z z z<|?_
     cases m
     exact ⟨z,H.reads j⟩

def mV(d:List aG)(c:ByteArray):Option yM:=
  (fK d c).bind λ b=>some (b.1,b.2)
theorem K9{k:Nat}{b c d e f g i:Value}{l:List aG}{j:ByteArray}(H:Sep w (Blk k 185 [b,c,d,e,f,g,i]::Row 107 aB b l::Fo) rs){r:Int×Bool}(m:mV l j=some r) :
    Cf 209 [pt k 0,.string j] w λ v w'=>.tuple #[.int .i64 r.1,.bool r.2]=v/\Sep w' (Blk k 185 [b,c,d,e,f,g,i]::Row 107 aB b l::Fo) (rs):=by
 unfold mV at m
 refine ent Tryz.func209 z Tryz.ntmps209 z z λ a E=>sp 2 E z λ a E=>xp 4 E z λ a E=>lb2 E H 0 U22 z λ a E=>pr 1 E z λ a E=>have H:=H.frs [0,1] z;bd m λ o n m=>xk2 E z (cf_ 279) (wW H n) λ w H a E=>pn 4 E z λ a E=>wR<|jN E z z z<|have H:=H.frs [0,1] z;?_
 cases m
 exact ⟨z,H.reads Y0⟩

def tL(x20:Int):Option Si:=
  some ((-1),x20,(ByteArray.mk #[]),(ByteArray.mk #[]),0,[])
def pY(f:List aG)(b:Int×Bool)(g:Int)(i:ByteArray)(j:ByteArray)(k:Int)(c:List ByteArray)(d:Bool):Option Si:=
  if d=true then ((gT 63).bind λ e=>tL e) else ((idx f b.1).bind λ l=>some (b.1,g,i,j,k,c))
def pZ(d:List aG)(b:Int×Bool)(f:Int)(g:ByteArray)(i:ByteArray)(j:Int)(c:List ByteArray)(e:bE)(k:Bool):Option Si:=
  if (!b.2)=true then ((gT 62).bind λ l=>tL l) else (if k=true then (if (decide (e.Version ≥ 0))=true then ((idx d b.1).bind λ m=>pY d b f g i j c (e.Version != m.Version)) else (pY d b f g i j c false)) else (pY d b f g i j c false))
def iG(e:List aG)(f:Int)(g:ByteArray)(i:ByteArray)(j:Int)(c:List ByteArray)(b:bE):Option Si:=
  (mV e b.Path).bind λ d=>if (b.Kind == 3)=true then (pZ e d f g i j c b true) else (if (b.Kind == 5)=true then (pZ e d f g i j c b true) else (pZ e d f g i j c b (b.Kind == 6)))
theorem tY{o:Nat}{c j p:Value}{q:List aG}{y A:Int}{B C:ByteArray}{l:List ByteArray}{x:bE}(H:Sep w (Blk o 185 [c,p,.int .i64 y,.string B,.string C,.int .i64 A,j]::Row 107 aB c q::Row 9 kS j l::Fo) rs){r:Int×Int×ByteArray×ByteArray×Int×eY}(m:iG q y B C A l x=some r) :
    Cf 202 [pt o 0,.agg (cB x).toArray] w λ v w'=>∃ P,orp c r.1 5=v/\Sep w' (Blk o 185 [c,p,.int .i64 r.2.1,.string r.2.2.1,.string r.2.2.2.1,.int .i64 r.2.2.2.2.1,P]::Row 107 aB c q::Row 9 kS P r.2.2.2.2.2::Fo) (rs):=by
 unfold iG at m
 refine ent Tryz.func202 z Tryz.ntmps202 z z λ a E=>sq<|bx E H z λ K w a H E=>pr 1 E z λ a E=>xp 2 E z λ a E=>lb2 E H 0 U9 z λ a E=>have H:=H.frs [3,1,3,3] z;bd m λ s L m=>xk2 E z (cf_ 209) (K9 H L) λ w H a E=>pn 5 E z λ a E=>aN (λ a w=>∃ D,Jn 63 a w [(0,pt o 0),(3,pt K 0),(5,.int .i64 s.1),(6,.bool s.2),(7,.bool D)] (Blk o 185 [c,p,.int .i64 y,.string B,.string C,.int .i64 A,j]::Blk K 97 (cB x)::Row 107 aB c q::Row 9 kS j l::Fo) rs (pZ q s y B C A l x D=some r)) ?_ ?_
 ·refine wG<|pr 1 E z λ a E=>lb2 E H 2 U3 z λ a E=>pr 2 E z λ a E=>cs m (λ e m=>?_) λ e m=>?_
  ·exact pk 10 E (kc 18 z e) z λ a E=>nt<|have H:=H.frs [3,2,3,3] z;⟨_,_,E.to z,H,Y0,m⟩
  ·refine pk 1 E (kc 18 z e) z λ a E=>gl 18 E H 2 e U3 z λ a E=>pk 3 E (kc 18 z e) z λ a E=>cs m (λ f m=>?_) λ f m=>?_
   ·exact pk 5 E (kc 23 z f) z λ a E=>nt<|have H:=H.frs [3,2,3,3] z;⟨_,_,E.to z,H,Y0,m⟩
   ·exact pk 1 E (kc 23 z f) z λ a E=>gl 23 E H 2 f U3 z λ a E=>pk 3 E (kc 23 z f) z λ a E=>nt<|have H:=H.frs [3,2,3,3] z;⟨_,_,E.to z,H,Y0,m⟩
 ·clear E H m
  rintro a w ⟨D,Q,E,H,n,m⟩
  unfold pZ at m
  refine aN (λ a w=>∃ x20,Jn 63 a w [] (Blk o 185 [c,p,.int .i64 x20,.string (ByteArray.mk #[]),.string (ByteArray.mk #[]),.int .i64 0,nS]::Row 107 aB c q::Fo) rs (tL x20=some r)) ?_ ?_
  ·refine wB<|sq<|pn 3 E z λ a E=>wif E m z (λ m=>?_) λ m=>?_
   ·exact wG<|pr 1 E z λ a E=>bd m λ T M m=>xk2 E z (cf_ 203) (rA H M) λ w H a E=>wN<|bR<|aA<|have H:=H.drs [1,2];⟨_,_,E.nil,H,n,m⟩
   ·refine aN (λ a w=>∃ F,Jn 63 a w [(0,pt o 0),(5,.int .i64 s.1),(40,.bool F)] (Blk o 185 [c,p,.int .i64 y,.string B,.string C,.int .i64 A,j]::Row 107 aB c q::Row 9 kS j l::Fo) rs (pY q s y B C A l F=some r)) ?_ ?_
    ·refine dz [0,0,0,0,0,0,0,0,0,0,0,0,0,0,0,0,0,0,0,0,1] [0,1,2] H λ w W0 hI H=>fn 2 E z λ a E=>cs m (λ g m=>?_) λ g m=>?_
     ·refine fk 1 E (kc 42 z g) z λ a E=>fb E z (ws' (d:=42) E z z z z g) z z z z mm1 z U2 z λ a E=>fk 3 E (kc 42 z g) z λ a E=>cs m (λ b m=>?_) λ b m=>?_
      ·refine fk 1 E (kc 47 z b) z λ a E=>fb E z (ws' (d:=47) E z z z z b) z z z z mm1 z U2 z λ a E=>fk 4 E (kc 47 z b) z λ a E=>fb E z (ws' (d:=47) E z z z z b) z z z z m0 z U22 z λ a E=>fk 1 E (kc 47 z b) z λ a E=>bd m λ U t m=>?_
       obtain ⟨V,W,G⟩:=H.rowformNE (i:=2) z t
       refine dL E z (ws' (d:=47) E z z z z b) z z (λ w hW=>dE (d:=aB) E G z z z z U22 gM t) λ a E=>fk 1 E (kc 47 z b) z λ a E=>dL E z (ws' (d:=47) E z z z z b) z z (λ w hW=>Lf (d:=aB) (k:=2) E cM G t mm2 z z z U2 z hW) λ a E=>fk 2 E (kc 47 z b) z λ a E=>bQ z<|pn 1 E z λ a E=>⟨sx H [0,1,2] z,bG<|?_⟩
       clear hI
       exact aA<|have H:=H.drop 1;⟨_,_,E.to z,H,n,m⟩
      ·refine fk 13 E (kc 47 z b) z λ a E=>bQ z<|pn 1 E z λ a E=>⟨sx H [0,1,2] z,bG<|?_⟩
       clear hI
       exact aA<|have H:=H.drop 1;⟨_,_,E.to z,H,n,m⟩
     ·refine fk 18 E (kc 42 z g) z λ a E=>bQ z<|pn 1 E z λ a E=>⟨sx H [0,1,2] z,bG<|?_⟩
      clear hI
      exact aA<|have H:=H.drop 1;⟨_,_,E.to z,H,n,m⟩
    ·clear E H m
     rintro a w ⟨F,R,E,H,I,m⟩
     unfold pY at m
     refine wif E m z (λ m=>?_) λ m=>?_
     ·exact wG<|pr 1 E z λ a E=>bd m λ X N m=>xk2 E z (cf_ 203) (rA H N) λ w H a E=>wN<|bR<|aA<|have H:=H.drop 2;⟨_,_,E.nil,H,I,m⟩
     ·refine sp 4 E z λ a E=>lb2 E H 0 U22 z λ a E=>pr 1 E z λ a E=>bd m λ Y u m=>?_
      obtain ⟨Z,b0,J⟩:=H.rowformNE (i:=1) z u
      refine sv2 E z (dE (d:=aB) E J z z z z U22 gM u) λ a E=>pn 1 E z λ a E=>wR<|bM<|aH<|o1 E z<|?_
      cases m
      exact ⟨_,Gw _ J u,H.reads I⟩
  ·clear E H m
   rintro a w ⟨x20,S,E,H,O,m⟩
   unfold tL at m
   refine sq<|pn 1 E z λ a E=>wR<|o1 E z<|have H:=H.nilRow 9 kS;have H:=H.frs [0,2,2] z;?_
   cases m
   exact ⟨_,z,H.reads O⟩

def uW(x1:aM)(b:ByteArray):Option Int:=
  (pS x1.Dir b).bind λ c=>some (c)
theorem W2{x1:aM}{b:ByteArray}(H:Sep w (Fo) rs){r:Int}(m:uW x1 b=some r) :
    Cf 275 [.agg #[.string x1.Dir,.int .i64 x1.Next],.string b] w λ v w'=>.int .i64 r=v/\Sep w' (Fo) (rs):=by
 unfold uW at m
 refine ent Tryz.func275 z Tryz.ntmps275 z z λ a E=>sq<|bx E H z λ d w a H E=>pr 1 E z λ a E=>xp 1 E z λ a E=>lb2 E H 0 U9 z λ a E=>pr 1 E z λ a E=>bd m λ e c m=>xk2 E z (cf_ 113) (wH H c) λ w H a E=>pn 1 E z λ a E=>wR<|o1 E z<|have H:=H.drop 0;?_
 cases m
 exact ⟨z,H.reads Y0⟩

def cE(c:List aM)(e:ByteArray):Nat->Int->Int->Option yM
  | 0,_,_=>none
  | f+1,b,d=>
    if (decide (b < d))=true then ((idx c (IntKind.i64.wrap (sY .u64 (IntKind.u64.wrap (IntKind.i64.wrap (b+d))) 1))).bind λ k=>(uW k e).bind λ g=>if (decide (g < 0))=true then (cE c e f (IntKind.i64.wrap ((IntKind.i64.wrap (sY .u64 (IntKind.u64.wrap (IntKind.i64.wrap (b+d))) 1))+1)) d) else (cE c e f b (IntKind.i64.wrap (sY .u64 (IntKind.u64.wrap (IntKind.i64.wrap (b+d))) 1)))) else (if (decide (b < (c.length:Int)))=true then ((idx c b).bind λ i=>(uW i e).bind λ j=>some (b,j == 0)) else (some (b,false)))
def cI(b:List aM)(c:ByteArray):Option yM:=
  cE b c (((b.length:Int) - 0:Int).toNat+1) 0 (b.length:Int)
theorem hB{j:Value}{e:List aM}{o:ByteArray}(H:Sep w (Row 89 aC j e::Fo) rs){r:Int×Bool}(m:cI e o=some r) :
    Cf 274 [j,.string o,.func (.func 275) #[] #[]] w λ v w'=>.tuple #[.int .i64 r.1,.bool r.2]=v/\Sep w' (Row 89 aC j e::Fo) (rs):=by
 unfold cI at m
 refine ent Tryz.func274 z Tryz.ntmps274 z z λ a E=>sp 2 E z λ a E=>xp 1 E z λ a E=>sv2 E z (mZ (i:=0) E H z z z U23) λ a E=>pr 1 E z λ a E=>xp 3 E z λ a E=>nt<|wS<|wB<|bL (λ c a w=>∃ q s,Jn 49 a w [(0,j),(1,.string o),(2,.func (.func 275) #[] #[]),(8,.int .i64 (e.length:Int)),(9,.int .i64 q),(10,.int .i64 s)] (Row 89 aC j e::Fo) rs (cE e o c q s=some r)) (((e.length:Int) - 0:Int).toNat+1) ?_ ?_
 ·exact X3 ⟨E.to z,H,Y0,m⟩
 ·clear E H m
  rintro c a w ⟨q,s,y,E,H,g,m⟩
  cases c with
  | zero=>exact (bF m z).elim
  | succ c=>
   unfold cE at m
   refine wS<|sq<|pn 3 E z λ a E=>wif E m z (λ m=>?_) λ m=>?_
   ·refine wK<|aA<|wB<|sp 4 E z λ a E=>sv2 E z (Ee E z z z (by decide)) λ a E=>pr 2 E z λ a E=>xp 3 E z λ a E=>bd m λ x k m=>?_
    obtain ⟨A,B,l⟩:=H.rowformNE (i:=0) z k
    refine sv2 E z (dE (d:=aC) E l z z z z U23 rW k) λ a E=>sv2 E z (jP (i:=0) E H dX l z z z k (us:=[.string x.Dir,.int .i64 x.Next]) z U89 z rW) λ a E=>pr 1 E z λ a E=>bd m λ C t m=>bK E (wn z) z z (bO E z z z ((cf_ 275) _)) (W2 H t)<|?_
    rintro _ w ⟨rfl,H⟩ a E
    refine pn 1 E z λ a E=>wif E m z (λ m=>?_) λ m=>?_
    ·exact wG<|pr 3 E z λ a E=>wN<|bR<|aA<|⟨c,nL c,X3 ⟨E.to z,H,g,m⟩⟩
    ·exact wG<|pr 2 E z λ a E=>wN<|bR<|aA<|⟨c,nL c,X3 ⟨E.to z,H,g,m⟩⟩
   ·refine wX<|aW<|aW<|cT<|aA<|sp 5 E z λ a E=>cs m (λ b m=>?_) λ b m=>?_
    ·refine pk 3 E (kc 39 z b) z λ a E=>bd m λ p f m=>?_
     obtain ⟨D,F,n⟩:=H.rowformNE (i:=0) z f
     refine gv 39 E b z (dE (d:=aC) E n z z z z U23 rW f) λ a E=>gv 39 E b z (jP (i:=0) E H dX n z z z f (us:=[.string p.Dir,.int .i64 p.Next]) z U89 z rW) λ a E=>pk 1 E (kc 39 z b) z λ a E=>bd m λ G u m=>bK E (ws' (d:=39) E z z z z b) z z (bO E z z z ((cf_ 275) _)) (W2 H u)<|?_
     rintro _ w ⟨rfl,H⟩ a E
     refine pk 4 E (kc 39 z b) z λ a E=>nt<|wR<|jN E z z z<|?_
     cases m
     exact ⟨z,H.reads g⟩
    ·refine pk 11 E (kc 39 z b) z λ a E=>nt<|wR<|jN E z z z<|?_
     cases m
     exact ⟨z,H.reads g⟩

def w8(x1:bE):Option (Int×ByteArray×ByteArray×ByteArray×Int×Int×Bool):=
  some (x1.Kind,x1.Dir,x1.Path,x1.Data,x1.Version,x1.Owner,x1.Turns)
theorem Hq{x1:bE}(H:Sep w (Fo) rs){r:Int×ByteArray×ByteArray×ByteArray×Int×Int×Bool}(m:w8 x1=some r) :
    Cf 213 [.agg (cB x1).toArray] w λ v w'=>∃ b,.func (.func 283) #[] #[pt b 0]=v/\Sep w' (Blk b 97 [.int .i64 r.1,.string r.2.1,.string r.2.2.1,.string r.2.2.2.1,.int .i64 r.2.2.2.2.1,.int .i64 r.2.2.2.2.2.1,.bool r.2.2.2.2.2.2]::Fo) (rs):=by
 unfold w8 at m
 refine ent Tryz.func213 z Tryz.ntmps213 z z λ a E=>sq<|bx E H z λ c w a H E=>pr 1 E z λ a E=>nx<|sv2 E z (mY E z z z) λ a E=>pn 1 E z λ a E=>wR<|o1 E z<|?_
 cases m
 exact ⟨_,z,H.reads Y0⟩

def zF(x1:aG)(c:ByteArray):Option Bool:=
  (sW x1.Path).bind λ b=>if b.2=true then (some (sEq b.1 c)) else (some (false))
theorem Cr{x1:aG}{j:Nat}{k:ByteArray}{c d e f g i:Value}(H:Sep w (Blk j 97 [c,d,.string k,e,f,g,i]::Fo) rs){r:Bool}(m:zF x1 k=some r) :
    Cf 283 [.agg (nA x1).toArray,pt j 0] w λ v w'=>.bool r=v/\Sep w' (Blk j 97 [c,d,.string k,e,f,g,i]::Fo) (rs):=by
 unfold zF at m
 refine ent Tryz.func283 z Tryz.ntmps283 z z λ a E=>sq<|bx E H z λ n w a H E=>pr 1 E z λ a E=>xp 1 E z λ a E=>lb2 E H 0 U9 z λ a E=>bd m λ o l m=>xk2 E z (cf_ 180) (M1 H l) λ w H a E=>pr 5 E z λ a E=>xp 2 E z λ a E=>cs m (λ b m=>?_) λ b m=>?_
 ·refine pk 2 E (kc 13 z b) z λ a E=>gl 13 E H 1 b U9 z λ a E=>pk 3 E (kc 13 z b) z λ a E=>nt<|wR<|o1 E z<|have H:=H.drop 0;?_
  cases m
  exact ⟨z,H.reads Y0⟩
 ·refine pk 6 E (kc 13 z b) z λ a E=>nt<|wR<|o1 E z<|have H:=H.drop 0;?_
  cases m
  exact ⟨z,H.reads Y0⟩

def wI(e:List aG)(i:Int)(j:ByteArray)(k:ByteArray)(l:Int)(f:List ByteArray)(c:bE):Option MT:=
  (iG e i j k l f c).bind λ b=>if (decide (b.1 < 0))=true then (some (e,b.2.1,b.2.2.1,b.2.2.2.1,b.2.2.2.2.1,b.2.2.2.2.2)) else ((idx e b.1).bind λ d=>if (d.Version == 281474976710656)=true then ((gT 2).bind λ g=>some (e,g,(ByteArray.mk #[]),(ByteArray.mk #[]),0,[])) else (some ((e.set b.1.toNat ({ d with Data:=c.Data }:aG)).set b.1.toNat ({ ({ d with Data:=c.Data }:aG) with Version:=IntKind.i64.wrap ((({ d with Data:=c.Data }:aG).Version)+1) }:aG),b.2.1,b.2.2.1,b.2.2.2.1,({ ({ d with Data:=c.Data }:aG) with Version:=IntKind.i64.wrap ((({ d with Data:=c.Data }:aG).Version)+1) }:aG).Version,b.2.2.2.2.2)))
theorem Ka{o:Nat}{g j l:Value}{s:List aG}{t u:Int}{x y:ByteArray}{n:List ByteArray}{e:bE}(H:Sep w (Blk o 185 [g,l,.int .i64 t,.string x,.string y,.int .i64 u,j]::Row 107 aB g s::Row 9 kS j n::Fo) rs){r:dZ×Int×ByteArray×ByteArray×Int×eY}(m:wI s t x y u n e=some r) :
    Cf 129 [pt o 0,.agg (cB e).toArray] w λ v w'=>∃ A,.tuple #[]=v/\Sep w' (Blk o 185 [g,l,.int .i64 r.2.1,.string r.2.2.1,.string r.2.2.2.1,.int .i64 r.2.2.2.2.1,A]::Row 107 aB g r.1::Row 9 kS A r.2.2.2.2.2::Fo) (rs):=by
 unfold wI at m
 refine ent Tryz.func129 z Tryz.ntmps129 z z λ a E=>sq<|bx E H z λ B w a H E=>xp 1 E z λ a E=>ln 0 (cB e) E H U97 z mC λ a E=>have H:=H.frs [0,3,3,3] z;bd m λ C p m=>xc2 E z (cf_ 202) (tY H p)<|?_
 rintro _ w ⟨D,rfl,H⟩ a E
 refine pn 1 E z λ a E=>wB<|sp 1 E z λ a E=>sv2 E z (KB E Ns Nt z z z) λ a E=>pn 1 E z λ a E=>wif E m z (λ m=>?_) λ m=>?_
 ·refine wK<|bR<|vX E z<|have H:=H.drop 3;?_
  cases m
  exact ⟨_,z,H.reads Y0⟩
 ·refine sp 1 E z λ a E=>bd m λ f b m=>?_
  obtain ⟨F,G,c⟩:=H.rowformNE (i:=1) z b
  rw [Gw 5 c b] at E
  refine pr 2 E z λ a E=>sv2 E z (tS (d:=aB) (i:=1) (k:=2) E H cM c z z z b z U2 z) λ a E=>pn 2 E z λ a E=>wif E m z (λ m=>?_) λ m=>?_
  ·refine wG<|pr 1 E z λ a E=>bd m λ I q m=>xk2 E z (cf_ 203) (rA H q) λ w H a E=>wN<|bR<|vX E z<|have H:=H.nilRow 9 kS;have H:=H.drs [3,3];have H:=H.frs [0,2,2] z;?_
   cases m
   exact ⟨_,z,H.reads Y0⟩
  ·refine sp 2 E z λ a E=>lb2 E H 3 U9 z λ a E=>pr 2 E z λ a E=>V9 (d:=aB) (i:=1) (k:=1) (z':=({ f with Data:=e.Data }:aG)) E H cM (wn z) z c z z z z z z b z z sz9 λ w H=>xp 3 E z λ a E=>sv2 E z (tS (d:=aB) (i:=1) (k:=2) E H cM c z z z (y0 b) z U2 z) λ a E=>pr 3 E z λ a E=>V9 (d:=aB) (i:=1) (k:=2) (z':=({ ({ f with Data:=e.Data }:aG) with Version:=IntKind.i64.wrap ((({ f with Data:=e.Data }:aG).Version)+1) }:aG)) E H cM (wn z) z c z z z z z z (y0 b) z z sz2 λ w H=>nt<|wG<|pr 4 E z λ a E=>sv2 E z (tS (d:=aB) (i:=1) (k:=2) E H cM c z z z (y0 (y0 b)) z U2 z) λ a E=>pr 3 E z λ a E=>ss 0 E H z sz2 z λ w H=>wN<|bR<|vX E z<|have H:=H.drop 3;?_
   cases m
   exact ⟨_,z,H.reads Y0⟩

def qP(b:Bool)(c:eY):Option (Bool×eY):=
  some (b,c)
def qQ(x1:aG)(b:List ByteArray)(c:Bool):Option (Bool×eY):=
  if c=true then ((zC x1.Path).bind λ d=>(ck (b.length+([d]:List ByteArray).length <= LIM)).bind λ e=>qP c (b ++ ([d]:List ByteArray))) else (qP c b)
def qA(x1:aG)(e:Int)(c:ByteArray)(b:List ByteArray):Option (Bool×eY):=
  if (x1.Owner == e)=true then ((zF x1 c).bind λ d=>qQ x1 b d) else (qQ x1 b false)
theorem R5{x1:aG}{P j c g f:Nat}{Q:Int}{k:ByteArray}{n o p q s t u y A B C D F G I J K L M:Value}{N:List ByteArray}(H:Sep w (Blk P 97 [o,p,q,s,t,.int .i64 Q,u]::Blk j 121 [.func (.func 283) #[] #[pt c 0]]::Blk c 97 [y,A,.string k,B,C,D,F]::Blk g 182 [pt f 0]::Blk f 185 [G,I,J,K,L,M,n]::Row 9 kS n N::Fo) rs){r:Bool×eY}(m:qA x1 Q k N=some r) :
    Cf 216 [.agg (nA x1).toArray,pt P 0,pt j 0,pt g 0] w λ v w'=>∃ Z,.bool r.1=v/\Sep w' (Blk P 97 [o,p,q,s,t,.int .i64 Q,u]::Blk j 121 [.func (.func 283) #[] #[pt c 0]]::Blk c 97 [y,A,.string k,B,C,D,F]::Blk g 182 [pt f 0]::Blk f 185 [G,I,J,K,L,M,Z]::Row 9 kS Z r.2::Fo) (rs):=by
 unfold qA at m
 refine ent Tryz.func216 z Tryz.ntmps216 z z λ a E=>sq<|bx E H z λ U w a H E=>pn 1 E z λ a E=>aN (λ a w=>∃ l,Jn 33 a w [(3,pt g 0),(4,pt U 0),(6,.bool l)] (Blk g 182 [pt f 0]::Blk U 107 (nA x1)::Blk P 97 [o,p,q,s,t,.int .i64 Q,u]::Blk j 121 [.func (.func 283) #[] #[pt c 0]]::Blk c 97 [y,A,.string k,B,C,D,F]::Blk f 185 [G,I,J,K,L,M,n]::Row 9 kS n N::Fo) rs (qQ x1 N l=some r)) ?_ ?_
 ·refine wG<|pr 1 E z λ a E=>lb2 E H 0 U2 z λ a E=>pr 1 E z λ a E=>lb2 E H 1 U2 z λ a E=>pr 2 E z λ a E=>cs m (λ b m=>?_) λ b m=>?_
  ·refine gl 12 E H 2 b QH z λ a E=>gv 12 E b z (L3 (i:=0) (us:=(nA x1)) E H z z z z zS z gM) λ a E=>have H:=H.frs [6,6,6,5,5,5,6] z;bd m λ b2 V m=>bK E (ws' (d:=12) E z z z z b) z z (bO E z z z ((cf_ 283) _)) (Cr H V)<|?_
   rintro _ w ⟨rfl,H⟩ a E
   exact pk 2 E (kc 12 z b) z λ a E=>nt<|have H:=H.frs [6,6,2,5,5,5,6] z;⟨_,_,E.to z,H,Y0,m⟩
  ·exact pk 5 E (kc 12 z b) z λ a E=>nt<|have H:=H.frs [6,6,5,5,5,5,6] z;⟨_,_,E.to z,H,Y0,m⟩
 ·clear E H m
  rintro a w ⟨l,b0,E,H,R,m⟩
  unfold qQ at m
  refine aN (λ a w=>∃ S T,Jn 33 a w [(6,.bool l)] (Blk P 97 [o,p,q,s,t,.int .i64 Q,u]::Blk j 121 [.func (.func 283) #[] #[pt c 0]]::Blk c 97 [y,A,.string k,B,C,D,F]::Blk g 182 [pt f 0]::Blk f 185 [G,I,J,K,L,M,S]::Row 9 kS S T::Fo) rs (qP l T=some r)) ?_ ?_
  ·refine sq<|pn 1 E z λ a E=>wif E m z (λ m=>?_) λ m=>?_
   ·refine dz [0,0,0,0,0,0,0,0,1,1,1,2,2,2,2] [0,1,5] H λ w W0 hI H=>fb2 E m0 Yo z λ a E=>fb2 E m0 Yo z λ a E=>fn 3 E z λ a E=>fb2 E mm2 U33 z λ a E=>fn 1 E z λ a E=>fb2 E mm1 U9 z λ a E=>bQ z<|bd m λ O W m=>xk2 E z (cf_ 207) (Ck H W) λ w H a E=>nt<|⟨sx H [0,1,5] z,bQ z<|xK (e:=9) (d:=kS) (cs:=[.string O]) (xs:=[O]) E H (wn z) z z z (E.evs z) (by kernel_rfl) z (λ ok hr=>(Rows.single (d:=kS) (cs:=[.string O]) (x:=O) z)) λ b3 w a H E=>nt<|⟨sx H [0,1,5] z,bQ z<|bk m λ X m=>eZ (i:=6) E H (wn z) z z z z z z (nW m0) U33 Yi z X z λ b4 w a H E=>nt<|⟨sx H [0,1,5] z,bH z<|pn 1 E z λ a E=>bH z<|pn 1 E z λ a E=>bH z<|pn 1 E z λ a E=>bH z<|?_⟩⟩⟩
    obtain ⟨q63,b5,rfl⟩:=H.rowform (i:=6) z
    refine ss 5 E H z LS z λ w H=>nt<|bG<|?_
    clear hI
    exact aA<|have H:=H.drop 1;have H:=H.frs [5,5,2,5,5,5] z;X3 ⟨E.to z,H,(Y1 R),m⟩
   ·exact wK<|aA<|have H:=H.drop 1;have H:=H.frs [5,5,2,5,5,5] z;X3 ⟨E.to z,H,R,m⟩
  ·clear E H m
   rintro a w ⟨S,T,b1,E,H,Y,m⟩
   unfold qP at m
   refine sq<|pn 2 E z λ a E=>wR<|o1 E z<|?_
   cases m
   exact ⟨_,z,H.reads Y⟩

def cQ(f:List aG)(g:Int)(d:ByteArray):Nat->Int->eY->Option (Int×eY)
  | 0,_,_=>none
  | j+1,b,e=>
    if (decide (b < (f.length:Int)))=true then ((idx f b).bind λ i=>(qA i g d e).bind λ c=>if c.1=true then (some (b,c.2)) else (cQ f g d j (IntKind.i64.wrap (b+1)) c.2)) else (some ((-1),e))
def iO(b:List aG)(e:Int)(c:ByteArray)(d:List ByteArray):Option (Int×eY):=
  cQ b e c (((b.length:Int) - 0:Int).toNat+1) 0 d
theorem D3{e T q s t u x y A B C D F G I J K L M:Value}{l:List aG}{N f b g c:Nat}{O:Int}{j:ByteArray}{U:List ByteArray}(H:Sep w (Row 107 aB e l::Blk N 97 [q,s,t,u,x,.int .i64 O,y]::Blk f 121 [.func (.func 283) #[] #[pt b 0]]::Blk b 97 [A,B,.string j,C,D,F,G]::Blk g 182 [pt c 0]::Blk c 185 [e,I,J,K,L,M,T]::Row 9 kS T U::Fo) rs){r:Int×eY}(m:iO l O j U=some r) :
    Cf 142 [e,.func (.func 216) #[] #[pt N 0,pt f 0,pt g 0]] w λ v w'=>∃ W,.int .i64 r.1=v/\Sep w' (Blk N 97 [q,s,t,u,x,.int .i64 O,y]::Blk f 121 [.func (.func 283) #[] #[pt b 0]]::Blk b 97 [A,B,.string j,C,D,F,G]::Blk g 182 [pt c 0]::Blk c 185 [e,I,J,K,L,M,W]::Row 107 aB e l::Row 9 kS W r.2::Fo) (rs):=by
 unfold iO at m
 refine ent Tryz.func142 z Tryz.ntmps142 z z λ a E=>sq<|pn 1 E z λ a E=>wS<|sp 1 E z λ a E=>sv2 E z (mZ (i:=0) E H z z z U22) λ a E=>pr 1 E z λ a E=>nt<|wB<|bL (λ p a w=>∃ P Q R,Jn 19 a w [(0,e),(1,.func (.func 216) #[] #[pt N 0,pt f 0,pt g 0]),(7,.int .i64 (l.length:Int)),(8,.int .i64 Q)] (Row 107 aB e l::Blk N 97 [q,s,t,u,x,.int .i64 O,y]::Blk f 121 [.func (.func 283) #[] #[pt b 0]]::Blk g 182 [pt c 0]::Blk b 97 [A,B,.string j,C,D,F,G]::Blk c 185 [e,I,J,K,L,M,P]::Row 9 kS P R::Fo) rs (cQ l O j p Q R=some r)) (((l.length:Int) - 0:Int).toNat+1) ?_ ?_
 ·exact have H:=H.frs [6,6,5,6,6,6,6] z;X4 ⟨E.to z,H,Y0,m⟩
 ·clear E H m
  rintro p a w ⟨P,Q,R,X,E,H,n,m⟩
  cases p with
  | zero=>exact (bF m z).elim
  | succ p=>
   unfold cQ at m
   refine sq<|pn 1 E z λ a E=>wS<|wif E m z (λ m=>?_) λ m=>?_
   ·refine wK<|aA<|wS<|wB<|sp 2 E z λ a E=>xp 3 E z λ a E=>bd m λ k o m=>?_
    obtain ⟨Y,Z,S⟩:=H.rowformNE (i:=0) z o
    refine sv2 E z (dE (d:=aB) E S z z z z U22 gM o) λ a E=>sv2 E z (jP (i:=0) E H cM S z z z o (us:=[.string k.Path,.string k.Data,.int .i64 k.Version,.int .i64 k.Turn,.int .i64 k.Owner]) z zS z gM) λ a E=>have H:=H.frs [0,6,6,5,6,6,6] z;bd m λ b0 V m=>bK E (wn z) z z (bO E z z z ((cf_ 216) _)) (R5 H V)<|?_
    rintro _ w ⟨b1,rfl,H⟩ a E
    refine nt<|wif E m z (λ m=>?_) λ m=>?_
    ·refine sq<|pn 2 E z λ a E=>wR<|bM<|aH<|aH<|bM<|aH<|o1 E z<|have H:=H.frs [5,6,6,6,6,6,6] z;?_
     cases m
     exact ⟨_,z,H.reads n⟩
    ·exact wK<|bR<|aA<|wG<|pn 2 E z λ a E=>have H:=H.frs [5,5,4,5,5,5,6] z;⟨p,nL p,X4 ⟨E.to z,H,n,m⟩⟩
   ·refine wX<|aW<|aW<|cT<|aA<|sq<|pn 1 E z λ a E=>wR<|o1 E z<|have H:=H.frs [6,1,6,5,6,6,6] z;?_
    cases m
    exact ⟨_,z,H.reads n⟩

def fV(rec_1:dZ->Int->Int->eY->Option Nw)(b:Int)(c:dZ)(d:Int)(e:eY):Option Nw:=
  rec_1 c d (IntKind.i64.wrap (b+1)) e
def dC(j:Int)(e:ByteArray):Nat->dZ->Int->Int->eY->Option Nw
  | 0,_,_,_,_=>none
  | k+1,c,b,d,g=>
    if (decide (d < (c.length:Int)))=true then ((idx c d).bind λ i=>(qA i j e g).bind λ f=>if (!f.1)=true then ((idx c b).bind λ l=>fV (dC j e k) d (c.set b.toNat i) (IntKind.i64.wrap (b+1)) f.2) else (fV (dC j e k) d c b f.2)) else ((ck (0 <= b/\b <= c.length)).bind λ m=>(ck (0 <= b/\b <= (c.take b.toNat ++ List.replicate (c.length - b.toNat) (⟨⟨#[]⟩,⟨#[]⟩,0,0,0⟩:aG)).length)).bind λ n=>some ((c.take b.toNat ++ List.replicate (c.length - b.toNat) (⟨⟨#[]⟩,⟨#[]⟩,0,0,0⟩:aG)).take b.toNat,g))
def jB(c:List aG)(e:Int)(d:ByteArray)(f:List ByteArray):Option Nw:=
  (iO c e d f).bind λ b=>if (b.1 == (-1))=true then (some (c,b.2)) else (dC e d (((c.length:Int) - (IntKind.i64.wrap (b.1+1)):Int).toNat+1) c b.1 (IntKind.i64.wrap (b.1+1)) b.2)
theorem E7{k b1 u x y A B C D F G I J K L M N O P:Value}{b3:List aG}{n f c g e:Nat}{o:Int}{j:ByteArray}{b2:List ByteArray}(H:Sep w (Row 107 aB k b3::Blk n 97 [u,x,y,A,B,.int .i64 o,C]::Blk f 121 [.func (.func 283) #[] #[pt c 0]]::Blk c 97 [D,F,.string j,G,I,J,K]::Blk g 182 [pt e 0]::Blk e 185 [k,L,M,N,O,P,b1]::Row 9 kS b1 b2::Fo) rs){r:dZ×eY}(m:jB b3 o j b2=some r) :
    Cf 215 [k,.func (.func 216) #[] #[pt n 0,pt f 0,pt g 0]] w λ v w'=>∃ b8 b9,b8=v/\Sep w' (Row 107 aB b8 r.1::Blk n 97 [u,x,y,A,B,.int .i64 o,C]::Blk f 121 [.func (.func 283) #[] #[pt c 0]]::Blk c 97 [D,F,.string j,G,I,J,K]::Blk g 182 [pt e 0]::Blk e 185 [k,L,M,N,O,P,b9]::Row 9 kS b9 r.2::Fo) (rs):=by
 unfold jB at m
 refine ent Tryz.func215 z Tryz.ntmps215 z z λ a E=>sp 1 E z λ a E=>xp 2 E z λ a E=>bd m λ c0 b4 m=>xc2 E z (cf_ 142) (D3 H b4)<|?_
 rintro _ w ⟨c3,rfl,H⟩ a E
 refine pn 1 E z λ a E=>wS<|sq<|pn 2 E z λ a E=>wif E m z (λ m=>?_) λ m=>?_
 ·refine sq<|pn 2 E z λ a E=>wR<|aH<|o1 E z<|have H:=H.frs [6,5,5,5,5,5,6] z;?_
  cases m
  exact ⟨_,_,z,H.reads Y0⟩
 ·refine wK<|aA<|wS<|sq<|pn 3 E z λ a E=>wB<|bL (λ p a w=>∃ Q R S l T,Jn 42 a w [(0,k),(1,.func (.func 216) #[] #[pt n 0,pt f 0,pt g 0]),(5,.int .i64 S),(6,.int .i64 l)] (Row 107 aB k R::Blk n 97 [u,x,y,A,B,.int .i64 o,C]::Blk f 121 [.func (.func 283) #[] #[pt c 0]]::Blk g 182 [pt e 0]::Blk c 97 [D,F,.string j,G,I,J,K]::Blk e 185 [k,L,M,N,O,P,Q]::Row 9 kS Q T::Fo) rs (dC o j p R S l T=some r)) (((b3.length:Int) - (IntKind.i64.wrap (c0.1+1)):Int).toNat+1) ?_ ?_
  ·exact have H:=H.frs [6,5,4,5,5,5,6] z;X6 ⟨E.to z,H,Y0,m⟩
  ·clear E H m
   rintro p a w ⟨Q,R,S,l,T,c1,E,H,q,m⟩
   cases p with
   | zero=>exact (bF m z).elim
   | succ p=>
    unfold dC at m
    refine wS<|sp 2 E z λ a E=>sv2 E z (mZ (i:=0) E H z z z U22) λ a E=>pn 1 E z λ a E=>wif E m z (λ m=>?_) λ m=>?_
    ·refine wK<|aA<|aN (λ a w=>∃ U V W X,Jn 42 a w [(0,k),(1,.func (.func 216) #[] #[pt n 0,pt f 0,pt g 0]),(5,.int .i64 W),(6,.int .i64 l)] (Row 107 aB k V::Blk n 97 [u,x,y,A,B,.int .i64 o,C]::Blk f 121 [.func (.func 283) #[] #[pt c 0]]::Blk g 182 [pt e 0]::Blk c 97 [D,F,.string j,G,I,J,K]::Blk e 185 [k,L,M,N,O,P,U]::Row 9 kS U X::Fo) rs (fV (dC o j p) l V W X=some r)) ?_ ?_
     ·refine wB<|sp 2 E z λ a E=>bd m λ b s m=>?_
      obtain ⟨c4,c5,Y⟩:=H.rowformNE (i:=0) z s
      refine sv2 E z (dE (d:=aB) E Y z z z z U22 gM s) λ a E=>sv2 E z (jP (i:=0) E H cM Y z z z s (us:=[.string b.Path,.string b.Data,.int .i64 b.Version,.int .i64 b.Turn,.int .i64 b.Owner]) z zS z gM) λ a E=>al2 E H z Yp λ c6 w a H E=>ss 0 E H z gM z λ w H=>xp 1 E z λ a E=>ln 0 (nA b) E H zS z gM λ a E=>have H:=H.frs [1,1,7,7,6,7,7,7] z;bd m λ c7 b5 m=>bK E (wn z) z z (bO E z z z ((cf_ 216) _)) (R5 H b5)<|?_
      rintro _ w ⟨c8,rfl,H⟩ a E
      refine pn 1 E z λ a E=>wif E m z (λ m=>?_) λ m=>?_
      ·refine sp 2 E z λ a E=>ln 6 (nA b) E H zS z gM λ a E=>bd m λ c9 t m=>?_
       obtain ⟨d0,d1,Z⟩:=H.rowformNE (i:=7) z t
       exact sv2 E z (dE (d:=aB) E Z z z z z U22 gM t) λ a E=>P4 (d:=aB) (i:=7) (us:=[.string b.Path,.string b.Data,.int .i64 b.Version,.int .i64 b.Turn,.int .i64 b.Owner]) (z':=b) E H cM (wn z) z Z z z z z z z z t gM λ w H=>nt<|wG<|pr 3 E z λ a E=>wN<|bR<|aA<|have H:=H.drop 6;have H:=H.frs [5,5,4,5,5,5,6] z;X5 ⟨E.to z,H,q,m⟩
      ·exact wK<|bR<|aA<|have H:=H.drop 6;have H:=H.frs [5,5,4,5,5,5,6] z;X5 ⟨E.to z,H,q,m⟩
     ·clear E H m
      rintro a w ⟨U,V,W,X,c2,E,H,b6,m⟩
      unfold fV at m
      exact wG<|pn 3 E z λ a E=>⟨p,nL p,X6 ⟨E.to z,H,b6,m⟩⟩
    ·refine wX<|aW<|aW<|cT<|aA<|sp 2 E z λ a E=>bk m λ b0 m=>sv2 E z (Ei (d:=aB) (i:=0) E H z z z z U22 gM b0) λ a E=>U6 (i:=0) (z0:=(⟨⟨#[]⟩,⟨#[]⟩,0,0,0⟩:aG)) E H cM (wn z) z z z U22 LT z z z b0 λ w H=>xp 2 E z λ a E=>bk m λ b7 m=>Bj (i:=0) E H cM (wn z) z z z z z z U22 gM b7 λ d2 a H E=>pn 1 E z λ a E=>wR<|o1 E z<|have H:=H.frs [6,6,5,6,6,6,6] z;?_
     cases m
     exact ⟨_,_,z,H.reads q⟩

def wJ(f:List aG)(d:List ByteArray)(b:bE):Option Nw:=
  (w8 b).bind λ e=>(jB f b.Owner e.2.2.1 d).bind λ c=>some (c.1,c.2)
theorem Kb{l:Nat}{p c d e f g j:Value}{q:List aG}{k:List ByteArray}{b:bE}(H:Sep w (Blk l 185 [p,d,e,f,g,j,c]::Row 107 aB p q::Row 9 kS c k::Fo) rs){r:dZ×eY}(m:wJ q k b=some r) :
    Cf 134 [pt l 0,.agg (cB b).toArray] w λ v w'=>∃ s t,.tuple #[]=v/\Sep w' (Blk l 185 [s,d,e,f,g,j,t]::Row 107 aB s r.1::Row 9 kS t r.2::Fo) (rs):=by
 unfold wJ at m
 refine ent Tryz.func134 z Tryz.ntmps134 z z λ a E=>sq<|bx E H z λ u w a H E=>bx E H z λ x w a H E=>nx<|ln 0 (cB b) E H U97 z mC λ a E=>bd m λ y n m=>xc2 E z (cf_ 213) (Hq H n)<|?_
 rintro _ w ⟨A,rfl,H⟩ a E
 refine al1 E H z z z z PH z λ B w a H E=>ss 0 E H z PI z λ w H=>nt<|dw [(6,0),(0,0),(1,1),(2,0),(3,0),(4,0),(5,1),(7,1),(8,2),(9,2),(10,2),(11,2)] [3] [] H (by kernel_rfl) (λ _ _ _ h=>False.elim h.2) λ w W0 hI H=>fv E z (λ w hW=>(mY E z z z)) λ a E=>fb2 E m0 Yo z λ a E=>bQ z<|lb2 E H 3 Yo z λ a E=>nt<|⟨sx H [3] z,fn 3 E z λ a E=>bQ z<|lb2 E H 4 U22 z λ a E=>nt<|⟨sx H [3] z,bQ z<|have H:=H.frs [6,5,5,4,4,5,6] z;bd m λ C o m=>xc2 E z (cf_ 215) (E7 H o)<|?_⟩⟩
 rintro _ w ⟨D,F,rfl,H⟩ a E
 refine nt<|⟨sx H [4] z,bH z<|pn 1 E z λ a E=>bH z<|pn 1 E z λ a E=>bH z<|pn 1 E z λ a E=>bH z<|?_⟩
 obtain ⟨q28,G,rfl⟩:=H.rowform (i:=0) z
 refine ss 5 E H z Pk z λ w H=>nt<|bG<|?_
 clear hI
 refine vX E z<|have H:=H.drs [1,1,1,1];have H:=H.frs [2,1,2] z;?_
 cases m
 exact ⟨_,_,z,H.reads Y0⟩

def sE(b:Int×Int×ByteArray×ByteArray×Int×eY)(c:Bool):Option Nx:=
  if c=true then ((gT 65).bind λ d=>some (d,(ByteArray.mk #[]),(ByteArray.mk #[]),0,[])) else (some (b.2.1,b.2.2.1,b.2.2.2.1,b.2.2.2.2.1,b.2.2.2.2.2))
def wL(c:List aG)(g:Int)(i:ByteArray)(j:ByteArray)(k:Int)(d:List ByteArray)(e:bE):Option Nx:=
  (iG c g i j k d e).bind λ b=>if (decide (0 <= b.1))=true then ((idx c b.1).bind λ f=>sE b (f.Owner != 0)) else (sE b false)
theorem Kc{g:Nat}{f s j:Value}{q:List aG}{A B:Int}{C D:ByteArray}{t:List ByteArray}{l:bE}(H:Sep w (Blk g 185 [f,j,.int .i64 A,.string C,.string D,.int .i64 B,s]::Row 107 aB f q::Row 9 kS s t::Fo) rs){r:Int×ByteArray×ByteArray×Int×eY}(m:wL q A C D B t l=some r) :
    Cf 125 [pt g 0,.agg (cB l).toArray] w λ v w'=>∃ F,.tuple #[]=v/\Sep w' (Blk g 185 [f,j,.int .i64 r.1,.string r.2.1,.string r.2.2.1,.int .i64 r.2.2.2.1,F]::Row 107 aB f q::Row 9 kS F r.2.2.2.2::Fo) (rs):=by
 unfold wL at m
 refine ent Tryz.func125 z Tryz.ntmps125 z z λ a E=>sq<|bx E H z λ I w a H E=>xp 1 E z λ a E=>ln 0 (cB l) E H U97 z mC λ a E=>have H:=H.frs [0,3,3,3] z;bd m λ c x m=>xc2 E z (cf_ 202) (tY H x)<|?_
 rintro _ w ⟨u,rfl,H⟩ a E
 refine pn 1 E z λ a E=>aN (λ a w=>∃ n,Jn 19 a w [(0,pt g 0),(16,.bool n)] (Blk g 185 [f,j,.int .i64 c.2.1,.string c.2.2.1,.string c.2.2.2.1,.int .i64 c.2.2.2.2.1,u]::Row 107 aB f q::Row 9 kS u c.2.2.2.2.2::Fo) rs (sE c n=some r)) ?_ ?_
 ·refine wG<|pr 1 E z λ a E=>sv2 E z (Mu E Ns Nt z z z) λ a E=>pr 1 E z λ a E=>cs m (λ b m=>?_) λ b m=>?_
  ·refine pk 1 E (kc 10 z b) z λ a E=>bd m λ J e m=>?_
   obtain ⟨K,L,o⟩:=H.rowformNE (i:=1) z e
   rw [Gw 5 o e] at E
   exact pk 2 E (kc 10 z b) z λ a E=>gv 10 E b z (tS (d:=aB) (i:=1) (k:=4) E H cM o z z z e z U2 z) λ a E=>pk 2 E (kc 10 z b) z λ a E=>nt<|have H:=H.drop 3;⟨_,_,E.to z,H,Y0,m⟩
  ·exact pk 6 E (kc 10 z b) z λ a E=>nt<|have H:=H.drop 3;⟨_,_,E.to z,H,Y0,m⟩
 ·clear E H m
  rintro a w ⟨n,G,E,H,p,m⟩
  unfold sE at m
  refine wif E m z (λ m=>?_) λ m=>?_
  ·refine wG<|pr 1 E z λ a E=>bd m λ M y m=>xk2 E z (cf_ 203) (rA H y) λ w H a E=>wN<|vX E z<|have H:=H.nilRow 9 kS;have H:=H.drop 3;have H:=H.frs [0,2,2] z;?_
   cases m
   exact ⟨_,z,H.reads p⟩
  ·refine wK<|vX E z<|?_
   cases m
   exact ⟨_,z,H.reads p⟩

def yO(e:List aG)(f:Int)(g:ByteArray)(i:ByteArray)(j:Int)(c:List ByteArray)(d:bE):Option Nx:=
  (iG e f g i j c d).bind λ b=>some (b.2.1,b.2.2.1,b.2.2.2.1,b.2.2.2.2.1,b.2.2.2.2.2)
theorem Oe{g:Nat}{c d e:Value}{i:List aG}{k l:Int}{n o:ByteArray}{f:List ByteArray}{b:bE}(H:Sep w (Blk g 185 [c,e,.int .i64 k,.string n,.string o,.int .i64 l,d]::Row 107 aB c i::Row 9 kS d f::Fo) rs){r:Int×ByteArray×ByteArray×Int×eY}(m:yO i k n o l f b=some r) :
    Cf 132 [pt g 0,.agg (cB b).toArray] w λ v w'=>∃ p,.tuple #[]=v/\Sep w' (Blk g 185 [c,e,.int .i64 r.1,.string r.2.1,.string r.2.2.1,.int .i64 r.2.2.2.1,p]::Row 107 aB c i::Row 9 kS p r.2.2.2.2::Fo) (rs):=by
 unfold yO at m
 refine ent Tryz.func132 z Tryz.ntmps132 z z λ a E=>sq<|bx E H z λ q w a H E=>nt<|wG<|pr 1 E z λ a E=>ln 0 (cB b) E H U97 z mC λ a E=>have H:=H.frs [0,3,3,3] z;bd m λ s j m=>xc2 E z (cf_ 202) (tY H j)<|?_
 rintro _ w ⟨t,rfl,H⟩ a E
 refine wN<|vX E z<|have H:=H.drop 3;?_
 cases m
 exact ⟨_,z,H.reads Y0⟩

def xM(c:List aG)(g:Int)(i:ByteArray)(j:ByteArray)(k:Int)(d:List ByteArray)(e:bE):Option Nx:=
  (iG c g i j k d e).bind λ b=>if (decide (0 <= b.1))=true then ((idx c b.1).bind λ f=>some (b.2.1,b.2.2.1,b.2.2.2.1,f.Version,b.2.2.2.2.2)) else (some (b.2.1,b.2.2.1,b.2.2.2.1,b.2.2.2.2.1,b.2.2.2.2.2))
theorem Lz{n:Nat}{f g j:Value}{o:List aG}{q s:Int}{t u:ByteArray}{l:List ByteArray}{c:bE}(H:Sep w (Blk n 185 [f,j,.int .i64 q,.string t,.string u,.int .i64 s,g]::Row 107 aB f o::Row 9 kS g l::Fo) rs){r:Int×ByteArray×ByteArray×Int×eY}(m:xM o q t u s l c=some r) :
    Cf 130 [pt n 0,.agg (cB c).toArray] w λ v w'=>∃ x,.tuple #[]=v/\Sep w' (Blk n 185 [f,j,.int .i64 r.1,.string r.2.1,.string r.2.2.1,.int .i64 r.2.2.2.1,x]::Row 107 aB f o::Row 9 kS x r.2.2.2.2::Fo) (rs):=by
 unfold xM at m
 refine ent Tryz.func130 z Tryz.ntmps130 z z λ a E=>sq<|bx E H z λ y w a H E=>xp 1 E z λ a E=>ln 0 (cB c) E H U97 z mC λ a E=>have H:=H.frs [0,3,3,3] z;bd m λ A p m=>xc2 E z (cf_ 202) (tY H p)<|?_
 rintro _ w ⟨B,rfl,H⟩ a E
 refine pr 1 E z λ a E=>xp 1 E z λ a E=>sv2 E z (Mu E Ns Nt z z z) λ a E=>nt<|wif E m z (λ m=>?_) λ m=>?_
 ·refine wG<|pr 2 E z λ a E=>bd m λ C b m=>?_
  obtain ⟨D,F,e⟩:=H.rowformNE (i:=1) z b
  rw [Gw 5 e b] at E
  refine pr 2 E z λ a E=>sv2 E z (tS (d:=aB) (i:=1) (k:=2) E H cM e z z z b z U2 z) λ a E=>pr 3 E z λ a E=>ss 0 E H z sz2 z λ w H=>wN<|vX E z<|have H:=H.drop 3;?_
  cases m
  exact ⟨_,z,H.reads Y0⟩
 ·refine wK<|vX E z<|have H:=H.drop 3;?_
  cases m
  exact ⟨_,z,H.reads Y0⟩

def sF(rec_1:Int->eY->Option eY)(b:Int)(c:eY):Option eY:=
  rec_1 (IntKind.i64.wrap (b+1)) c
def jT(e:List aG)(d:Int×ByteArray×ByteArray×ByteArray×Int×Int×Bool):Nat->Int->eY->Option eY
  | 0,_,_=>none
  | i+1,b,c=>
    if (decide (b < (e.length:Int)))=true then ((idx e b).bind λ f=>(zF f d.2.2.1).bind λ j=>if j=true then ((zC f.Path).bind λ g=>(ck (c.length+([g]:List ByteArray).length <= LIM)).bind λ k=>sF (jT e d i) b (c ++ ([g]:List ByteArray))) else (sF (jT e d i) b c)) else (some (c))
def wM(b:List aG)(c:List ByteArray)(d:bE):Option eY:=
  (w8 d).bind λ e=>jT b e (((b.length:Int) - 0:Int).toNat+1) 0 c
theorem Ke{k:Nat}{c J p q s t u:Value}{f:List aG}{K:List ByteArray}{B:bE}(H:Sep w (Blk k 185 [c,p,q,s,t,u,J]::Row 107 aB c f::Row 9 kS J K::Fo) rs){r:eY}(m:wM f K B=some r) :
    Cf 133 [pt k 0,.agg (cB B).toArray] w λ v w'=>∃ Q,.tuple #[]=v/\Sep w' (Blk k 185 [c,p,q,s,t,u,Q]::Row 107 aB c f::Row 9 kS Q r::Fo) (rs):=by
 unfold wM at m
 refine ent Tryz.func133 z Tryz.ntmps133 z z λ a E=>sq<|bx E H z λ T w a H E=>nx<|ln 0 (cB B) E H U97 z mC λ a E=>bd m λ b L m=>xc2 E z (cf_ 213) (Hq H L)<|?_
 rintro _ w ⟨y,rfl,H⟩ a E
 refine pr 1 E z λ a E=>xp 4 E z λ a E=>lb2 E H 2 U22 z λ a E=>sv2 E z (mZ (i:=3) E H z z z U22) λ a E=>pn 1 E z λ a E=>wB<|bL (λ l a w=>∃ C j D,Jn 37 a w [(0,pt k 0),(4,.func (.func 283) #[] #[pt y 0]),(13,c),(14,.int .i64 (f.length:Int)),(15,.int .i64 j)] (Blk k 185 [c,p,q,s,t,u,C]::Blk y 97 [.int .i64 b.1,.string b.2.1,.string b.2.2.1,.string b.2.2.2.1,.int .i64 b.2.2.2.2.1,.int .i64 b.2.2.2.2.2.1,.bool b.2.2.2.2.2.2]::Row 107 aB c f::Row 9 kS C D::Fo) rs (jT f b l j D=some r)) (((f.length:Int) - 0:Int).toNat+1) ?_ ?_
 ·exact have H:=H.drop 1;have H:=H.frs [3,3,2,3] z;X4 ⟨E.to z,H,Y0,m⟩
 ·clear E H m
  rintro l a w ⟨C,j,D,R,E,H,n,m⟩
  cases l with
  | zero=>exact (bF m z).elim
  | succ l=>
   unfold jT at m
   refine sq<|pn 1 E z λ a E=>wS<|wif E m z (λ m=>?_) λ m=>?_
   ·refine wK<|aA<|aN (λ a w=>∃ F G,Jn 37 a w [(0,pt k 0),(4,.func (.func 283) #[] #[pt y 0]),(13,c),(14,.int .i64 (f.length:Int)),(15,.int .i64 j)] (Blk k 185 [c,p,q,s,t,u,F]::Blk y 97 [.int .i64 b.1,.string b.2.1,.string b.2.2.1,.string b.2.2.2.1,.int .i64 b.2.2.2.2.1,.int .i64 b.2.2.2.2.2.1,.bool b.2.2.2.2.2.2]::Row 107 aB c f::Row 9 kS F G::Fo) rs (sF (jT f b l) j G=some r)) ?_ ?_
    ·refine wB<|sq<|bd m λ g o m=>?_
     obtain ⟨U,V,I⟩:=H.rowformNE (i:=2) z o
     refine sv2 E z (dE (d:=aB) E I z z z z U22 gM o) λ a E=>sv2 E z (jP (i:=2) E H cM I z z z o (us:=[.string g.Path,.string g.Data,.int .i64 g.Version,.int .i64 g.Turn,.int .i64 g.Owner]) z zS z gM) λ a E=>al2 E H z Yp λ W w a H E=>ss 0 E H z gM z λ w H=>xp 1 E z λ a E=>ln 0 (nA g) E H zS z gM λ a E=>have H:=H.frs [4,4,3,3,4] z;bd m λ X M m=>bK E (wn z) z z (bO E z z z ((cf_ 283) _)) (Cr H M)<|?_
     rintro _ w ⟨rfl,H⟩ a E
     refine nt<|wif E m z (λ m=>?_) λ m=>?_
     ·refine dz [0,0,0,0,0,0,0,0,1,1,1,2,2,2,2] [1,2] H λ w W0 hI H=>fn 5 E z λ a E=>fb2 E mm1 U33 z λ a E=>fn 1 E z λ a E=>fb2 E m0 U9 z λ a E=>bQ z<|bd m λ A N m=>xk2 E z (cf_ 207) (Ck H N) λ w H a E=>nt<|⟨sx H [1,2] z,bQ z<|xK (e:=9) (d:=kS) (cs:=[.string A]) (xs:=[A]) E H (wn z) z z z (E.evs z) (by kernel_rfl) z (λ ok hr=>(Rows.single (d:=kS) (cs:=[.string A]) (x:=A) z)) λ Y w a H E=>nt<|⟨sx H [1,2] z,bQ z<|bk m λ O m=>eZ (i:=4) E H (wn z) z z z z z z (nW m0) U33 Yi z O z λ Z w a H E=>nt<|⟨sx H [1,2] z,bH z<|pn 1 E z λ a E=>bH z<|pn 1 E z λ a E=>bH z<|pn 1 E z λ a E=>bH z<|?_⟩⟩⟩
      obtain ⟨q45,b0,rfl⟩:=H.rowform (i:=4) z
      refine ss 2 E H z LS z λ w H=>nt<|bG<|?_
      clear hI
      exact bR<|aA<|have H:=H.drop 1;have H:=H.frs [3,3,2,3] z;X3 ⟨E.to z,H,(Y1 n),m⟩
     ·exact wK<|bR<|aA<|have H:=H.drop 1;have H:=H.frs [3,3,2,3] z;X3 ⟨E.to z,H,n,m⟩
    ·clear E H m
     rintro a w ⟨F,G,S,E,H,P,m⟩
     unfold sF at m
     exact wG<|pn 2 E z λ a E=>⟨l,nL l,X4 ⟨E.to z,H,P,m⟩⟩
   ·refine wX<|aW<|aW<|cT<|vX E z<|have H:=H.drop 1;?_
    cases m
    exact ⟨_,z,H.reads n⟩

def xN(d:List aG)(g:Int)(i:ByteArray)(j:ByteArray)(k:Int)(e:List ByteArray)(f:bE):Option Nx:=
  (iG d g i j k e f).bind λ b=>if (decide (0 <= b.1))=true then ((idx d b.1).bind λ c=>some (b.2.1,b.2.2.1,c.Data,c.Version,b.2.2.2.2.2)) else (some (b.2.1,b.2.2.1,b.2.2.2.1,b.2.2.2.2.1,b.2.2.2.2.2))
theorem Ma{n:Nat}{f g j:Value}{o:List aG}{q s:Int}{t u:ByteArray}{l:List ByteArray}{e:bE}(H:Sep w (Blk n 185 [f,j,.int .i64 q,.string t,.string u,.int .i64 s,g]::Row 107 aB f o::Row 9 kS g l::Fo) rs){r:Int×ByteArray×ByteArray×Int×eY}(m:xN o q t u s l e=some r) :
    Cf 131 [pt n 0,.agg (cB e).toArray] w λ v w'=>∃ x,.tuple #[]=v/\Sep w' (Blk n 185 [f,j,.int .i64 r.1,.string r.2.1,.string r.2.2.1,.int .i64 r.2.2.2.1,x]::Row 107 aB f o::Row 9 kS x r.2.2.2.2::Fo) (rs):=by
 unfold xN at m
 refine ent Tryz.func131 z Tryz.ntmps131 z z λ a E=>sq<|bx E H z λ y w a H E=>xp 1 E z λ a E=>ln 0 (cB e) E H U97 z mC λ a E=>have H:=H.frs [0,3,3,3] z;bd m λ A p m=>xc2 E z (cf_ 202) (tY H p)<|?_
 rintro _ w ⟨B,rfl,H⟩ a E
 refine pr 1 E z λ a E=>xp 1 E z λ a E=>sv2 E z (Mu E Ns Nt z z z) λ a E=>nt<|wif E m z (λ m=>?_) λ m=>?_
 ·refine dz [0,0,0,0,0,0,0,0,0,0,0,0,0,1,2,2,2,2] [1] H λ w W0 hI H=>fn 3 E z λ a E=>bd m λ C b m=>?_
  obtain ⟨D,F,c⟩:=H.rowformNE (i:=1) z b
  rw [Gw 5 c b] at E
  refine fn 2 E z λ a E=>fv E z (λ w hW=>Lf (d:=aB) (k:=1) E cM c b m0 z z z U9 z hW) λ a E=>fn 3 E z λ a E=>fv E z (λ w hW=>Lf (d:=aB) (k:=2) E cM c b m0 z z z U2 z hW) λ a E=>fn 3 E z λ a E=>bQ z<|ss 0 E H z sz9 z λ w H=>nt<|⟨sx H [1] z,bH z<|pn 1 E z λ a E=>bH z<|pn 1 E z λ a E=>bH z<|pn 1 E z λ a E=>bH z<|ss 0 E H z sz2 z λ w H=>nt<|bG<|?_⟩
  clear hI
  refine vX E z<|have H:=H.drop 3;?_
  cases m
  exact ⟨_,z,H.reads Y0⟩
 ·refine wK<|vX E z<|have H:=H.drop 3;?_
  cases m
  exact ⟨_,z,H.reads Y0⟩

def uX(d:List aG)(g:Int)(i:ByteArray)(j:ByteArray)(k:Int)(f:List ByteArray)(e:bE):Option MT:=
  (iG d g i j k f e).bind λ b=>if (decide (0 <= b.1))=true then ((mV d e.Path).bind λ c=>(ck (0 <= c.1/\c.1 < d.length/\IntKind.i64.wrap (c.1+1)=c.1+1)).bind λ l=>some (d.eraseIdx c.1.toNat,b.2.1,b.2.2.1,b.2.2.2.1,b.2.2.2.2.1,b.2.2.2.2.2)) else (some (d,b.2.1,b.2.2.1,b.2.2.2.1,b.2.2.2.2.1,b.2.2.2.2.2))
theorem Hr{f:Nat}{l c d:Value}{n:List aG}{o p:Int}{q s:ByteArray}{e:List ByteArray}{b:bE}(H:Sep w (Blk f 185 [l,d,.int .i64 o,.string q,.string s,.int .i64 p,c]::Row 107 aB l n::Row 9 kS c e::Fo) rs){r:dZ×Int×ByteArray×ByteArray×Int×eY}(m:uX n o q s p e b=some r) :
    Cf 127 [pt f 0,.agg (cB b).toArray] w λ v w'=>∃ t u,.tuple #[]=v/\Sep w' (Blk f 185 [t,d,.int .i64 r.2.1,.string r.2.2.1,.string r.2.2.2.1,.int .i64 r.2.2.2.2.1,u]::Row 107 aB t r.1::Row 9 kS u r.2.2.2.2.2::Fo) (rs):=by
 unfold uX at m
 refine ent Tryz.func127 z Tryz.ntmps127 z z λ a E=>sq<|bx E H z λ x w a H E=>xp 1 E z λ a E=>ln 0 (cB b) E H U97 z mC λ a E=>have H:=H.frs [0,3,3,3] z;bd m λ y g m=>xc2 E z (cf_ 202) (tY H g)<|?_
 rintro _ w ⟨A,rfl,H⟩ a E
 refine sv2 E z (Mu E Ns Nt z z z) λ a E=>nt<|wif E m z (λ m=>?_) λ m=>?_
 ·refine sp 2 E z λ a E=>lb2 E H 3 U9 z λ a E=>bd m λ B j m=>xk2 E z (cf_ 209) (K9 H j) λ w H a E=>pn 5 E z λ a E=>wG<|pr 5 E z λ a E=>lb2 E H 0 U22 z λ a E=>pr 3 E z λ a E=>bk m λ k m=>xc2 E z (cf_ 212) (delete_c (ix:=1) H z k) λ C w H a E=>pr 3 E z λ a E=>?_
  obtain ⟨q23,D,rfl⟩:=H.rowform (i:=1) z
  refine ss 0 E H z Pk z λ w H=>wN<|vX E z<|have H:=H.drop 3;?_
  cases m
  exact ⟨_,_,z,H.reads Y0⟩
 ·refine wK<|vX E z<|have H:=H.drop 3;?_
  cases m
  exact ⟨_,_,z,H.reads Y0⟩

def dN(c:List aG)(d:ByteArray):Nat->Int->Option Int
  | 0,_=>none
  | f+1,b=>
    if (decide (b < (c.length:Int)))=true then ((idx c b).bind λ x20=>(zF x20 d).bind λ e=>if e=true then (some (b)) else (dN c d f (IntKind.i64.wrap (b+1)))) else (some ((-1)))
def iQ(b:List aG)(c:ByteArray):Option Int:=
  dN b c (((b.length:Int) - 0:Int).toNat+1) 0
theorem D4{g j k l n o p:Value}{b:List aG}{q:Nat}{s:ByteArray}(H:Sep w (Row 107 aB g b::Blk q 97 [j,k,.string s,l,n,o,p]::Fo) rs){r:Int}(m:iQ b s=some r) :
    Cf 142 [g,.func (.func 283) #[] #[pt q 0]] w λ v w'=>.int .i64 r=v/\Sep w' (Blk q 97 [j,k,.string s,l,n,o,p]::Row 107 aB g b::Fo) (rs):=by
 unfold iQ at m
 refine ent Tryz.func142 z Tryz.ntmps142 z z λ a E=>sq<|pn 1 E z λ a E=>wS<|sp 1 E z λ a E=>sv2 E z (mZ (i:=0) E H z z z U22) λ a E=>pr 1 E z λ a E=>nt<|wB<|bL (λ f a w=>∃ t,Jn 19 a w [(0,g),(1,.func (.func 283) #[] #[pt q 0]),(7,.int .i64 (b.length:Int)),(8,.int .i64 t)] (Row 107 aB g b::Blk q 97 [j,k,.string s,l,n,o,p]::Fo) rs (dN b s f t=some r)) (((b.length:Int) - 0:Int).toNat+1) ?_ ?_
 ·exact ⟨_,_,E.to z,H,Y0,m⟩
 ·clear E H m
  rintro f a w ⟨t,y,E,H,c,m⟩
  cases f with
  | zero=>exact (bF m z).elim
  | succ f=>
   unfold dN at m
   refine sq<|pn 1 E z λ a E=>wS<|wif E m z (λ m=>?_) λ m=>?_
   ·refine wK<|aA<|wS<|wB<|sp 2 E z λ a E=>xp 3 E z λ a E=>bd m λ x20 e m=>?_
    obtain ⟨A,B,u⟩:=H.rowformNE (i:=0) z e
    refine sv2 E z (dE (d:=aB) E u z z z z U22 gM e) λ a E=>sv2 E z (jP (i:=0) E H cM u z z z e (us:=[.string x20.Path,.string x20.Data,.int .i64 x20.Version,.int .i64 x20.Turn,.int .i64 x20.Owner]) z zS z gM) λ a E=>have H:=H.frs [0,1] z;bd m λ C x m=>bK E (wn z) z z (bO E z z z ((cf_ 283) _)) (Cr H x)<|?_
    rintro _ w ⟨rfl,H⟩ a E
    refine nt<|wif E m z (λ m=>?_) λ m=>?_
    ·refine sq<|pn 2 E z λ a E=>wR<|bM<|aH<|aH<|bM<|aH<|o1 E z<|?_
     cases m
     exact ⟨z,H.reads c⟩
    ·exact wK<|bR<|aA<|wG<|pn 2 E z λ a E=>have H:=H.frs [0,1] z;⟨f,nL f,_,_,E.to z,H,c,m⟩
   ·refine wX<|aW<|aW<|cT<|aA<|sq<|pn 1 E z λ a E=>wR<|o1 E z<|have H:=H.frs [0,1] z;?_
    cases m
    exact ⟨z,H.reads c⟩

def fN(c:List aG)(d:ByteArray):Option Bool:=
  (iQ c d).bind λ b=>some (decide (b ≥ 0))
theorem w4{i b c d e f g:Value}{j:List aG}{k:Nat}{l:ByteArray}(H:Sep w (Row 107 aB i j::Blk k 97 [b,c,.string l,d,e,f,g]::Fo) rs){r:Bool}(m:fN j l=some r) :
    Cf 78 [i,.func (.func 283) #[] #[pt k 0]] w λ v w'=>.bool r=v/\Sep w' (Blk k 97 [b,c,.string l,d,e,f,g]::Row 107 aB i j::Fo) (rs):=by
 unfold fN at m
 refine ent Tryz.func78 z Tryz.ntmps78 z z λ a E=>sp 1 E z λ a E=>xp 2 E z λ a E=>bd m λ o n m=>xk2 E z (cf_ 142) (D4 H n) λ w H a E=>pn 2 E z λ a E=>wR<|o1 E z<|?_
 cases m
 exact ⟨z,H.reads Y0⟩

def D5:Option Unit:=
  some ()
theorem Gi{b:Value}(H:Sep w (Fo) rs){r:Unit}(m:D5=some r) :
    Cf 214 [b] w λ v w'=>.int .i64 0=v/\Sep w' (Fo) (rs):=by
 unfold D5 at m
 refine ent Tryz.func214 z Tryz.ntmps214 z z λ a E=>sp 1 E z λ a E=>nx<|pn 1 E z λ a E=>wR<|o1 E z<|?_
 cases m
 exact ⟨z,H.reads Y0⟩

def tM(b:aM)(c:dR):Option Aa:=
  some (b.Next,c)
def qB(b:Int×Bool)(c:dR):Option Aa:=
  (idx c b.1).bind λ e=>D5.bind λ g=>(idx c b.1).bind λ d=>(idx (c.set b.1.toNat ({ d with Next:=0 }:aM)) b.1).bind λ f=>if (f.Next == 0)=true then ((ck (0 <= b.1/\b.1 < (c.set b.1.toNat ({ d with Next:=0 }:aM)).length/\IntKind.i64.wrap (b.1+1)=b.1+1)).bind λ i=>tM e ((c.set b.1.toNat ({ d with Next:=0 }:aM)).eraseIdx b.1.toNat)) else (tM e (c.set b.1.toNat ({ d with Next:=0 }:aM)))
def xO(c:List aM)(d:ByteArray):Option Aa:=
  (cI c d).bind λ b=>if (!b.2)=true then ((ck (0 <= b.1/\b.1 <= c.length/\c.length <= 1000000)).bind λ e=>qB b (c.take b.1.toNat ++ (⟨d,0⟩:aM)::c.drop b.1.toNat)) else (qB b c)
theorem Mb{s:Nat}{O j l n o p q:Value}{P:List aM}{b:ByteArray}(H:Sep w (Blk s 185 [j,O,l,n,o,p,q]::Row 89 aC O P::Fo) rs){r:Int×dR}(m:xO P b=some r) :
    Cf 204 [pt s 0,.string b,.func (.func 214) #[] #[]] w λ v w'=>∃ Q,.int .i64 r.1=v/\Sep w' (Blk s 185 [j,Q,l,n,o,p,q]::Row 89 aC Q r.2::Fo) (rs):=by
 unfold xO at m
 refine ent Tryz.func204 z Tryz.ntmps204 z z λ a E=>sp 1 E z λ a E=>xp 4 E z λ a E=>lb2 E H 0 U23 z λ a E=>pr 1 E z λ a E=>have H:=H.frs [0,1] z;bd m λ G J m=>xk2 E z (cf_ 274) (hB H J) λ w H a E=>pn 5 E z λ a E=>aN (λ a w=>∃ t u,Jn 80 a w [(0,pt s 0),(2,.func (.func 214) #[] #[]),(7,.int .i64 G.1)] (Blk s 185 [j,t,l,n,o,p,q]::Row 89 aC t u::Fo) rs (qB G u=some r)) ?_ ?_
 ·refine sq<|pn 2 E z λ a E=>wif E m z (λ m=>?_) λ m=>?_
  ·refine wG<|pr 5 E z λ a E=>lb2 E H 1 U23 z λ a E=>pr 2 E z λ a E=>sv2 E z (cJ E z (E.evs z) (v:=.agg #[.string b,.int .i64 0]) (by kernel_rfl)) λ a E=>jO (e:=89) (d:=aC) (cs:=[.string b,.int .i64 0]) (xs:=[(⟨b,0⟩:aM)]) E H (wn z) z z z (E.evs z) (by kernel_rfl) z z (λ ok hr=>(Rows.single (d:=aC) (cs:=[.string b,.int .i64 0]) (x:=(⟨b,0⟩:aM)) xZ)) λ U w a H E=>bk m λ K m=>xc2 E z (cf_ 276) (Tn.insert_a (ix:=1) (iu:=0) H z z (by decide) K) λ V w H a E=>pr 3 E z λ a E=>?_
   obtain ⟨q55,W,rfl⟩:=H.rowform (i:=1) z
   exact ss 2 E H z Em z λ w H=>nt<|have H:=H.drop 0;have H:=H.frs [0,1] z;X3 ⟨E.to z,H,Y0,m⟩
  ·exact wK<|aA<|have H:=H.frs [0,1] z;X3 ⟨E.to z,H,Y0,m⟩
 ·clear E H m
  rintro a w ⟨t,u,S,E,H,y,m⟩
  unfold qB at m
  refine sp 4 E z λ a E=>lb2 E H 0 U23 z λ a E=>pr 1 E z λ a E=>bd m λ I c m=>?_
  obtain ⟨X,Y,A⟩:=H.rowformNE (i:=1) z c
  refine sv2 E z (dE (d:=aC) E A z z z z U23 rW c) λ a E=>pr 1 E z λ a E=>sv2 E z (tS (d:=aC) (i:=1) (k:=1) E H dX A z z z c z U2 z) λ a E=>pn 1 E z λ a E=>aN (λ a w=>∃ B C,Jn 80 a w [(9,.int .i64 I.Next)] (Blk s 185 [j,B,l,n,o,p,q]::Row 89 aC B C::Fo) rs (tM I C=some r)) ?_ ?_
  ·refine wS<|dz [0,0,0,0,0,0,0,0,1,2,2,2] [0] H λ w W0 hI H=>fn 4 E z λ a E=>fb2 E m0 U23 z λ a E=>fn 3 E z λ a E=>bQ z<|bd m λ Z L m=>bK E (wn z) z z (bO E z z z ((cf_ 214) _)) (Gi H L)<|?_
   rintro _ w ⟨rfl,H⟩ a E
   refine nt<|⟨sx H [0] z,bH z<|bd m λ R f m=>?_⟩
   obtain ⟨b0,b1,D⟩:=H.rowformNE (i:=1) z f
   refine sv2 E z (dE (d:=aC) E D z z z z U23 rW f) λ a E=>nt<|bH z<|pn 1 E z λ a E=>bH z<|V9 (d:=aC) (i:=1) (k:=1) (z':=({ R with Next:=0 }:aM)) E H dX (wn z) z D z z z z z z f z z sz2 λ w H=>nt<|bG<|?_
   clear hI
   refine aA<|sp 4 E z λ a E=>lb2 E H 0 U23 z λ a E=>pr 1 E z λ a E=>bd m λ b2 g m=>?_
   obtain ⟨b3,b4,F⟩:=H.rowformNE (i:=1) z g
   refine sv2 E z (dE (d:=aC) E F z z z z U23 rW g) λ a E=>pr 1 E z λ a E=>sv2 E z (tS (d:=aC) (i:=1) (k:=1) E H dX F z z z g z U2 z) λ a E=>pn 1 E z λ a E=>wif E m z (λ m=>?_) λ m=>?_
   ·refine wG<|pr 5 E z λ a E=>lb2 E H 0 U23 z λ a E=>pr 3 E z λ a E=>bk m λ M m=>xc2 E z (cf_ 277) (Tn.delete_c (ix:=1) H z M) λ b5 w H a E=>pr 3 E z λ a E=>?_
    obtain ⟨q49,b6,rfl⟩:=H.rowform (i:=1) z
    exact ss 0 E H z Em z λ w H=>nt<|X3 ⟨E.to z,H,y,m⟩
   ·exact wK<|aA<|X3 ⟨E.to z,H,y,m⟩
  ·clear E H m
   rintro a w ⟨B,C,T,E,H,N,m⟩
   unfold tM at m
   refine sq<|pn 2 E z λ a E=>wR<|o1 E z<|?_
   cases m
   exact ⟨_,z,H.reads N⟩

def zN(j:List aG)(c:List aM)(k:Int)(l:ByteArray)(m:ByteArray)(n:Int)(d:List ByteArray)(b:bE):Option (dR×Int×ByteArray×ByteArray×Int×eY):=
  (w8 b).bind λ e=>(fN j e.2.2.1).bind λ f=>if f=true then ((gT 64).bind λ g=>some (c,g,(ByteArray.mk #[]),(ByteArray.mk #[]),0,[])) else ((xO c b.Path).bind λ i=>some (i.2,k,l,m,n,d))
theorem Kf{f:Nat}{c n d:Value}{g:List aG}{o:List aM}{p q:Int}{s t:ByteArray}{e:List ByteArray}{b:bE}(H:Sep w (Blk f 185 [c,n,.int .i64 p,.string s,.string t,.int .i64 q,d]::Row 107 aB c g::Row 89 aC n o::Row 9 kS d e::Fo) rs){r:dR×Int×ByteArray×ByteArray×Int×eY}(m:zN g o p s t q e b=some r) :
    Cf 128 [pt f 0,.agg (cB b).toArray] w λ v w'=>∃ u x,.tuple #[]=v/\Sep w' (Blk f 185 [c,u,.int .i64 r.2.1,.string r.2.2.1,.string r.2.2.2.1,.int .i64 r.2.2.2.2.1,x]::Row 107 aB c g::Row 89 aC u r.1::Row 9 kS x r.2.2.2.2.2::Fo) (rs):=by
 unfold zN at m
 refine ent Tryz.func128 z Tryz.ntmps128 z z λ a E=>sq<|bx E H z λ y w a H E=>nt<|wS<|wS<|dz [0,0,0,0,0,0,1,1] [0,1] H λ w W0 hI H=>fn 4 E z λ a E=>fb2 E mm1 U22 z λ a E=>fbn E (cB b) z (wn z) z z z z m0 z U97 z mC λ a E=>bQ z<|bd m λ A i m=>xc2 E z (cf_ 213) (Hq H i)<|?_
 rintro _ w ⟨B,rfl,H⟩ a E
 refine nt<|⟨sx H [1,2] z,bQ z<|have H:=H.frs [5,5,4,4,4,5] z;bd m λ C j m=>xk2 E z (cf_ 78) (w4 H j) λ w H a E=>nt<|⟨sx H [2,3] z,bG<|?_⟩⟩
 clear hI
 refine aA<|wif E m z (λ m=>?_) λ m=>?_
 ·refine sp 1 E z λ a E=>have H:=H.frs [5,5,4,4,4,5] z;bd m λ D k m=>xk2 E z (cf_ 203) (rA H k) λ w H a E=>nt<|wR<|aH<|Mm E z<|have H:=H.nilRow 9 kS;have H:=H.drs [2,3,4];have H:=H.frs [0,3,3,3] z;?_
  cases m
  exact ⟨_,_,z,H.reads Y0⟩
 ·refine wK<|aA<|wG<|pr 2 E z λ a E=>lb2 E H 2 U9 z λ a E=>have H:=H.frs [5,3,3,3,5,5] z;bd m λ F l m=>xc2 E z (cf_ 204) (Mb H l)<|?_
  rintro _ w ⟨G,rfl,H⟩ a E
  refine wN<|vX E z<|have H:=H.drs [2,3];have H:=H.frs [3,2,3,3] z;?_
  cases m
  exact ⟨_,_,z,H.reads Y0⟩

def zO(x1:Int):Option Int:=
  some (x1)
theorem Kg{x1:Int}(H:Sep w (Fo) rs){r:Int}(m:zO x1=some r) :
    Cf 205 [.int .i64 x1] w λ v w'=>.int .i64 r=v/\Sep w' (Fo) (rs):=by
 unfold zO at m
 refine ent Tryz.func205 z Tryz.ntmps205 z z λ a E=>sp 1 E z λ a E=>nx<|pn 2 E z λ a E=>wR<|o1 E z<|?_
 cases m
 exact ⟨z,H.reads Y0⟩

def rF(b:aM)(c:dR):Option Aa:=
  some (b.Next,c)
def nK(b:Int×Bool)(c:dR):Option Aa:=
  (idx c b.1).bind λ f=>(zO f.Next).bind λ d=>(idx c b.1).bind λ e=>(idx (c.set b.1.toNat ({ e with Next:=d }:aM)) b.1).bind λ g=>if (g.Next == 0)=true then ((ck (0 <= b.1/\b.1 < (c.set b.1.toNat ({ e with Next:=d }:aM)).length/\IntKind.i64.wrap (b.1+1)=b.1+1)).bind λ i=>rF f ((c.set b.1.toNat ({ e with Next:=d }:aM)).eraseIdx b.1.toNat)) else (rF f (c.set b.1.toNat ({ e with Next:=d }:aM)))
def uY(c:List aM)(d:ByteArray):Option Aa:=
  (cI c d).bind λ b=>if (!b.2)=true then ((ck (0 <= b.1/\b.1 <= c.length/\c.length <= 1000000)).bind λ e=>nK b (c.take b.1.toNat ++ (⟨d,0⟩:aM)::c.drop b.1.toNat)) else (nK b c)
theorem Hs{s:Nat}{O j l n o p q:Value}{P:List aM}{b:ByteArray}(H:Sep w (Blk s 185 [j,O,l,n,o,p,q]::Row 89 aC O P::Fo) rs){r:Int×dR}(m:uY P b=some r) :
    Cf 204 [pt s 0,.string b,.func (.func 205) #[] #[]] w λ v w'=>∃ Q,.int .i64 r.1=v/\Sep w' (Blk s 185 [j,Q,l,n,o,p,q]::Row 89 aC Q r.2::Fo) (rs):=by
 unfold uY at m
 refine ent Tryz.func204 z Tryz.ntmps204 z z λ a E=>sp 1 E z λ a E=>xp 4 E z λ a E=>lb2 E H 0 U23 z λ a E=>pr 1 E z λ a E=>have H:=H.frs [0,1] z;bd m λ G J m=>xk2 E z (cf_ 274) (hB H J) λ w H a E=>pn 5 E z λ a E=>aN (λ a w=>∃ t u,Jn 80 a w [(0,pt s 0),(2,.func (.func 205) #[] #[]),(7,.int .i64 G.1)] (Blk s 185 [j,t,l,n,o,p,q]::Row 89 aC t u::Fo) rs (nK G u=some r)) ?_ ?_
 ·refine sq<|pn 2 E z λ a E=>wif E m z (λ m=>?_) λ m=>?_
  ·refine wG<|pr 5 E z λ a E=>lb2 E H 1 U23 z λ a E=>pr 2 E z λ a E=>sv2 E z (cJ E z (E.evs z) (v:=.agg #[.string b,.int .i64 0]) (by kernel_rfl)) λ a E=>jO (e:=89) (d:=aC) (cs:=[.string b,.int .i64 0]) (xs:=[(⟨b,0⟩:aM)]) E H (wn z) z z z (E.evs z) (by kernel_rfl) z z (λ ok hr=>(Rows.single (d:=aC) (cs:=[.string b,.int .i64 0]) (x:=(⟨b,0⟩:aM)) xZ)) λ V w a H E=>bk m λ K m=>xc2 E z (cf_ 276) (Tn.insert_a (ix:=1) (iu:=0) H z z (by decide) K) λ W w H a E=>pr 3 E z λ a E=>?_
   obtain ⟨q55,X,rfl⟩:=H.rowform (i:=1) z
   exact ss 2 E H z Em z λ w H=>nt<|have H:=H.drop 0;have H:=H.frs [0,1] z;X3 ⟨E.to z,H,Y0,m⟩
  ·exact wK<|aA<|have H:=H.frs [0,1] z;X3 ⟨E.to z,H,Y0,m⟩
 ·clear E H m
  rintro a w ⟨t,u,T,E,H,y,m⟩
  unfold nK at m
  refine sp 4 E z λ a E=>lb2 E H 0 U23 z λ a E=>pr 1 E z λ a E=>bd m λ I c m=>?_
  obtain ⟨Y,Z,A⟩:=H.rowformNE (i:=1) z c
  refine sv2 E z (dE (d:=aC) E A z z z z U23 rW c) λ a E=>pr 1 E z λ a E=>sv2 E z (tS (d:=aC) (i:=1) (k:=1) E H dX A z z z c z U2 z) λ a E=>pn 1 E z λ a E=>aN (λ a w=>∃ B C,Jn 80 a w [(9,.int .i64 I.Next)] (Blk s 185 [j,B,l,n,o,p,q]::Row 89 aC B C::Fo) rs (rF I C=some r)) ?_ ?_
  ·refine wS<|dz [0,0,0,0,0,0,0,0,1,2,2,2] [0] H λ w W0 hI H=>fn 4 E z λ a E=>fb2 E m0 U23 z λ a E=>fn 3 E z λ a E=>bQ z<|bd m λ R L m=>bK E (wn z) z z (bO E z z z ((cf_ 205) _)) (Kg H L)<|?_
   rintro _ w ⟨rfl,H⟩ a E
   refine nt<|⟨sx H [0] z,bH z<|bd m λ S f m=>?_⟩
   obtain ⟨b0,b1,D⟩:=H.rowformNE (i:=1) z f
   refine sv2 E z (dE (d:=aC) E D z z z z U23 rW f) λ a E=>nt<|bH z<|pn 1 E z λ a E=>bH z<|V9 (d:=aC) (i:=1) (k:=1) (z':=({ S with Next:=R }:aM)) E H dX (wn z) z D z z z z z z f z z sz2 λ w H=>nt<|bG<|?_
   clear hI
   refine aA<|sp 4 E z λ a E=>lb2 E H 0 U23 z λ a E=>pr 1 E z λ a E=>bd m λ b2 g m=>?_
   obtain ⟨b3,b4,F⟩:=H.rowformNE (i:=1) z g
   refine sv2 E z (dE (d:=aC) E F z z z z U23 rW g) λ a E=>pr 1 E z λ a E=>sv2 E z (tS (d:=aC) (i:=1) (k:=1) E H dX F z z z g z U2 z) λ a E=>pn 1 E z λ a E=>wif E m z (λ m=>?_) λ m=>?_
   ·refine wG<|pr 5 E z λ a E=>lb2 E H 0 U23 z λ a E=>pr 3 E z λ a E=>bk m λ M m=>xc2 E z (cf_ 277) (Tn.delete_c (ix:=1) H z M) λ b5 w H a E=>pr 3 E z λ a E=>?_
    obtain ⟨q49,b6,rfl⟩:=H.rowform (i:=1) z
    exact ss 0 E H z Em z λ w H=>nt<|X3 ⟨E.to z,H,y,m⟩
   ·exact wK<|aA<|X3 ⟨E.to z,H,y,m⟩
  ·clear E H m
   rintro a w ⟨B,C,U,E,H,N,m⟩
   unfold rF at m
   refine sq<|pn 2 E z λ a E=>wR<|o1 E z<|?_
   cases m
   exact ⟨_,z,H.reads N⟩

def zP(x1:Int):Option Int:=
  some (IntKind.i64.wrap (x1+1))
theorem Kh{x1:Int}(H:Sep w (Fo) rs){r:Int}(m:zP x1=some r) :
    Cf 210 [.int .i64 x1] w λ v w'=>.int .i64 r=v/\Sep w' (Fo) (rs):=by
 unfold zP at m
 refine ent Tryz.func210 z Tryz.ntmps210 z z λ a E=>sp 1 E z λ a E=>nx<|pn 3 E z λ a E=>wR<|o1 E z<|?_
 cases m
 exact ⟨z,H.reads Y0⟩

def rG(b:aM)(c:dR):Option Aa:=
  some (b.Next,c)
def nM(b:Int×Bool)(c:dR):Option Aa:=
  (idx c b.1).bind λ f=>(zP f.Next).bind λ d=>(idx c b.1).bind λ e=>(idx (c.set b.1.toNat ({ e with Next:=d }:aM)) b.1).bind λ g=>if (g.Next == 0)=true then ((ck (0 <= b.1/\b.1 < (c.set b.1.toNat ({ e with Next:=d }:aM)).length/\IntKind.i64.wrap (b.1+1)=b.1+1)).bind λ i=>rG f ((c.set b.1.toNat ({ e with Next:=d }:aM)).eraseIdx b.1.toNat)) else (rG f (c.set b.1.toNat ({ e with Next:=d }:aM)))
def uZ(c:List aM)(d:ByteArray):Option Aa:=
  (cI c d).bind λ b=>if (!b.2)=true then ((ck (0 <= b.1/\b.1 <= c.length/\c.length <= 1000000)).bind λ e=>nM b (c.take b.1.toNat ++ (⟨d,0⟩:aM)::c.drop b.1.toNat)) else (nM b c)
theorem Ht{s:Nat}{O j l n o p q:Value}{P:List aM}{b:ByteArray}(H:Sep w (Blk s 185 [j,O,l,n,o,p,q]::Row 89 aC O P::Fo) rs){r:Int×dR}(m:uZ P b=some r) :
    Cf 204 [pt s 0,.string b,.func (.func 210) #[] #[]] w λ v w'=>∃ Q,.int .i64 r.1=v/\Sep w' (Blk s 185 [j,Q,l,n,o,p,q]::Row 89 aC Q r.2::Fo) (rs):=by
 unfold uZ at m
 refine ent Tryz.func204 z Tryz.ntmps204 z z λ a E=>sp 1 E z λ a E=>xp 4 E z λ a E=>lb2 E H 0 U23 z λ a E=>pr 1 E z λ a E=>have H:=H.frs [0,1] z;bd m λ G J m=>xk2 E z (cf_ 274) (hB H J) λ w H a E=>pn 5 E z λ a E=>aN (λ a w=>∃ t u,Jn 80 a w [(0,pt s 0),(2,.func (.func 210) #[] #[]),(7,.int .i64 G.1)] (Blk s 185 [j,t,l,n,o,p,q]::Row 89 aC t u::Fo) rs (nM G u=some r)) ?_ ?_
 ·refine sq<|pn 2 E z λ a E=>wif E m z (λ m=>?_) λ m=>?_
  ·refine wG<|pr 5 E z λ a E=>lb2 E H 1 U23 z λ a E=>pr 2 E z λ a E=>sv2 E z (cJ E z (E.evs z) (v:=.agg #[.string b,.int .i64 0]) (by kernel_rfl)) λ a E=>jO (e:=89) (d:=aC) (cs:=[.string b,.int .i64 0]) (xs:=[(⟨b,0⟩:aM)]) E H (wn z) z z z (E.evs z) (by kernel_rfl) z z (λ ok hr=>(Rows.single (d:=aC) (cs:=[.string b,.int .i64 0]) (x:=(⟨b,0⟩:aM)) xZ)) λ V w a H E=>bk m λ K m=>xc2 E z (cf_ 276) (Tn.insert_a (ix:=1) (iu:=0) H z z (by decide) K) λ W w H a E=>pr 3 E z λ a E=>?_
   obtain ⟨q55,X,rfl⟩:=H.rowform (i:=1) z
   exact ss 2 E H z Em z λ w H=>nt<|have H:=H.drop 0;have H:=H.frs [0,1] z;X3 ⟨E.to z,H,Y0,m⟩
  ·exact wK<|aA<|have H:=H.frs [0,1] z;X3 ⟨E.to z,H,Y0,m⟩
 ·clear E H m
  rintro a w ⟨t,u,T,E,H,y,m⟩
  unfold nM at m
  refine sp 4 E z λ a E=>lb2 E H 0 U23 z λ a E=>pr 1 E z λ a E=>bd m λ I c m=>?_
  obtain ⟨Y,Z,A⟩:=H.rowformNE (i:=1) z c
  refine sv2 E z (dE (d:=aC) E A z z z z U23 rW c) λ a E=>pr 1 E z λ a E=>sv2 E z (tS (d:=aC) (i:=1) (k:=1) E H dX A z z z c z U2 z) λ a E=>pn 1 E z λ a E=>aN (λ a w=>∃ B C,Jn 80 a w [(9,.int .i64 I.Next)] (Blk s 185 [j,B,l,n,o,p,q]::Row 89 aC B C::Fo) rs (rG I C=some r)) ?_ ?_
  ·refine wS<|dz [0,0,0,0,0,0,0,0,1,2,2,2] [0] H λ w W0 hI H=>fn 4 E z λ a E=>fb2 E m0 U23 z λ a E=>fn 3 E z λ a E=>bQ z<|bd m λ R L m=>bK E (wn z) z z (bO E z z z ((cf_ 210) _)) (Kh H L)<|?_
   rintro _ w ⟨rfl,H⟩ a E
   refine nt<|⟨sx H [0] z,bH z<|bd m λ S f m=>?_⟩
   obtain ⟨b0,b1,D⟩:=H.rowformNE (i:=1) z f
   refine sv2 E z (dE (d:=aC) E D z z z z U23 rW f) λ a E=>nt<|bH z<|pn 1 E z λ a E=>bH z<|V9 (d:=aC) (i:=1) (k:=1) (z':=({ S with Next:=R }:aM)) E H dX (wn z) z D z z z z z z f z z sz2 λ w H=>nt<|bG<|?_
   clear hI
   refine aA<|sp 4 E z λ a E=>lb2 E H 0 U23 z λ a E=>pr 1 E z λ a E=>bd m λ b2 g m=>?_
   obtain ⟨b3,b4,F⟩:=H.rowformNE (i:=1) z g
   refine sv2 E z (dE (d:=aC) E F z z z z U23 rW g) λ a E=>pr 1 E z λ a E=>sv2 E z (tS (d:=aC) (i:=1) (k:=1) E H dX F z z z g z U2 z) λ a E=>pn 1 E z λ a E=>wif E m z (λ m=>?_) λ m=>?_
   ·refine wG<|pr 5 E z λ a E=>lb2 E H 0 U23 z λ a E=>pr 3 E z λ a E=>bk m λ M m=>xc2 E z (cf_ 277) (Tn.delete_c (ix:=1) H z M) λ b5 w H a E=>pr 3 E z λ a E=>?_
    obtain ⟨q49,b6,rfl⟩:=H.rowform (i:=1) z
    exact ss 0 E H z Em z λ w H=>nt<|X3 ⟨E.to z,H,y,m⟩
   ·exact wK<|aA<|X3 ⟨E.to z,H,y,m⟩
  ·clear E H m
   rintro a w ⟨B,C,U,E,H,N,m⟩
   unfold rG at m
   refine sq<|pn 2 E z λ a E=>wR<|o1 E z<|?_
   cases m
   exact ⟨_,z,H.reads N⟩

def vA(b:Int×Bool)(c:List aG)(d:ByteArray)(e:bE)(i:Int)(j:ByteArray)(k:Int)(f:List ByteArray)(g:dR):Option DT:=
  (ck (0 <= b.1/\b.1 <= c.length/\c.length <= 1000000)).bind λ l=>some (c.take b.1.toNat ++ (⟨d,e.Data,0,0,e.Owner⟩:aG)::c.drop b.1.toNat,g,i,d,j,k,f)
def rH(f:List aG)(b:bE)(i:Int)(j:ByteArray)(k:Int)(g:List ByteArray)(l:ByteArray×Bool)(c:ByteArray)(d:dR):Option DT:=
  (mV f c).bind λ e=>if e.2=true then ((gT 61).bind λ m=>some (f,d,m,(ByteArray.mk #[]),(ByteArray.mk #[]),0,[])) else (if b.Turns=true then ((uZ d l.1).bind λ n=>vA e f c b i j k g n.2) else (vA e f c b i j k g d))
def yP(g:List aG)(i:List aM)(j:Int)(k:ByteArray)(l:Int)(e:List ByteArray)(b:bE):Option DT:=
  (sW b.Path).bind λ c=>if b.Turns=true then ((uY i c.1).bind λ d=>(zC b.Path).bind λ m=>(yN m d.1).bind λ f=>(C6 c.1 f.1).bind λ n=>if (!f.2)=true then ((gT 66).bind λ o=>some (g,d.2,o,(ByteArray.mk #[]),(ByteArray.mk #[]),0,[])) else (rH g b j k l e c n.1 d.2)) else (rH g b j k l e c b.Path i)
theorem Of{j:Nat}{n S f t:Value}{o:List aG}{T:List aM}{p q:Int}{s:ByteArray}{g:List ByteArray}{b:bE}(H:Sep w (Blk j 185 [n,S,.int .i64 p,t,.string s,.int .i64 q,f]::Row 107 aB n o::Row 89 aC S T::Row 9 kS f g::Fo) rs)(F:N2 Tryz.prog ∈ rs){r:dZ×dR×Int×ByteArray×ByteArray×Int×eY}(m:yP o T p s q g b=some r) :
    Cf 126 [pt j 0,.agg (cB b).toArray] w λ v w'=>∃ U V W,.tuple #[]=v/\Sep w' (Blk j 185 [U,V,.int .i64 r.2.2.1,.string r.2.2.2.1,.string r.2.2.2.2.1,.int .i64 r.2.2.2.2.2.1,W]::Row 107 aB U r.1::Row 89 aC V r.2.1::Row 9 kS W r.2.2.2.2.2.2::Fo) (rs):=by
 unfold yP at m
 refine ent Tryz.func126 z Tryz.ntmps126 z z λ a E=>sq<|bx E H z λ l w a H E=>xp 1 E z λ a E=>lb2 E H 0 U9 z λ a E=>pr 1 E z λ a E=>xp 1 E z λ a E=>lb2 E H 0 U9 z λ a E=>bd m λ C G m=>xk2 E z (cf_ 180) (M1 H G) λ w H a E=>pn 5 E z λ a E=>aN (λ a w=>∃ u c y,Jn 80 a w [(0,pt j 0),(3,pt l 0),(4,.string c),(5,.string C.1)] (Blk j 185 [n,u,.int .i64 p,t,.string s,.int .i64 q,f]::Blk l 97 (cB b)::Row 107 aB n o::Row 89 aC u y::Row 9 kS f g::Fo) rs (rH o b p s q g C c y=some r)) ?_ ?_
 ·refine sp 1 E z λ a E=>lb2 E H 0 U4 z λ a E=>nt<|wif E m z (λ m=>?_) λ m=>?_
  ·refine sp 2 E z λ a E=>have H:=H.frs [4,3,2,4,4] z;bd m λ Z I m=>xc2 E z (cf_ 204) (Hs H I)<|?_
   rintro _ w ⟨b0,rfl,H⟩ a E
   refine pr 1 E z λ a E=>xp 1 E z λ a E=>lb2 E H 2 U9 z λ a E=>bd m λ b1 J m=>xk2 E z (cf_ 207) (Ck H J) λ w H a E=>pr 1 E z λ a E=>bd m λ b2 K m=>xk2 E z (cf_ 206) (Oc H F K) λ w H a E=>pr 5 E z λ a E=>xp 2 E z λ a E=>bd m λ b3 L m=>xk2 E z (cf_ 208) (Kt H L) λ w H a E=>pr 4 E z λ a E=>nx<|pn 2 E z λ a E=>wif E m z (λ m=>?_) λ m=>?_
   ·refine sp 1 E z λ a E=>bd m λ b4 M m=>xk2 E z (cf_ 203) (rA H M) λ w H a E=>nt<|wR<|aH<|Mm E z<|have H:=H.nilRow 9 kS;have H:=H.drs [3,4];have H:=H.frs [0,2,3,3] z;?_
    cases m
    exact X3 ⟨z,H.reads Y0⟩
   ·exact wK<|aA<|have H:=H.frs [4,2,4,4,4] z;X4 ⟨E.to z,H,Y0,m⟩
  ·exact wK<|aA<|have H:=H.frs [4,4,4,3,4] z;X4 ⟨E.to z,H,Y0,m⟩
 ·clear E H m
  rintro a w ⟨u,c,y,X,E,H,k,m⟩
  unfold rH at m
  refine sp 2 E z λ a E=>have H:=H.frs [4,4,3,4,4] z;bd m λ D N m=>xk2 E z (cf_ 209) (K9 H N) λ w H a E=>pn 5 E z λ a E=>wS<|sq<|pn 1 E z λ a E=>wif E m z (λ m=>?_) λ m=>?_
  ·refine sp 1 E z λ a E=>bd m λ b5 O m=>xk2 E z (cf_ 203) (rA H O) λ w H a E=>nt<|wR<|aH<|Mm E z<|have H:=H.nilRow 9 kS;have H:=H.drs [3,4];have H:=H.frs [0,3,3,3] z;?_
   cases m
   exact X3 ⟨z,H.reads k⟩
  ·refine wK<|aA<|aN (λ a w=>∃ A B,Jn 80 a w [(0,pt j 0),(3,pt l 0),(4,.string c),(10,.int .i64 D.1)] (Blk j 185 [n,A,.int .i64 p,t,.string s,.int .i64 q,f]::Blk l 97 (cB b)::Row 107 aB n o::Row 89 aC A B::Row 9 kS f g::Fo) rs (vA D o c b p s q g B=some r)) ?_ ?_
   ·refine sp 1 E z λ a E=>lb2 E H 2 U4 z λ a E=>nt<|wif E m z (λ m=>?_) λ m=>?_
    ·refine wG<|pr 2 E z λ a E=>have H:=H.frs [4,3,3,4,4] z;bd m λ b6 P m=>xc2 E z (cf_ 204) (Ht H P)<|?_
     rintro _ w ⟨b7,rfl,H⟩ a E
     exact nt<|have H:=H.frs [4,2,3,4,4] z;X3 ⟨E.to z,H,k,m⟩
    ·exact wK<|aA<|have H:=H.frs [4,4,3,4,4] z;X3 ⟨E.to z,H,k,m⟩
   ·clear E H m
    rintro a w ⟨A,B,Y,E,H,Q,m⟩
    unfold vA at m
    refine wS<|dz [0,0,0,0,0,0,0,0,0,0,0,0,0,1,1,2,2,2,2] [0,1] H λ w W0 hI H=>fn 5 E z λ a E=>fb2 E m0 U22 z λ a E=>fn 3 E z λ a E=>fb2 E mm1 U9 z λ a E=>fn 1 E z λ a E=>fb2 E mm1 U2 z λ a E=>fv E z (λ w hW=>(cJ E z (E.evs z) (v:=.agg #[.string c,.string b.Data,.int .i64 0,.int .i64 0,.int .i64 b.Owner]) (by kernel_rfl))) λ a E=>bQ z<|jO (e:=107) (d:=aB) (cs:=[.string c,.string b.Data,.int .i64 0,.int .i64 0,.int .i64 b.Owner]) (xs:=[(⟨c,b.Data,0,0,b.Owner⟩:aG)]) E H (wn z) z z z (E.evs z) (by kernel_rfl) z z (λ ok hr=>(Rows.single (d:=aB) (cs:=[.string c,.string b.Data,.int .i64 0,.int .i64 0,.int .i64 b.Owner]) (x:=(⟨c,b.Data,0,0,b.Owner⟩:aG)) A4)) λ b8 w a H E=>nt<|⟨sx H [1,2] z,bQ z<|bk m λ R m=>xc2 E z (cf_ 211) (insert_a (ix:=3) (iu:=0) H z z (by decide) R) λ b9 w H a E=>nt<|⟨sx H [1,2] z,bH z<|pn 1 E z λ a E=>bH z<|pn 1 E z λ a E=>bH z<|pn 1 E z λ a E=>bH z<|?_⟩⟩
    obtain ⟨q35,c0,rfl⟩:=H.rowform (i:=3) z
    refine ss 1 E H z Pk z λ w H=>nt<|bG<|?_
    clear hI
    refine aA<|wG<|pr 5 E z λ a E=>ss 1 E H z sz9 z λ w H=>wN<|vX E z<|have H:=H.drs [0,1];?_
    cases m
    exact X3 ⟨z,H.reads Q⟩

end Go.Cb
