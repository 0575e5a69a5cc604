/- Functions of the program, walked: each comes to its plain function. -/
import Derived.Test.YteakhlfapjaodaaGreatDoorTsg
import Derived.Test.YteakhlfapjaodaaGreatDoorExsg
import Derived.Test.YteakhlfapjaodaaGreatDoorN4sg
set_option linter.unusedVariables false
set_option linter.unusedSimpArgs false
set_option maxRecDepth 20000
set_option maxHeartbeats 1000000
namespace Go.Cb
open Go.Proofs Go.RowKit Tryz
variable {w:WD} {Fo:List Ob} {rs:List Rp}

def gP(rec_1:Int->Option Bool)(b:Int)(c:Bool):Option Bool:=
  if c=true then (some (false)) else (rec_1 (IntKind.i64.wrap (b+1)))
def eY(b:BY):Nat->Int->Option Bool
  | 0,_=>none
  | e+1,c=>
    if (decide (c < (b.size:Int)))=true then ((idx b.data.toList c).bind λ d=>if ((d.toNat:Int) != 45)=true then (if (decide ((d.toNat:Int) < 97))=true then (if (decide ((d.toNat:Int) < 48))=true then (gP (eY b e) c true) else (gP (eY b e) c (decide ((d.toNat:Int) > 57)))) else (if (decide ((d.toNat:Int) > 122))=true then (if (decide ((d.toNat:Int) < 48))=true then (gP (eY b e) c true) else (gP (eY b e) c (decide ((d.toNat:Int) > 57)))) else (gP (eY b e) c false))) else (gP (eY b e) c false)) else (if (decide ((b.size:Int) ≥ 1))=true then (some (decide ((b.size:Int) <= 12))) else (some (false)))
def vM(b:BY):Option Bool:=
  eY b (((b.size:Int) - 0:Int).toNat+1) 0
theorem Hs{e:BY}(H:Sep w (Fo) rs){r:Bool}(m:vM e=some r) :
    Cf 219 [.string e] w λ v w'=>.bool r=v/\Sep w' (Fo) (rs):=by
 unfold vM at m
 refine ent func219 z ntmps219 z z λ a E=>sq<|pn 1 E z λ a E=>wS<|sq<|pn 1 E z λ a E=>wB<|bG (λ f a w=>∃ l,Jn 40 a w [(0,.string e),(3,.int .i64 l)] (Fo) rs (eY e f l=some r)) (((e.size:Int) - 0:Int).toNat+1) ?_ ?_
 ·exact ⟨_,_,E.to z,H,Y0,m⟩
 ·clear E H m
  rintro f a w ⟨l,q,E,H,b,m⟩
  cases f with
  | zero=>exact (bE m z).elim
  | succ f=>
   unfold eY at m
   refine wS<|sq<|pn 4 E z λ a E=>wif E m z (λ m=>?_) λ m=>?_
   ·refine wK<|aA<|wS<|wB<|sp 2 E z λ a E=>bd m λ t p m=>sv2 E z (Gw E z z z U9 p) λ a E=>pr 1 E z λ a E=>nt<|aJ (λ a w=>∃ o,Jn 40 a w [(0,.string e),(3,.int .i64 l),(31,.bool o)] (Fo) rs (gP (eY e f) l o=some r)) ?_ ?_
    ·refine wG<|pr 3 E z λ a E=>cs m (λ c m=>?_) λ c m=>?_
     ·refine pk 3 E (kc 16 z c) z λ a E=>cs m (λ g m=>?_) λ g m=>?_
      ·refine pk 8 E (kc' (kc 19 z g) 16 z c) z λ a E=>cs m (λ i m=>?_) λ i m=>?_
       ·exact pk 4 E (kc 27 z i) z λ a E=>nt<|⟨_,_,E.to z,H,b,m⟩
       ·exact pk 4 E (kc 27 z i) z λ a E=>nt<|⟨_,_,E.to z,H,b,m⟩
      ·refine pk 5 E (kc' (kc 19 z g) 16 z c) z λ a E=>cs m (λ d m=>?_) λ d m=>?_
       ·refine pk 3 E (kc 24 z d) z λ a E=>cs m (λ j m=>?_) λ j m=>?_
        ·exact pk 4 E (kc' (kc 27 z j) 24 z d) z λ a E=>nt<|⟨_,_,E.to z,H,b,m⟩
        ·exact pk 4 E (kc' (kc 27 z j) 24 z d) z λ a E=>nt<|⟨_,_,E.to z,H,b,m⟩
       ·exact pk 7 E (kc 24 z d) z λ a E=>nt<|⟨_,_,E.to z,H,b,m⟩
     ·exact pk 15 E (kc 16 z c) z λ a E=>nt<|⟨_,_,E.to z,H,b,m⟩
    ·clear E H m
     rintro a w ⟨o,s,E,H,n,m⟩
     unfold gP at m
     refine wif E m z (λ m=>?_) λ m=>?_
     ·refine sq<|pn 1 E z λ a E=>wR<|bD<|aG<|aG<|bD<|aG<|o1 E z<|?_
      cases m
      exact ⟨z,H.reads n⟩
     ·exact wK<|bP<|aA<|wG<|pn 3 E z λ a E=>⟨f,nL f,_,_,E.to z,H,n,m⟩
   ·refine wX<|aT<|aT<|cL<|aA<|sp 4 E z λ a E=>cs m (λ k m=>?_) λ k m=>?_
    ·refine pk 5 E (kc 35 z k) z λ a E=>nt<|wR<|o1 E z<|?_
     cases m
     exact ⟨z,H.reads b⟩
    ·refine pk 5 E (kc 35 z k) z λ a E=>nt<|wR<|o1 E z<|?_
     cases m
     exact ⟨z,H.reads b⟩

def rN(b:BY)(c:Int):Option Int:=
  some (ixB b c)
theorem N6{b:BY}{c:Int}(H:Sep w (Fo) rs){r:Int}(m:rN b c=some r) :
    Cf 289 [.string b,.int .u8 c] w λ v w'=>.int .i64 r=v/\Sep w' (Fo) (rs):=by
 unfold rN at m
 refine ent func289 z ntmps289 z z λ a E=>sp 1 E z λ a E=>xp 2 E z λ a E=>sv2 E z (Jd E z z (KP _ _ _)) λ a E=>pn 1 E z λ a E=>wR<|o1 E z<|?_
 cases m
 exact ⟨z,H.reads Y0⟩

def lI(b:BY)(c:Int):Option Int:=
  (rN b c).bind λ d=>some (d)
theorem D6{b:BY}{c:Int}(H:Sep w (Fo) rs){r:Int}(m:lI b c=some r) :
    Cf 227 [.string b,.int .u8 c] w λ v w'=>.int .i64 r=v/\Sep w' (Fo) (rs):=by
 unfold lI at m
 refine ent func227 z ntmps227 z z λ a E=>sp 1 E z λ a E=>xp 2 E z λ a E=>bd m λ e d m=>xk2 E z (cf_ 289) (N6 H d) λ w H a E=>pn 1 E z λ a E=>wR<|o1 E z<|?_
 cases m
 exact ⟨z,H.reads Y0⟩

def mB(b:Bool):Option Bool:=
  if b=true then (some (true)) else (some (false))
def mC(x1:Int)(b:Bool):Option Bool:=
  if b=true then (some (true)) else (if (decide (57343 < x1))=true then (mB (decide (x1 <= 1114111))) else (mB false))
def oR(x1:Int):Option Bool:=
  if (decide (0 <= x1))=true then (mC x1 (decide (x1 < 55296))) else (mC x1 false)
theorem Ba{x1:Int}(H:Sep w (Fo) rs){r:Bool}(m:oR x1=some r) :
    Cf 356 [.int .i32 x1] w λ v w'=>.bool r=v/\Sep w' (Fo) (rs):=by
 unfold oR at m
 refine ent func356 z ntmps356 z z λ a E=>sq<|pn 1 E z λ a E=>wS<|wB<|aJ (λ a w=>∃ f,Jn 17 a w [(0,.int .i32 x1),(3,.bool f)] (Fo) rs (mC x1 f=some r)) ?_ ?_
 ·refine wG<|pr 3 E z λ a E=>cs m (λ b m=>?_) λ b m=>?_
  ·exact pk 4 E (kc 6 z b) z λ a E=>nt<|⟨_,_,E.to z,H,Y0,m⟩
  ·exact pk 4 E (kc 6 z b) z λ a E=>nt<|⟨_,_,E.to z,H,Y0,m⟩
 ·clear E H m
  rintro a w ⟨f,i,E,H,c,m⟩
  unfold mC at m
  refine wif E m z (λ m=>?_) λ m=>?_
  ·refine sq<|pn 1 E z λ a E=>wR<|bD<|aG<|o1 E z<|?_
   cases m
   exact ⟨z,H.reads c⟩
  ·refine aJ (λ a w=>∃ g,Jn 17 a w [(10,.bool g)] (Fo) rs (mB g=some r)) ?_ ?_
   ·refine wG<|pr 3 E z λ a E=>cs m (λ d m=>?_) λ d m=>?_
    ·exact pk 4 E (kc 13 z d) z λ a E=>nt<|⟨_,_,E.to z,H,c,m⟩
    ·exact pk 4 E (kc 13 z d) z λ a E=>nt<|⟨_,_,E.to z,H,c,m⟩
   ·clear E H m
    rintro a w ⟨g,j,E,H,e,m⟩
    unfold mB at m
    refine wif E m z (λ m=>?_) λ m=>?_
    ·refine sq<|pn 1 E z λ a E=>wR<|bD<|aG<|o1 E z<|?_
     cases m
     exact ⟨z,H.reads e⟩
    ·refine wK<|bP<|aA<|sq<|pn 1 E z λ a E=>wR<|o1 E z<|?_
     cases m
     exact ⟨z,H.reads e⟩

def uZ(c:BY):Nat->(Nat)->Option Int
  | 0,_=>none
  | d+1,b=>
    if decide (b < c.size)=true then (if (((Utf8.decode c b).1:Int) == 65533)=true then (some ((b:Int))) else (uZ c d (b+(Utf8.decode c b).2))) else (some ((-1)))
def vA(b:Int)(c:BY):Nat->Option Int
  | 0=>none
  | j+1=>
    if (decide ((IntKind.i64.wrap (((Utf8.encode b).size:Int) - 1)) < (c.size:Int)))=true then ((idx c.data.toList (IntKind.i64.wrap (((Utf8.encode b).size:Int) - 1))).bind λ d=>(idx (Utf8.encode b).data.toList (IntKind.i64.wrap (((Utf8.encode b).size:Int) - 1))).bind λ e=>if ((d.toNat:Int) != (e.toNat:Int))=true then ((ck (0 <= (IntKind.i64.wrap ((IntKind.i64.wrap (((Utf8.encode b).size:Int) - 1))+1))/\(IntKind.i64.wrap ((IntKind.i64.wrap (((Utf8.encode b).size:Int) - 1))+1)) <= c.size)).bind λ i=>(idx (Utf8.encode b).data.toList (IntKind.i64.wrap (((Utf8.encode b).size:Int) - 1))).bind λ f=>(lI (c.extract (IntKind.i64.wrap ((IntKind.i64.wrap (((Utf8.encode b).size:Int) - 1))+1)).toNat c.size) (f.toNat:Int)).bind λ g=>if (decide (g < 0))=true then (some ((-1))) else none) else none) else (some ((-1)))
def rA(b:BY)(c:Int)(e:Bool):Option Int:=
  if e=true then ((lI b (IntKind.u8.wrap c)).bind λ f=>some (f)) else (if (c == 65533)=true then (uZ b (b.size+2) 0) else ((oR c).bind λ d=>if (!d)=true then (some ((-1))) else (vA c b (((b.size:Int) - (IntKind.i64.wrap (((Utf8.encode c).size:Int) - 1)):Int).toNat+1))))
def tW(c:BY)(b:Int):Option Int:=
  if (decide (0 <= b))=true then (rA c b (decide (b < 128))) else (rA c b false)
theorem Ge{b:BY}{c:Int}(H:Sep w (Fo) rs){r:Int}(m:tW b c=some r) :
    Cf 328 [.string b,.int .i32 c] w λ v w'=>.int .i64 r=v/\Sep w' (Fo) (rs):=by
 unfold tW at m
 refine ent func328 z ntmps328 z z λ a E=>sq<|pn 1 E z λ a E=>wB<|aJ (λ a w=>∃ n,Jn 187 a w [(0,.string b),(1,.int .i32 c),(160,.bool n)] (Fo) rs (rA b c n=some r)) ?_ ?_
 ·refine wG<|pr 3 E z λ a E=>cs m (λ d m=>?_) λ d m=>?_
  ·exact pk 4 E (kc 163 z d) z λ a E=>nt<|⟨_,_,E.to z,H,Y0,m⟩
  ·exact pk 4 E (kc 163 z d) z λ a E=>nt<|⟨_,_,E.to z,H,Y0,m⟩
 ·clear E H m
  rintro a w ⟨n,D,E,H,g,m⟩
  unfold rA at m
  refine wif E m z (λ m=>?_) λ m=>?_
  ·refine sp 3 E z λ a E=>bd m λ L y m=>xk2 E z (cf_ 227) (D6 H y) λ w H a E=>pn 1 E z λ a E=>wR<|bD<|o1 E z<|?_
   cases m
   exact ⟨z,H.reads g⟩
  ·refine sq<|pn 3 E z λ a E=>wif E m z (λ m=>?_) λ m=>?_
   ·refine wS<|sp 1 E z λ a E=>Qs E H (wn z) z z z z U9 λ A w a H E=>nt<|wB<|bG (λ j a w=>∃ o,Jn 187 a w [(175,pt A 0)] (Cd A (.stringIter b o)::Fo) rs (uZ b j o=some r)) (b.size+2) ?_ ?_
    ·exact ⟨_,_,E.to z,H,g,m⟩
    ·clear E H m
     rintro j a w ⟨o,B,E,H,e,m⟩
     cases j with
     | zero=>exact (bE m z).elim
     | succ j=>
      unfold uZ at m
      refine sq<|cs m (λ f m=>?_) λ f m=>?_
      ·refine Qt (i:=0) E H (wn z) z z z z z f λ w a H E=>pn 1 E z λ a E=>wS<|wp_cond_true (E.eval z)<|wK<|aA<|wB<|sq<|pr 4 E z λ a E=>nx<|pn 2 E z λ a E=>wif E m z (λ m=>?_) λ m=>?_
       ·refine sq<|pn 2 E z λ a E=>wR<|bD<|aG<|bD<|aG<|bD<|o1 E z<|have H:=H.drop 0;?_
        cases m
        exact ⟨z,H.reads e⟩
       ·exact wK<|bP<|aA<|⟨j,nL j,_,_,E.to z,H,e,m⟩
      ·refine Qu (i:=0) E H (wn z) z z z z z f λ a E=>pn 1 E z λ a E=>wS<|wp_cond_false (E.eval z)<|wX<|aT<|aT<|cL<|aA<|sq<|pn 1 E z λ a E=>wR<|bD<|o1 E z<|have H:=H.drop 0;?_
       cases m
       exact ⟨z,H.reads e⟩
   ·refine sp 1 E z λ a E=>bd m λ F p m=>xk2 E z (cf_ 356) (Ba H p) λ w H a E=>pn 2 E z λ a E=>wif E m z (λ m=>?_) λ m=>?_
    ·refine sq<|pn 1 E z λ a E=>wR<|bD<|o1 E z<|?_
     cases m
     exact ⟨z,H.reads g⟩
    ·refine wp_scope_straight<|sp 1 E z λ a E=>sv2 E z (De E z z (v:=.string (Utf8.encode c)) (by kernel_rfl)) λ a E=>pr 1 E z λ a E=>xp 4 E z λ a E=>xp 2 E z λ a E=>nx<|pn 1 E z λ a E=>wS<|wB<|bG (λ l a w=>Jn 187 a w [(0,.string b),(7,.string (Utf8.encode c)),(8,.int .i64 (IntKind.i64.wrap (((Utf8.encode c).size:Int) - 1))),(9,.int .i64 (IntKind.i64.wrap (((Utf8.encode c).size:Int) - 1))),(10,.int .i64 0)] (Fo) rs (vA c b l=some r)) (((b.size:Int) - (IntKind.i64.wrap (((Utf8.encode c).size:Int) - 1)):Int).toNat+1) ?_ ?_
     ·exact ⟨_,E.to z,H,g,m⟩
     ·clear E H m
      rintro l a w ⟨C,E,H,k,m⟩
      cases l with
      | zero=>exact (bE m z).elim
      | succ l=>
       unfold vA at m
       refine wS<|sq<|pn 4 E z λ a E=>wif E m z (λ m=>?_) λ m=>?_
       ·refine wK<|aA<|wB<|wp_scope_straight<|wS<|wS<|dz [0,0,0,0,0,0,0] [] H λ w W0 hI H=>fn 2 E z λ a E=>bd m λ G q m=>fv E z (λ w hW=>(Gw E z z z U9 q)) λ a E=>fn 2 E z λ a E=>bd m λ I s m=>fv E z (λ w hW=>(Gw E z z z U9 s)) λ a E=>fn 1 E z λ a E=>bB<|?_
        clear hI
        refine aA<|wif E m z (λ m=>?_) λ m=>?_
        ·refine wS<|dz [0,0,0,0,0,0,0,1,2] [] H λ w W0 hI H=>fn 3 E z λ a E=>bk m λ t m=>fv E z (λ w hW=>(Df E z z z U9 t)) λ a E=>fn 2 E z λ a E=>bd m λ J u m=>fv E z (λ w hW=>(Gw E z z z U9 u)) λ a E=>bQ z<|bd m λ K x m=>xk2 E z (cf_ 227) (D6 H x) λ w H a E=>nt<|⟨⟨_,_,H,(bH),(bO)⟩,bL z<|pn 1 E z λ a E=>bB<|?_⟩
         clear hI
         refine aA<|wS<|sq<|pn 2 E z λ a E=>wif E m z (λ m=>?_) λ m=>?_
         ·refine sq<|pn 1 E z λ a E=>wR<|aG<|aG<|DC<|bD<|aG<|bD<|aG<|DC<|bD<|o1 E z<|?_
          cases m
          exact ⟨z,H.reads k⟩
         ·exact (bE m z).elim
        ·exact (bE m z).elim
       ·refine wX<|aT<|aT<|cL<|aA<|wS<|sq<|pn 1 E z λ a E=>wR<|aG<|DC<|bD<|o1 E z<|?_
        cases m
        exact ⟨z,H.reads k⟩

def rB(b:BY)(c:Int):Option Bool:=
  (tW b c).bind λ d=>some (decide (d ≥ 0))
theorem Cn{b:BY}{c:Int}(H:Sep w (Fo) rs){r:Bool}(m:rB b c=some r) :
    Cf 292 [.string b,.int .i32 c] w λ v w'=>.bool r=v/\Sep w' (Fo) (rs):=by
 unfold rB at m
 refine ent func292 z ntmps292 z z λ a E=>sp 1 E z λ a E=>xp 2 E z λ a E=>bd m λ e d m=>xk2 E z (cf_ 328) (Ge H d) λ w H a E=>pn 2 E z λ a E=>wR<|o1 E z<|?_
 cases m
 exact ⟨z,H.reads Y0⟩

def B3(x1:Int):Option Bool:=
  (rB (ByteArray.mk #[97,98,99,100,101,102,103,104,105,106,107,108,109,110,111,112,113,114,115,116,117,118,119,120,121,122,48,49,50,51,52,53,54,55,56,57,45]) x1).bind λ b=>some (!b)
theorem Rw{x1:Int}(H:Sep w (Fo) rs){r:Bool}(m:B3 x1=some r) :
    Cf 291 [.int .i32 x1] w λ v w'=>.bool r=v/\Sep w' (Fo) (rs):=by
 unfold B3 at m
 refine ent func291 z ntmps291 z z λ a E=>sp 1 E z λ a E=>xp 1 E z λ a E=>bd m λ c b m=>xk2 E z (cf_ 292) (Cn H b) λ w H a E=>pn 2 E z λ a E=>wR<|o1 E z<|?_
 cases m
 exact ⟨z,H.reads Y0⟩

def nB(c:BY)(d:Bool):Nat->(Nat)->Option Int
  | 0,_=>none
  | e+1,b=>
    if decide (b < c.size)=true then ((B3 ((Utf8.decode c b).1:Int)).bind λ f=>if (f == d)=true then (some ((b:Int))) else (nB c d e (b+(Utf8.decode c b).2))) else (some ((-1)))
def yN(b:BY)(c:Bool):Option Int:=
  nB b c (b.size+2) 0
theorem Gf{c:BY}{d:Bool}(H:Sep w (Fo) rs){r:Int}(m:yN c d=some r) :
    Cf 355 [.string c,.func (.func 291) #[] #[],.bool d] w λ v w'=>.int .i64 r=v/\Sep w' (Fo) (rs):=by
 unfold yN at m
 refine ent func355 z ntmps355 z z λ a E=>sq<|pn 1 E z λ a E=>wS<|sp 1 E z λ a E=>Qs E H (wn z) z z z z U9 λ j w a H E=>nt<|wB<|bG (λ b a w=>∃ g,Jn 21 a w [(1,.func (.func 291) #[] #[]),(2,.bool d),(10,pt j 0)] (Cd j (.stringIter c g)::Fo) rs (nB c d b g=some r)) (c.size+2) ?_ ?_
 ·exact ⟨_,_,E.to z,H,Y0,m⟩
 ·clear E H m
  rintro b a w ⟨g,n,E,H,e,m⟩
  cases b with
  | zero=>exact (bE m z).elim
  | succ b=>
   unfold nB at m
   refine sq<|cs m (λ f m=>?_) λ f m=>?_
   ·refine Qt (i:=0) E H (wn z) z z z z z f λ w a H E=>pn 1 E z λ a E=>wS<|wp_cond_true (E.eval z)<|wK<|aA<|wB<|sq<|pr 4 E z λ a E=>xp 2 E z λ a E=>bd m λ l k m=>bK E (wn z) z z (bN E z z z ((cf_ 291) _)) (Rw H k)<|?_
    rintro _ w ⟨rfl,H⟩ a E
    refine pr 1 E z λ a E=>sv2 E z (P4 E z z z (v:=.bool (l == d)) (by kernel_rfl)) λ a E=>nt<|wif E m z (λ m=>?_) λ m=>?_
    ·refine sq<|pn 2 E z λ a E=>wR<|bD<|aG<|bD<|aG<|o1 E z<|have H:=H.drop 0;?_
     cases m
     exact ⟨z,H.reads e⟩
    ·exact wK<|bP<|aA<|⟨b,nL b,_,_,E.to z,H,e,m⟩
   ·refine Qu (i:=0) E H (wn z) z z z z z f λ a E=>pn 1 E z λ a E=>wS<|wp_cond_false (E.eval z)<|wX<|aT<|aT<|cL<|aA<|sq<|pn 1 E z λ a E=>wR<|o1 E z<|have H:=H.drop 0;?_
    cases m
    exact ⟨z,H.reads e⟩

def yO(b:BY):Option Int:=
  (yN b true).bind λ c=>some (c)
theorem Gg{b:BY}(H:Sep w (Fo) rs){r:Int}(m:yO b=some r) :
    Cf 327 [.string b,.func (.func 291) #[] #[]] w λ v w'=>.int .i64 r=v/\Sep w' (Fo) (rs):=by
 unfold yO at m
 refine ent func327 z ntmps327 z z λ a E=>sp 1 E z λ a E=>xp 2 E z λ a E=>bd m λ d c m=>xk2 E z (cf_ 355) (Gf H c) λ w H a E=>pn 1 E z λ a E=>wR<|o1 E z<|?_
 cases m
 exact ⟨z,H.reads Y0⟩

def vB(b:BY):Option Bool:=
  (yO b).bind λ c=>some (decide (c ≥ 0))
theorem Co{b:BY}(H:Sep w (Fo) rs){r:Bool}(m:vB b=some r) :
    Cf 290 [.string b,.func (.func 291) #[] #[]] w λ v w'=>.bool r=v/\Sep w' (Fo) (rs):=by
 unfold vB at m
 refine ent func290 z ntmps290 z z λ a E=>sp 1 E z λ a E=>xp 2 E z λ a E=>bd m λ d c m=>xk2 E z (cf_ 327) (Gg H c) λ w H a E=>pn 2 E z λ a E=>wR<|o1 E z<|?_
 cases m
 exact ⟨z,H.reads Y0⟩

def zO(b:BY):Option Bool:=
  (vB b).bind λ c=>if (!(sEq b (ByteArray.mk #[])))=true then (if (decide ((b.size:Int) <= 12))=true then (some (!c)) else (some (false))) else (some (false))
theorem Cp{d:BY}(H:Sep w (Fo) rs){r:Bool}(m:zO d=some r) :
    Cf 228 [.string d] w λ v w'=>.bool r=v/\Sep w' (Fo) (rs):=by
 unfold zO at m
 refine ent func228 z ntmps228 z z λ a E=>sp 1 E z λ a E=>xp 1 E z λ a E=>bd m λ f e m=>xk2 E z (cf_ 290) (Co H e) λ w H a E=>pr 1 E z λ a E=>nx<|pr 3 E z λ a E=>cs m (λ b m=>?_) λ b m=>?_
 ·refine pk 5 E (kc 8 z b) z λ a E=>cs m (λ c m=>?_) λ c m=>?_
  ·refine pk 4 E (kc 13 z c) z λ a E=>nt<|wR<|o1 E z<|?_
   cases m
   exact ⟨z,H.reads Y0⟩
  ·refine pk 4 E (kc 13 z c) z λ a E=>nt<|wR<|o1 E z<|?_
   cases m
   exact ⟨z,H.reads Y0⟩
 ·refine pk 9 E (kc 8 z b) z λ a E=>nt<|wR<|o1 E z<|?_
  cases m
  exact ⟨z,H.reads Y0⟩

def nC(rec_1:eH->Int->Int->Option F3)(d:Int)(b:eH)(c:Int):Option F3:=
  rec_1 b c (IntKind.i64.wrap (d+1))
def rC(rec_1:eH->Int->Int->Option F3)(b:Int)(c:Int)(d:BY)(e:eH)(f:Bool):Option F3:=
  if f=true then (some ([],false)) else ((ck (0 <= c/\c <= b/\b <= d.size)).bind λ g=>(ck (e.length+([d.extract c.toNat b.toNat]:List BY).length <= LIM)).bind λ i=>nC rec_1 b (e ++ ([d.extract c.toNat b.toNat]:List BY)) (IntKind.i64.wrap (b+1)))
def nD(rec_1:eH->Int->Int->Option F3)(b:Int)(c:Int)(d:BY)(e:eH):Option F3:=
  (ck (0 <= c/\c <= b/\b <= d.size)).bind λ g=>(vM (d.extract c.toNat b.toNat)).bind λ f=>if (!f)=true then (rC rec_1 b c d e true) else (rC rec_1 b c d e (decide ((e.length:Int) ≥ 6)))
def eA(b:BY):Nat->eH->Int->Int->Option F3
  | 0,_,_,_=>none
  | e+1,d,f,c=>
    if (decide (c <= (b.size:Int)))=true then (if (decide (c < (b.size:Int)))=true then ((idx b.data.toList c).bind λ g=>if ((g.toNat:Int) != 47)=true then (nC (eA b e) c d f) else (nD (eA b e) c f b d)) else (nD (eA b e) c f b d)) else (some (d,true))
def rD(b:BY)(c:Bool):Option F3:=
  if c=true then (some ([],false)) else (eA b (((b.size:Int) - 1:Int).toNat+2) [] 1 1)
def tX(b:BY):Option F3:=
  if (sEq b (ByteArray.mk #[47]))=true then (some ([],true)) else (if (sEq b (ByteArray.mk #[]))=true then (rD b true) else ((idx b.data.toList 0).bind λ c=>rD b ((c.toNat:Int) != 47)))
theorem Gh{b:BY}(H:Sep w (Fo) rs){r:eH×Bool}(m:tX b=some r) :
    Cf 139 [.string b] w λ v w'=>∃ M,.tuple #[M,.bool r.2]=v/\Sep w' (Row 9 kS M r.1::Fo) (rs):=by
 unfold tX at m
 refine ent func139 z ntmps139 z z λ a E=>sq<|pn 2 E z λ a E=>wS<|sq<|pn 2 E z λ a E=>wif E m z (λ m=>?_) λ m=>?_
 ·refine sq<|pn 2 E z λ a E=>wR<|aG<|iH E z z z<|have H:=H.nilRow 9 kS;?_
  cases m
  exact ⟨_,z,H.reads Y0⟩
 ·refine wK<|aA<|wS<|aJ (λ a w=>∃ C,Jn 53 a w [(0,.string b),(15,.bool C)] (Fo) rs (rD b C=some r)) ?_ ?_
  ·refine wG<|pr 3 E z λ a E=>cs m (λ f m=>?_) λ f m=>?_
   ·exact pk 4 E (kc 11 z f) z λ a E=>nt<|⟨_,_,E.to z,H,Y0,m⟩
   ·exact pk 1 E (kc 11 z f) z λ a E=>bd m λ Q D m=>gv 11 E f z (Gw E z z z U9 D) λ a E=>pk 2 E (kc 11 z f) z λ a E=>nt<|⟨_,_,E.to z,H,Y0,m⟩
  ·clear E H m
   rintro a w ⟨C,R,E,H,B,m⟩
   unfold rD at m
   refine wif E m z (λ m=>?_) λ m=>?_
   ·refine sq<|pn 2 E z λ a E=>wR<|aG<|iH E z z z<|have H:=H.nilRow 9 kS;?_
    cases m
    exact ⟨_,z,H.reads B⟩
   ·refine wK<|aA<|sp 1 E z λ a E=>nx<|pn 1 E z λ a E=>wS<|sq<|pn 1 E z λ a E=>wB<|bG (λ l a w=>∃ o p g c,Jn 53 a w [(0,.string b),(4,o),(5,.int .i64 g),(6,.int .i64 c)] (Row 9 kS o p::Fo) rs (eA b l p g c=some r)) (((b.size:Int) - 1:Int).toNat+2) ?_ ?_
    ·exact have H:=H.nilRow 9 kS;X5 ⟨E.to z,H,B,m⟩
    ·clear E H m
     rintro l a w ⟨o,p,g,c,S,E,H,n,m⟩
     cases l with
     | zero=>exact (bE m z).elim
     | succ l=>
      unfold eA at m
      refine wS<|sq<|pn 4 E z λ a E=>wif E m z (λ m=>?_) λ m=>?_
      ·refine wK<|aA<|aJ (λ a w=>∃ q s t,Jn 53 a w [(0,.string b),(4,q),(5,.int .i64 t),(6,.int .i64 c)] (Row 9 kS q s::Fo) rs (nC (eA b l) c s t=some r)) ?_ ?_
       ·refine wB<|aJ (λ a w=>Jn 53 a w [(0,.string b),(4,o),(5,.int .i64 g),(6,.int .i64 c)] (Row 9 kS o p::Fo) rs (nD (eA b l) c g b p=some r)) ?_ ?_
        ·refine sp 5 E z λ a E=>cs m (λ j m=>?_) λ j m=>?_
         ·refine pk 2 E (kc 26 z j) z λ a E=>bd m λ T F m=>gv 26 E j z (Gw E z z z U9 F) λ a E=>pk 2 E (kc 26 z j) z λ a E=>nt<|wif E m z (λ m=>?_) λ m=>?_
          ·exact wX<|aT<|cL<|aA<|X4 ⟨E.to z,H,n,m⟩
          ·exact wK<|aA<|⟨_,E.to z,H,n,m⟩
         ·exact pk 5 E (kc 26 z j) z λ a E=>nt<|wp_cond_false (E.eval z)<|wK<|aA<|⟨_,E.to z,H,n,m⟩
        ·clear E H m
         rintro a w ⟨N,E,H,u,m⟩
         unfold nD at m
         refine wS<|aJ (λ a w=>∃ y,Jn 53 a w [(0,.string b),(4,o),(5,.int .i64 g),(6,.int .i64 c),(42,.bool y)] (Row 9 kS o p::Fo) rs (rC (eA b l) c g b p y=some r)) ?_ ?_
         ·refine wG<|pr 3 E z λ a E=>bk m λ G m=>sv2 E z (FO E z z z z U9 G) λ a E=>bd m λ U I m=>xk2 E z (cf_ 219) (Hs H I) λ w H a E=>pr 2 E z λ a E=>cs m (λ k m=>?_) λ k m=>?_
          ·exact pk 4 E (kc 38 z k) z λ a E=>nt<|⟨_,_,E.to z,H,u,m⟩
          ·exact pk 1 E (kc 38 z k) z λ a E=>gv 38 E k z (mV (i:=0) E H z z z U33) λ a E=>pk 2 E (kc 38 z k) z λ a E=>nt<|⟨_,_,E.to z,H,u,m⟩
         ·clear E H m
          rintro a w ⟨y,O,E,H,A,m⟩
          unfold rC at m
          refine wif E m z (λ m=>?_) λ m=>?_
          ·refine sq<|pn 2 E z λ a E=>wR<|aG<|bD<|aG<|aG<|bD<|aG<|iH E z z z<|have H:=H.nilRow 9 kS;have H:=H.drop 1;?_
           cases m
           exact ⟨_,z,H.reads A⟩
          ·exact wK<|aA<|sp 4 E z λ a E=>bk m λ J m=>sv2 E z (FO E z z z z U9 J) λ a E=>xA (e:=9) (d:=kS) (cs:=[.string (b.extract g.toNat c.toNat)]) (xs:=[b.extract g.toNat c.toNat]) E H (wn z) z z z (E.evs z) (by kernel_rfl) z (λ ok hr=>(Rows.single (d:=kS) (cs:=[.string (b.extract g.toNat c.toNat)]) (x:=b.extract g.toNat c.toNat) z)) λ V w a H E=>bk m λ K m=>fE (i:=0) E H (wn z) z z z z z z (nU m0) U33 Ua z K z λ W w a H E=>pn 1 E z λ a E=>wG<|pr 3 E z λ a E=>wN<|bP<|aA<|X4 ⟨E.to z,H,(Y1 A),m⟩
       ·clear E H m
        rintro a w ⟨q,s,t,P,E,H,L,m⟩
        unfold nC at m
        exact wG<|pn 3 E z λ a E=>⟨l,nL l,X5 ⟨E.to z,H,L,m⟩⟩
      ·refine wX<|aT<|aT<|cL<|aA<|sq<|pn 3 E z λ a E=>wR<|iH E z z z<|?_
       cases m
       exact ⟨_,z,H.reads n⟩

def iZ(c:BY)(b:BY):Option Bool:=
  if (decide ((c.size:Int) ≥ (b.size:Int)))=true then ((ck (0 <= (b.size:Int)/\(b.size:Int) <= c.size)).bind λ d=>some (sEq (c.extract 0 (b.size:Int).toNat) b)) else (some (false))
theorem N7{c d:BY}(H:Sep w (Fo) rs){r:Bool}(m:iZ c d=some r) :
    Cf 284 [.string c,.string d] w λ v w'=>.bool r=v/\Sep w' (Fo) (rs):=by
 unfold iZ at m
 refine ent func284 z ntmps284 z z λ a E=>sp 1 E z λ a E=>xp 6 E z λ a E=>cs m (λ b m=>?_) λ b m=>?_
 ·refine pk 3 E (kc 10 z b) z λ a E=>bk m λ e m=>gv 10 E b z (Gx E z z z U9 e) λ a E=>pk 4 E (kc 10 z b) z λ a E=>nt<|wR<|o1 E z<|?_
  cases m
  exact ⟨z,H.reads Y0⟩
 ·refine pk 8 E (kc 10 z b) z λ a E=>nt<|wR<|o1 E z<|?_
  cases m
  exact ⟨z,H.reads Y0⟩

def jA(b:BY)(c:BY):Option Ep:=
  (iZ b c).bind λ d=>if (!d)=true then (some (b,false)) else ((ck (0 <= (c.size:Int)/\(c.size:Int) <= b.size)).bind λ e=>some (b.extract (c.size:Int).toNat b.size,true))
theorem N8{b c:BY}(H:Sep w (Fo) rs){r:BY×Bool}(m:jA b c=some r) :
    Cf 217 [.string b,.string c] w λ v w'=>.tuple #[.string r.1,.bool r.2]=v/\Sep w' (Fo) (rs):=by
 unfold jA at m
 refine ent func217 z ntmps217 z z λ a E=>sq<|pn 2 E z λ a E=>wS<|sp 2 E z λ a E=>bd m λ f d m=>xk2 E z (cf_ 284) (N7 H d) λ w H a E=>pn 1 E z λ a E=>wif E m z (λ m=>?_) λ m=>?_
 ·refine sq<|pn 3 E z λ a E=>wR<|aG<|iH E z z z<|?_
  cases m
  exact ⟨z,H.reads Y0⟩
 ·refine wK<|aA<|sp 3 E z λ a E=>bk m λ e m=>sv2 E z (Df E z z z U9 e) λ a E=>pn 2 E z λ a E=>wR<|iH E z z z<|?_
  cases m
  exact ⟨z,H.reads Y0⟩

def lJ(c:BY)(d:BY):Option Ep:=
  (jA c d).bind λ b=>some (b.1,b.2)
theorem R7{b c:BY}(H:Sep w (Fo) rs){r:BY×Bool}(m:lJ b c=some r) :
    Cf 135 [.string b,.string c] w λ v w'=>.tuple #[.string r.1,.bool r.2]=v/\Sep w' (Fo) (rs):=by
 unfold lJ at m
 refine ent func135 z ntmps135 z z λ a E=>sp 2 E z λ a E=>xp 2 E z λ a E=>bd m λ e d m=>xk2 E z (cf_ 217) (N8 H d) λ w H a E=>pn 4 E z λ a E=>wR<|iH E z z z<|?_
 cases m
 exact ⟨z,H.reads Y0⟩

def sP:Option F3:=
  some ([],false)
def wH(rec_1:BY->eH->Option F3)(c:BY×Bool)(d:eH)(b:Int):Option F3:=
  (ck (0 <= b/\b <= c.1.size)).bind λ f=>(zO (c.1.extract 0 b.toNat)).bind λ e=>if (!e)=true then (sP) else ((ck (0 <= b/\b <= c.1.size)).bind λ g=>(ck (d.length+([c.1.extract 0 b.toNat]:List BY).length <= LIM)).bind λ i=>(ck (0 <= b/\b <= c.1.size)).bind λ j=>rec_1 (c.1.extract b.toNat c.1.size) (d ++ ([c.1.extract 0 b.toNat]:List BY)))
def qK:Nat->BY->eH->Option F3
  | 0,_,_=>none
  | e+1,f,b=>
    if (!(sEq f (ByteArray.mk #[])))=true then ((lJ f (ByteArray.mk #[47])).bind λ c=>if (!c.2)=true then (sP) else (if ((b.length:Int) == 6)=true then (sP) else ((lI c.1 47).bind λ d=>if (decide (d < 0))=true then (wH (qK e) c b (c.1.size:Int)) else (wH (qK e) c b d)))) else (if (decide ((b.length:Int) > 0))=true then (some (b,true)) else (some ([],false)))
def r4(b:BY):Option F3:=
  if (sEq b (ByteArray.mk #[47]))=true then (some ([],true)) else (qK (b.size+2) b [])
theorem Ht{o:BY}(H:Sep w (Fo) rs){r:eH×Bool}(m:r4 o=some r) :
    Cf 144 [.string o] w λ v w'=>∃ C,.tuple #[C,.bool r.2]=v/\Sep w' (Row 9 kS C r.1::Fo) (rs):=by
 unfold r4 at m
 refine ent func144 z ntmps144 z z λ a E=>sq<|pn 2 E z λ a E=>wp_scope_jumps 0 (λ a w=>Jn 48 a w [] (Fo) rs (sP=some r)) (λ _ _=>0) z ?_ ?_
 ·refine sq<|pn 1 E z λ a E=>wS<|sq<|pn 2 E z λ a E=>wif E m z (λ m=>?_) λ m=>?_
  ·refine sq<|pn 2 E z λ a E=>wR<|aG<|Iz<|iH E z z z<|have H:=H.nilRow 9 kS;?_
   cases m
   exact ⟨_,z,H.reads Y0⟩
  ·refine wK<|aA<|wS<|wB<|bG (λ g a w=>∃ k p l,Jn 48 a w [(0,.string p),(4,k)] (Row 9 kS k l::Fo) rs (qK g p l=some r)) (o.size+2) ?_ ?_
   ·exact have H:=H.nilRow 9 kS;X4 ⟨E.to z,H,Y0,m⟩
   ·clear E H m
    rintro g a w ⟨k,p,l,G,E,H,f,m⟩
    cases g with
    | zero=>exact (bE m z).elim
    | succ g=>
     unfold qK at m
     refine wS<|sq<|pn 2 E z λ a E=>wif E m z (λ m=>?_) λ m=>?_
     ·refine wK<|aA<|wB<|sp 1 E z λ a E=>bd m λ j q m=>xk2 E z (cf_ 135) (R7 H q) λ w H a E=>pn 5 E z λ a E=>wS<|sp 3 E z λ a E=>cs m (λ b m=>?_) λ b m=>?_
      ·exact pk 4 E (kc 19 z b) z λ a E=>nt<|wp_cond_true (E.eval z)<|wp_goto<|I7<|Dd<|I7<|Dd<|I7<|Te<|have H:=H.drop 0;⟨_,E.nil,H,f,m⟩
      ·refine pk 1 E (kc 19 z b) z λ a E=>gv 19 E b z (mV (i:=0) E H z z z U33) λ a E=>pk 2 E (kc 19 z b) z λ a E=>nt<|wif E m z (λ m=>?_) λ m=>?_
       ·exact wp_goto<|I7<|Dd<|I7<|Dd<|I7<|Te<|have H:=H.drop 0;⟨_,E.nil,H,f,m⟩
       ·refine wK<|aA<|sp 1 E z λ a E=>bd m λ I s m=>xk2 E z (cf_ 227) (D6 H s) λ w H a E=>pn 1 E z λ a E=>aJ (λ a w=>∃ c,Jn 48 a w [(4,k),(5,.string j.1),(7,.int .i64 c)] (Row 9 kS k l::Fo) rs (wH (qK g) j l c=some r)) ?_ ?_
        ·refine sq<|pn 2 E z λ a E=>wif E m z (λ m=>?_) λ m=>?_
         ·exact wG<|pn 3 E z λ a E=>⟨_,_,E.to z,H,f,m⟩
         ·exact wK<|aA<|⟨_,_,E.to z,H,f,m⟩
        ·clear E H m
         rintro a w ⟨c,F,E,H,n,m⟩
         unfold wH at m
         refine wS<|sp 2 E z λ a E=>bk m λ t m=>sv2 E z (Gx E z z z U9 t) λ a E=>bd m λ J u m=>xk2 E z (cf_ 228) (Cp H u) λ w H a E=>pn 1 E z λ a E=>wif E m z (λ m=>?_) λ m=>?_
         ·exact wp_goto<|I7<|Dd<|I7<|Dd<|I7<|Te<|have H:=H.drop 0;⟨_,E.nil,H,n,m⟩
         ·exact wK<|aA<|sp 3 E z λ a E=>bk m λ y m=>sv2 E z (Gx E z z z U9 y) λ a E=>xA (e:=9) (d:=kS) (cs:=[.string (j.1.extract 0 c.toNat)]) (xs:=[j.1.extract 0 c.toNat]) E H (wn z) z z z (E.evs z) (by kernel_rfl) z (λ ok hr=>(Rows.single (d:=kS) (cs:=[.string (j.1.extract 0 c.toNat)]) (x:=j.1.extract 0 c.toNat) z)) λ K w a H E=>bk m λ A m=>fE (i:=0) E H (wn z) z z z z z z (nU m0) U33 Ua z A z λ L w a H E=>pn 1 E z λ a E=>wG<|pr 2 E z λ a E=>bk m λ B m=>sv2 E z (Df E z z z U9 B) λ a E=>pr 1 E z λ a E=>wN<|bP<|aA<|⟨g,nL g,X4 ⟨E.to z,H,(Y1 n),m⟩⟩
     ·refine wX<|aT<|aT<|cL<|aA<|wS<|sp 1 E z λ a E=>sv2 E z (mV (i:=0) E H z z z U33) λ a E=>pn 1 E z λ a E=>wif E m z (λ m=>?_) λ m=>?_
      ·refine sq<|pn 3 E z λ a E=>wR<|aG<|Iz<|iH E z z z<|?_
       cases m
       exact ⟨_,z,H.reads f⟩
      ·refine wK<|aA<|wS<|wp_label<|aA<|sq<|pn 2 E z λ a E=>wR<|Iz<|iH E z z z<|have H:=H.nilRow 9 kS;have H:=H.drop 1;?_
       cases m
       exact ⟨_,z,H.reads f⟩
 ·clear E H m
  rintro a w ⟨M,E,H,D,m⟩
  unfold sP at m
  refine wS<|wK<|aA<|sq<|pn 2 E z λ a E=>wR<|Iz<|iH E z z z<|have H:=H.nilRow 9 kS;?_
  cases m
  exact ⟨_,z,H.reads D⟩

def eM(c:BY):Nat->Int->Int->Option Int
  | 0,_,_=>none
  | d+1,x3,b=>
    if (decide (b ≥ 0))=true then ((idx c.data.toList b).bind λ e=>if ((e.toNat:Int) == x3)=true then (some (b)) else (eM c d x3 (IntKind.i64.wrap (b - 1)))) else (some ((-1)))
def jH(b:BY)(c:Int):Option Int:=
  eM b (((IntKind.i64.wrap ((b.size:Int) - 1)) - 0:Int).toNat+2) c (IntKind.i64.wrap ((b.size:Int) - 1))
theorem D7{c:BY}{f:Int}(H:Sep w (Fo) rs){r:Int}(m:jH c f=some r) :
    Cf 346 [.string c,.int .u8 f] w λ v w'=>.int .i64 r=v/\Sep w' (Fo) (rs):=by
 unfold jH at m
 refine ent func346 z ntmps346 z z λ a E=>sq<|pn 1 E z λ a E=>wS<|sq<|pn 4 E z λ a E=>wB<|bG (λ b a w=>∃ x3 e,Jn 19 a w [(0,.string c),(1,.int .u8 x3),(5,.int .i64 e)] (Fo) rs (eM c b x3 e=some r)) (((IntKind.i64.wrap ((c.size:Int) - 1)) - 0:Int).toNat+2) ?_ ?_
 ·exact X3 ⟨E.to z,H,Y0,m⟩
 ·clear E H m
  rintro b a w ⟨x3,e,i,E,H,d,m⟩
  cases b with
  | zero=>exact (bE m z).elim
  | succ b=>
   unfold eM at m
   refine wS<|sq<|pn 2 E z λ a E=>wif E m z (λ m=>?_) λ m=>?_
   ·refine wK<|aA<|wS<|wB<|sp 2 E z λ a E=>bd m λ j g m=>sv2 E z (Gw E z z z U9 g) λ a E=>pr 2 E z λ a E=>nt<|wif E m z (λ m=>?_) λ m=>?_
    ·refine sq<|pn 2 E z λ a E=>wR<|bD<|aG<|aG<|bD<|aG<|o1 E z<|?_
     cases m
     exact ⟨z,H.reads d⟩
    ·exact wK<|bP<|aA<|wG<|pn 3 E z λ a E=>⟨b,nL b,X3 ⟨E.to z,H,d,m⟩⟩
   ·refine wX<|aT<|aT<|cL<|aA<|sq<|pn 1 E z λ a E=>wR<|o1 E z<|?_
    cases m
    exact ⟨z,H.reads d⟩

def mQ(b:BY)(c:BY):Option Bool:=
  if (decide ((b.size:Int) ≥ (c.size:Int)))=true then ((ck (0 <= (IntKind.i64.wrap ((b.size:Int) - (c.size:Int)))/\(IntKind.i64.wrap ((b.size:Int) - (c.size:Int))) <= b.size)).bind λ d=>some (sEq (b.extract (IntKind.i64.wrap ((b.size:Int) - (c.size:Int))).toNat b.size) c)) else (some (false))
theorem N9{c d:BY}(H:Sep w (Fo) rs){r:Bool}(m:mQ c d=some r) :
    Cf 285 [.string c,.string d] w λ v w'=>.bool r=v/\Sep w' (Fo) (rs):=by
 unfold mQ at m
 refine ent func285 z ntmps285 z z λ a E=>sp 1 E z λ a E=>xp 6 E z λ a E=>cs m (λ b m=>?_) λ b m=>?_
 ·refine pk 6 E (kc 10 z b) z λ a E=>bk m λ e m=>gv 10 E b z (Df E z z z U9 e) λ a E=>pk 4 E (kc 10 z b) z λ a E=>nt<|wR<|o1 E z<|?_
  cases m
  exact ⟨z,H.reads Y0⟩
 ·refine pk 11 E (kc 10 z b) z λ a E=>nt<|wR<|o1 E z<|?_
  cases m
  exact ⟨z,H.reads Y0⟩

def lY(b:BY)(c:BY):Option BY:=
  (mQ b c).bind λ d=>if d=true then ((ck (0 <= (IntKind.i64.wrap ((b.size:Int) - (c.size:Int)))/\(IntKind.i64.wrap ((b.size:Int) - (c.size:Int))) <= b.size)).bind λ e=>some (b.extract 0 (IntKind.i64.wrap ((b.size:Int) - (c.size:Int))).toNat)) else (some (b))
theorem L8{b c:BY}(H:Sep w (Fo) rs){r:BY}(m:lY b c=some r) :
    Cf 218 [.string b,.string c] w λ v w'=>.string r=v/\Sep w' (Fo) (rs):=by
 unfold lY at m
 refine ent func218 z ntmps218 z z λ a E=>sq<|pn 1 E z λ a E=>wS<|sp 2 E z λ a E=>bd m λ f d m=>xk2 E z (cf_ 285) (N9 H d) λ w H a E=>nt<|wif E m z (λ m=>?_) λ m=>?_
 ·refine sp 6 E z λ a E=>bk m λ e m=>sv2 E z (Gx E z z z U9 e) λ a E=>pn 1 E z λ a E=>wR<|aG<|o1 E z<|?_
  cases m
  exact ⟨z,H.reads Y0⟩
 ·refine wK<|aA<|sq<|pn 2 E z λ a E=>wR<|o1 E z<|?_
  cases m
  exact ⟨z,H.reads Y0⟩

def iI(b:BY)(c:BY):Option BY:=
  (lY b c).bind λ d=>some (d)
theorem Q7{b c:BY}(H:Sep w (Fo) rs){r:BY}(m:iI b c=some r) :
    Cf 136 [.string b,.string c] w λ v w'=>.string r=v/\Sep w' (Fo) (rs):=by
 unfold iI at m
 refine ent func136 z ntmps136 z z λ a E=>sp 1 E z λ a E=>xp 2 E z λ a E=>bd m λ e d m=>xk2 E z (cf_ 218) (L8 H d) λ w H a E=>pn 1 E z λ a E=>wR<|o1 E z<|?_
 cases m
 exact ⟨z,H.reads Y0⟩

def xU(d:BY)(c:BY)(e:Bool):Option Ep:=
  if e=true then (some ((ByteArray.mk #[]),false)) else ((iI d (ByteArray.mk #[47])).bind λ b=>(ck (b.size+(ByteArray.mk #[47]).size <= 4611686018427387904)).bind λ f=>(ck ((b ++ (ByteArray.mk #[47])).size+c.size <= 4611686018427387904)).bind λ g=>some ((b ++ (ByteArray.mk #[47])) ++ c,true))
def D2(b:BY)(c:BY):Option Ep:=
  (r4 b).bind λ d=>if (!d.2)=true then (xU b c true) else ((zO c).bind λ e=>if (!e)=true then (xU b c true) else (xU b c ((d.1.length:Int) == 6)))
theorem Le{d e:BY}(H:Sep w (Fo) rs){r:BY×Bool}(m:D2 d e=some r) :
    Cf 208 [.string d,.string e] w λ v w'=>.tuple #[.string r.1,.bool r.2]=v/\Sep w' (Fo) (rs):=by
 unfold D2 at m
 refine ent func208 z ntmps208 z z λ a E=>sp 2 E z λ a E=>xp 1 E z λ a E=>bd m λ s o m=>xc2 E z (cf_ 144) (Ht H o)<|?_
 rintro _ w ⟨t,rfl,H⟩ a E
 refine pn 5 E z λ a E=>wS<|aJ (λ a w=>∃ g,Jn 30 a w [(0,.string d),(1,.string e),(24,.bool g)] (Fo) rs (xU d e g=some r)) ?_ ?_
 ·refine wG<|pr 3 E z λ a E=>cs m (λ b m=>?_) λ b m=>?_
  ·exact pk 9 E (kc 15 z b) z λ a E=>nt<|have H:=H.drop 0;⟨_,_,E.to z,H,Y0,m⟩
  ·refine pk 1 E (kc 15 z b) z λ a E=>bd m λ p j m=>gc 15 E b z (cf_ 228) (Cp H j)<|?_
   rintro _ w ⟨rfl,H⟩ a E
   refine pk 3 E (kc 15 z b) z λ a E=>cs m (λ c m=>?_) λ c m=>?_
   ·exact pk 4 E (kc 20 z c) z λ a E=>nt<|have H:=H.drop 0;⟨_,_,E.to z,H,Y0,m⟩
   ·exact pk 1 E (kc 20 z c) z λ a E=>gv 20 E c z (mV (i:=0) E H z z z U33) λ a E=>pk 2 E (kc 20 z c) z λ a E=>nt<|have H:=H.drop 0;⟨_,_,E.to z,H,Y0,m⟩
 ·clear E H m
  rintro a w ⟨g,q,E,H,f,m⟩
  unfold xU at m
  refine wif E m z (λ m=>?_) λ m=>?_
  ·refine sq<|pn 2 E z λ a E=>wR<|aG<|iH E z z z<|?_
   cases m
   exact ⟨z,H.reads f⟩
  ·refine wK<|aA<|sp 1 E z λ a E=>bd m λ u k m=>xk2 E z (cf_ 136) (Q7 H k) λ w H a E=>bk m λ l m=>sv2 E z (Ya E z z z l) λ a E=>pr 1 E z λ a E=>bk m λ n m=>sv2 E z (Ya E z z z n) λ a E=>pn 2 E z λ a E=>wR<|iH E z z z<|?_
   cases m
   exact ⟨z,H.reads f⟩

def gH(b:BY):Option Bool:=
  (r4 b).bind λ c=>some (c.2)
theorem kK{b:BY}(H:Sep w (Fo) rs){r:Bool}(m:gH b=some r) :
    Cf 83 [.string b] w λ v w'=>.bool r=v/\Sep w' (Fo) (rs):=by
 unfold gH at m
 refine ent func83 z ntmps83 z z λ a E=>sp 1 E z λ a E=>xp 1 E z λ a E=>bd m λ d c m=>xc2 E z (cf_ 144) (Ht H c)<|?_
 rintro _ w ⟨e,rfl,H⟩ a E
 refine pr 5 E z λ a E=>nx<|pn 2 E z λ a E=>wR<|o1 E z<|have H:=H.drop 0;?_
 cases m
 exact ⟨z,H.reads Y0⟩

def tP(b:BY)(c:Int):Option Int:=
  (jH b c).bind λ d=>some (d)
theorem Bf{b:BY}{c:Int}(H:Sep w (Fo) rs){r:Int}(m:tP b c=some r) :
    Cf 306 [.string b,.int .u8 c] w λ v w'=>.int .i64 r=v/\Sep w' (Fo) (rs):=by
 unfold tP at m
 refine ent func306 z ntmps306 z z λ a E=>sp 1 E z λ a E=>xp 2 E z λ a E=>bd m λ e d m=>xk2 E z (cf_ 346) (D7 H d) λ w H a E=>pn 1 E z λ a E=>wR<|o1 E z<|?_
 cases m
 exact ⟨z,H.reads Y0⟩

def B4(b:BY)(d:Bool):Option (BY×BY×Bool):=
  if d=true then (some ((ByteArray.mk #[]),(ByteArray.mk #[]),false)) else ((tP b 47).bind λ c=>(ck (0 <= (max c 1)/\(max c 1) <= b.size)).bind λ e=>(ck (0 <= (IntKind.i64.wrap (c+1))/\(IntKind.i64.wrap (c+1)) <= b.size)).bind λ f=>some (b.extract 0 (max c 1).toNat,b.extract (IntKind.i64.wrap (c+1)).toNat b.size,true))
def J2(b:BY):Option (BY×BY×Bool):=
  (gH b).bind λ c=>if (!c)=true then (B4 b true) else (B4 b (sEq b (ByteArray.mk #[47])))
theorem Oo{c:BY}(H:Sep w (Fo) rs){r:BY×BY×Bool}(m:J2 c=some r) :
    Cf 241 [.string c] w λ v w'=>.tuple #[.string r.1,.string r.2.1,.bool r.2.2]=v/\Sep w' (Fo) (rs):=by
 unfold J2 at m
 refine ent func241 z ntmps241 z z λ a E=>sq<|pn 3 E z λ a E=>wS<|aJ (λ a w=>∃ e,Jn 23 a w [(0,.string c),(12,.bool e)] (Fo) rs (B4 c e=some r)) ?_ ?_
 ·refine wG<|pr 1 E z λ a E=>bd m λ k f m=>xk2 E z (cf_ 83) (kK H f) λ w H a E=>pr 2 E z λ a E=>cs m (λ b m=>?_) λ b m=>?_
  ·exact pk 3 E (kc 9 z b) z λ a E=>nt<|⟨_,_,E.to z,H,Y0,m⟩
  ·exact pk 3 E (kc 9 z b) z λ a E=>nt<|⟨_,_,E.to z,H,Y0,m⟩
 ·clear E H m
  rintro a w ⟨e,l,E,H,d,m⟩
  unfold B4 at m
  refine wif E m z (λ m=>?_) λ m=>?_
  ·refine sq<|pn 3 E z λ a E=>wR<|aG<|Tf E z z z z<|?_
   cases m
   exact ⟨z,H.reads d⟩
  ·refine wK<|aA<|sp 1 E z λ a E=>bd m λ n i m=>xk2 E z (cf_ 306) (Bf H i) λ w H a E=>pn 1 E z λ a E=>wS<|dz [0,0,0,0,0,0,0,0,1,2,2] [] H λ w W0 hI H=>fn 2 E z λ a E=>fv E z (λ w hW=>(OK (t:=0) E z z z)) λ a E=>bk m λ j m=>fv E z (λ w hW=>(Gx E z z z U9 j)) λ a E=>fn 3 E z λ a E=>bk m λ g m=>fv E z (λ w hW=>(Df E z z z U9 g)) λ a E=>bQ z<|pn 1 E z λ a E=>⟨⟨_,_,H,(bH),(bO)⟩,bL z<|pn 1 E z λ a E=>bL z<|pn 1 E z λ a E=>bB<|?_⟩
   clear hI
   refine aA<|wR<|Tf E z z z z<|?_
   cases m
   exact ⟨z,H.reads d⟩

def zP(b:BY):Option BY:=
  (J2 b).bind λ c=>some (c.2.1)
theorem Cq{b:BY}(H:Sep w (Fo) rs){r:BY}(m:zP b=some r) :
    Cf 207 [.string b] w λ v w'=>.string r=v/\Sep w' (Fo) (rs):=by
 unfold zP at m
 refine ent func207 z ntmps207 z z λ a E=>sp 1 E z λ a E=>xp 1 E z λ a E=>bd m λ d c m=>xk2 E z (cf_ 241) (Oo H c) λ w H a E=>pr 7 E z λ a E=>nx<|pn 2 E z λ a E=>wR<|o1 E z<|?_
 cases m
 exact ⟨z,H.reads Y0⟩

def vN(b:Int)(c:BY)(e:Bool):Option Ep:=
  if e=true then (some ((ByteArray.mk #[]),false)) else ((ck (-9223372036854775808 <= IntKind.i64.wrap (10000+b)/\IntKind.i64.wrap (10000+b) <= 9223372036854775807)).bind λ g=>(ck (0 <= (1:Int)/\(1:Int) <= (ByteArray.mk (Lib.itoa (IntKind.i64.wrap (10000+b))).toArray).size)).bind λ i=>(ck (c.size+((ByteArray.mk (Lib.itoa (IntKind.i64.wrap (10000+b))).toArray).extract (1:Int).toNat (ByteArray.mk (Lib.itoa (IntKind.i64.wrap (10000+b))).toArray).size).size <= 4611686018427387904)).bind λ f=>(zO (c ++ ((ByteArray.mk (Lib.itoa (IntKind.i64.wrap (10000+b))).toArray).extract (1:Int).toNat (ByteArray.mk (Lib.itoa (IntKind.i64.wrap (10000+b))).toArray).size))).bind λ d=>if (!d)=true then (some ((ByteArray.mk #[]),false)) else (some (c ++ ((ByteArray.mk (Lib.itoa (IntKind.i64.wrap (10000+b))).toArray).extract (1:Int).toNat (ByteArray.mk (Lib.itoa (IntKind.i64.wrap (10000+b))).toArray).size),true)))
def zD(c:BY)(b:Int):Option Ep:=
  if (decide (b < 0))=true then (vN b c true) else (vN b c (decide (b > 9999)))
theorem Oq{e:BY}{d:Int}(H:Sep w (Fo) rs)(k:N5 Tryz.prog ∈ rs){r:BY×Bool}(m:zD e d=some r) :
    Cf 206 [.string e,.int .i64 d] w λ v w'=>.tuple #[.string r.1,.bool r.2]=v/\Sep w' (Fo) (rs):=by
 unfold zD at m
 refine ent func206 z ntmps206 z z λ a E=>sq<|pn 2 E z λ a E=>wS<|aJ (λ a w=>∃ f,Jn 23 a w [(0,.string e),(1,.int .i64 d),(12,.bool f)] (Fo) rs (vN d e f=some r)) ?_ ?_
 ·refine wG<|pr 3 E z λ a E=>cs m (λ b m=>?_) λ b m=>?_
  ·exact pk 3 E (kc 9 z b) z λ a E=>nt<|⟨_,_,E.to z,H,Y0,m⟩
  ·exact pk 3 E (kc 9 z b) z λ a E=>nt<|⟨_,_,E.to z,H,Y0,m⟩
 ·clear E H m
  rintro a w ⟨f,n,E,H,c,m⟩
  unfold vN at m
  refine wif E m z (λ m=>?_) λ m=>?_
  ·refine sq<|pn 2 E z λ a E=>wR<|aG<|iH E z z z<|?_
   cases m
   exact ⟨z,H.reads c⟩
  ·refine wK<|aA<|sp 3 E z λ a E=>bk m λ l m=>xc2 E z (cf_ 278) (MS H (c _ k) (IntKind.i64.wrap (10000+d)) l)<|?_
   rintro _ w ⟨rfl,H⟩ a E
   refine bk m λ g m=>sv2 E z (Df E z z z U9 g) λ a E=>bk m λ i m=>sv2 E z (Ya E z z z i) λ a E=>pn 1 E z λ a E=>wS<|sp 1 E z λ a E=>bd m λ o j m=>xk2 E z (cf_ 228) (Cp H j) λ w H a E=>pn 1 E z λ a E=>wif E m z (λ m=>?_) λ m=>?_
   ·refine sq<|pn 2 E z λ a E=>wR<|aG<|iH E z z z<|?_
    cases m
    exact ⟨z,H.reads c⟩
   ·refine wK<|aA<|sq<|pn 3 E z λ a E=>wR<|iH E z z z<|?_
    cases m
    exact ⟨z,H.reads c⟩

def tK(c:BY):Option Ep:=
  (J2 c).bind λ b=>some (b.1,b.2.2)
theorem M4{b:BY}(H:Sep w (Fo) rs){r:BY×Bool}(m:tK b=some r) :
    Cf 180 [.string b] w λ v w'=>.tuple #[.string r.1,.bool r.2]=v/\Sep w' (Fo) (rs):=by
 unfold tK at m
 refine ent func180 z ntmps180 z z λ a E=>sp 2 E z λ a E=>xp 1 E z λ a E=>bd m λ d c m=>xk2 E z (cf_ 241) (Oo H c) λ w H a E=>pr 7 E z λ a E=>nx<|pn 4 E z λ a E=>wR<|iH E z z z<|?_
 cases m
 exact ⟨z,H.reads Y0⟩

def Fx:Option Unit:=
  some ()
theorem Rx(H:Sep w (Fo) rs){r:Unit}(m:Fx=some r) :
    Cf 288 [] w λ v w'=>.agg #[.int .i64 0,.int .i64 13,.int .i64 2,.int .i64 19,.int .i64 18,.int .i64 16,.int .i64 16,.int .i64 20]=v/\Sep w' (Fo) (rs):=by
 unfold Fx at m
 refine ent func288 z ntmps288 z z λ a E=>sq<|al2 E H z OV λ b w a H E=>nx<|sv2 E z (cH E z (E.evs z) (v:=.agg #[.int .i64 0,.int .i64 13,.int .i64 2,.int .i64 19,.int .i64 18,.int .i64 16,.int .i64 16,.int .i64 20]) (by kernel_rfl)) λ a E=>ss 0 E H z FV z λ w H=>nt<|wR<|oB 0 [.int .i64 0,.int .i64 13,.int .i64 2,.int .i64 19,.int .i64 18,.int .i64 16,.int .i64 16,.int .i64 20] E H KW z FV<|have H:=H.drop 0;?_
 cases m
 exact ⟨z,H.reads Y0⟩

def V3(x1:Int)(b:Int):Option Bool:=
  if (decide (x1 ≥ 0))=true then (some (decide (x1 <= b))) else (some (false))
theorem Qc{x1 c:Int}(H:Sep w (Fo) rs){r:Bool}(m:V3 x1 c=some r) :
    Cf 287 [.int .i64 x1,.int .i64 c] w λ v w'=>.bool r=v/\Sep w' (Fo) (rs):=by
 unfold V3 at m
 refine ent func287 z ntmps287 z z λ a E=>sp 1 E z λ a E=>xp 3 E z λ a E=>cs m (λ b m=>?_) λ b m=>?_
 ·refine pk 5 E (kc 7 z b) z λ a E=>nt<|wR<|o1 E z<|?_
  cases m
  exact ⟨z,H.reads Y0⟩
 ·refine pk 5 E (kc 7 z b) z λ a E=>nt<|wR<|o1 E z<|?_
  cases m
  exact ⟨z,H.reads Y0⟩

def J3(x1:fC)(b:Int)(c:Bool):Option Bool:=
  if c=true then (Fx.bind λ e=>(idx ([0,13,2,19,18,16,16,20]:List Int) x1.Kind).bind λ d=>if ((Pk .i64 b d) == 0)=true then (if (x1.Kind != 7)=true then (some (true)) else (some (decide (x1.Owner > 0)))) else (some (false))) else (some (false))
def J4(x1:fC)(b:Int):Option Bool:=
  if (decide (x1.Version ≥ (-1)))=true then (J3 x1 b (decide (x1.Version <= 281474976710656))) else (J3 x1 b false)
def J5(x1:fC)(b:Int):Option Bool:=
  if (sEq x1.Path (ByteArray.mk #[47]))=true then (J4 x1 (ior .i64 b 16)) else (J4 x1 b)
def J6(x1:fC)(b:Int):Option Bool:=
  if x1.Turns=true then (J5 x1 (ior .i64 b 8)) else (J5 x1 b)
def J7(x1:fC)(b:Int):Option Bool:=
  if (x1.Owner != 0)=true then (J6 x1 (ior .i64 b 4)) else (J6 x1 b)
def J8(x1:fC)(b:Int):Option Bool:=
  if (x1.Version != 0)=true then (J7 x1 (ior .i64 b 2)) else (J7 x1 b)
def uO(x1:fC)(b:Bool):Option Bool:=
  if b=true then (some (false)) else (if (!(sEq x1.Data (ByteArray.mk #[])))=true then (J8 x1 (ior .i64 0 1)) else (J8 x1 0))
def W7(x1:fC):Option Bool:=
  if (decide (x1.Kind < 1))=true then (uO x1 true) else (if (decide (x1.Kind > 7))=true then (uO x1 true) else ((gH x1.Path).bind λ b=>if (!b)=true then (uO x1 true) else (if (decide ((x1.Data.size:Int) > 256))=true then (uO x1 true) else ((V3 x1.Owner 1099511627776).bind λ c=>uO x1 (!c)))))
theorem Lf{x1:fC}(H:Sep w (Fo) rs){r:Bool}(m:W7 x1=some r) :
    Cf 222 [.agg (uN x1).toArray] w λ v w'=>.bool r=v/\Sep w' (Fo) (rs):=by
 unfold W7 at m
 refine ent func222 z ntmps222 z z λ a E=>sq<|bx E H z λ e w a H E=>pn 1 E z λ a E=>wS<|aJ (λ a w=>∃ C,Jn 83 a w [(1,pt e 0),(30,.bool C)] (Blk e 134 (uN x1)::Fo) rs (uO x1 C=some r)) ?_ ?_
 ·refine wG<|pr 1 E z λ a E=>lb2 E H 0 U3 z λ a E=>pr 2 E z λ a E=>cs m (λ i m=>?_) λ i m=>?_
  ·exact pk 22 E (kc 8 z i) z λ a E=>nt<|⟨_,_,E.to z,H,Y0,m⟩
  ·refine pk 1 E (kc 8 z i) z λ a E=>gl 8 E H 0 i U3 z λ a E=>pk 3 E (kc 8 z i) z λ a E=>cs m (λ f m=>?_) λ f m=>?_
   ·exact pk 17 E (kc 13 z f) z λ a E=>nt<|⟨_,_,E.to z,H,Y0,m⟩
   ·refine pk 1 E (kc 13 z f) z λ a E=>gl 13 E H 0 f U9 z λ a E=>bd m λ Q D m=>gc 13 E f z (cf_ 83) (kK H D)<|?_
    rintro _ w ⟨rfl,H⟩ a E
    refine pk 3 E (kc 13 z f) z λ a E=>cs m (λ j m=>?_) λ j m=>?_
    ·exact pk 11 E (kc 19 z j) z λ a E=>nt<|⟨_,_,E.to z,H,Y0,m⟩
    ·refine pk 1 E (kc 19 z j) z λ a E=>gl 19 E H 0 j U9 z λ a E=>pk 4 E (kc 19 z j) z λ a E=>cs m (λ g m=>?_) λ g m=>?_
     ·exact pk 5 E (kc 25 z g) z λ a E=>nt<|⟨_,_,E.to z,H,Y0,m⟩
     ·refine pk 1 E (kc 25 z g) z λ a E=>gl 25 E H 0 g U2 z λ a E=>bd m λ R F m=>gc 25 E g z (cf_ 287) (Qc H F)<|?_
      rintro _ w ⟨rfl,H⟩ a E
      exact pk 2 E (kc 25 z g) z λ a E=>nt<|⟨_,_,E.to z,H,Y0,m⟩
 ·clear E H m
  rintro a w ⟨C,S,E,H,p,m⟩
  unfold uO at m
  refine wif E m z (λ m=>?_) λ m=>?_
  ·refine sq<|pn 1 E z λ a E=>wR<|aG<|o1 E z<|have H:=H.drop 0;?_
   cases m
   exact ⟨z,H.reads p⟩
  ·refine wK<|aA<|sq<|pn 1 E z λ a E=>aJ (λ a w=>∃ G,Jn 83 a w [(1,pt e 0),(3,.int .i64 G)] (Blk e 134 (uN x1)::Fo) rs (J8 x1 G=some r)) ?_ ?_
   ·refine sp 1 E z λ a E=>lb2 E H 0 U9 z λ a E=>pn 1 E z λ a E=>wif E m z (λ m=>?_) λ m=>?_
    ·exact wG<|pn 3 E z λ a E=>⟨_,_,E.to z,H,p,m⟩
    ·exact wK<|aA<|⟨_,_,E.to z,H,p,m⟩
   ·clear E H m
    rintro a w ⟨G,T,E,H,B,m⟩
    unfold J8 at m
    refine aJ (λ a w=>∃ I,Jn 83 a w [(1,pt e 0),(3,.int .i64 I)] (Blk e 134 (uN x1)::Fo) rs (J7 x1 I=some r)) ?_ ?_
    ·refine sp 1 E z λ a E=>lb2 E H 0 U2 z λ a E=>pn 1 E z λ a E=>wif E m z (λ m=>?_) λ m=>?_
     ·exact wG<|pn 3 E z λ a E=>⟨_,_,E.to z,H,B,m⟩
     ·exact wK<|aA<|⟨_,_,E.to z,H,B,m⟩
    ·clear E H m
     rintro a w ⟨I,L,E,H,q,m⟩
     unfold J7 at m
     refine aJ (λ a w=>∃ s,Jn 83 a w [(1,pt e 0),(3,.int .i64 s)] (Blk e 134 (uN x1)::Fo) rs (J6 x1 s=some r)) ?_ ?_
     ·refine sp 1 E z λ a E=>lb2 E H 0 U2 z λ a E=>pn 1 E z λ a E=>wif E m z (λ m=>?_) λ m=>?_
      ·exact wG<|pn 3 E z λ a E=>⟨_,_,E.to z,H,q,m⟩
      ·exact wK<|aA<|⟨_,_,E.to z,H,q,m⟩
     ·clear E H m
      rintro a w ⟨s,M,E,H,t,m⟩
      unfold J6 at m
      refine aJ (λ a w=>∃ u,Jn 83 a w [(1,pt e 0),(3,.int .i64 u)] (Blk e 134 (uN x1)::Fo) rs (J5 x1 u=some r)) ?_ ?_
      ·refine sp 1 E z λ a E=>lb2 E H 0 U4 z λ a E=>nt<|wif E m z (λ m=>?_) λ m=>?_
       ·exact wG<|pn 3 E z λ a E=>⟨_,_,E.to z,H,t,m⟩
       ·exact wK<|aA<|⟨_,_,E.to z,H,t,m⟩
      ·clear E H m
       rintro a w ⟨u,N,E,H,x,m⟩
       unfold J5 at m
       refine aJ (λ a w=>∃ o,Jn 83 a w [(1,pt e 0),(3,.int .i64 o)] (Blk e 134 (uN x1)::Fo) rs (J4 x1 o=some r)) ?_ ?_
       ·refine sp 1 E z λ a E=>lb2 E H 0 U9 z λ a E=>pn 1 E z λ a E=>wif E m z (λ m=>?_) λ m=>?_
        ·exact wG<|pn 3 E z λ a E=>⟨_,_,E.to z,H,x,m⟩
        ·exact wK<|aA<|⟨_,_,E.to z,H,x,m⟩
       ·clear E H m
        rintro a w ⟨o,O,E,H,y,m⟩
        unfold J4 at m
        refine aJ (λ a w=>∃ A,Jn 83 a w [(1,pt e 0),(3,.int .i64 o),(4,.bool A)] (Blk e 134 (uN x1)::Fo) rs (J3 x1 o A=some r)) ?_ ?_
        ·refine wG<|pr 1 E z λ a E=>lb2 E H 0 U2 z λ a E=>pr 2 E z λ a E=>cs m (λ k m=>?_) λ k m=>?_
         ·exact pk 1 E (kc 58 z k) z λ a E=>gl 58 E H 0 k U2 z λ a E=>pk 3 E (kc 58 z k) z λ a E=>nt<|⟨_,_,E.to z,H,y,m⟩
         ·exact pk 5 E (kc 58 z k) z λ a E=>nt<|⟨_,_,E.to z,H,y,m⟩
        ·clear E H m
         rintro a w ⟨A,P,E,H,n,m⟩
         unfold J3 at m
         refine wS<|dw [(0,0),(1,0),(2,0),(4,0),(5,0),(3,1),(6,0),(7,0),(8,0),(9,0),(10,0),(11,0),(12,0),(13,0),(14,0),(15,0),(16,0),(17,0),(18,0),(19,0),(20,2)] [0] [] H (by kernel_rfl) (λ _ _ _ h=>False.elim h.2) λ w W0 hI H=>fn 2 E z λ a E=>cs m (λ b m=>?_) λ b m=>?_
         ·refine fk 2 E (kc 64 z b) z λ a E=>fb E z (ws' (d:=64) E z z z z b) z z z z m0 z U3 z λ a E=>bQ z<|bd m λ U J m=>gc 64 E b z (cf_ 288) (Rx H J)<|?_
          rintro _ w ⟨rfl,H⟩ a E
          refine nt<|⟨sx H [0] z,bd m λ V K m=>cU E z (ws' (d:=64) E z z z z b) z z (λ w hW=>(GI (vs:=[.int .i64 0,.int .i64 13,.int .i64 2,.int .i64 19,.int .i64 18,.int .i64 16,.int .i64 16,.int .i64 20]) E z z z KW z sz3 U3 z (GJ (Value.int .i64) (xs:=([0,13,2,19,18,16,16,20]:List Int)) K))) λ a E=>fk 4 E (kc 64 z b) z λ a E=>cs m (λ c m=>?_) λ c m=>?_⟩
          ·refine fk 1 E (kc 73 z c) z λ a E=>fb E z (ws' (d:=73) E z z z z c) z z z z m0 z U3 z λ a E=>fk 2 E (kc 73 z c) z λ a E=>cs m (λ l m=>?_) λ l m=>?_
           ·refine fk 5 E (kc' (kc 77 z l) 73 z c) z λ a E=>bL z<|pn 1 E z λ a E=>bB<|?_
            clear hI
            refine aA<|wR<|o1 E z<|have H:=H.drop 0;?_
            cases m
            exact ⟨z,H.reads n⟩
           ·refine fk 1 E (kc 77 z l) z λ a E=>fb E z (ws' (d:=77) E z z z z l) z z z z m0 z U2 z λ a E=>fk 3 E (kc' (kc 77 z l) 73 z c) z λ a E=>bL z<|pn 1 E z λ a E=>bB<|?_
            clear hI
            refine aA<|wR<|o1 E z<|have H:=H.drop 0;?_
            cases m
            exact ⟨z,H.reads n⟩
          ·refine fk 9 E (kc 73 z c) z λ a E=>bL z<|pn 1 E z λ a E=>bB<|?_
           clear hI
           refine aA<|wR<|o1 E z<|have H:=H.drop 0;?_
           cases m
           exact ⟨z,H.reads n⟩
         ·refine fk 3 E (kc 64 z b) z λ a E=>bQ z<|pk 1 E (kc 64 z b) z λ a E=>nt<|⟨sx H [0] z,fk 14 E (kc 64 z b) z λ a E=>bL z<|pn 1 E z λ a E=>bB<|?_⟩
          clear hI
          refine aA<|wR<|o1 E z<|have H:=H.drop 0;?_
          cases m
          exact ⟨z,H.reads n⟩

def gQ(b:BY):Option Bool:=
  (tX b).bind λ c=>some (c.2)
theorem qN{b:BY}(H:Sep w (Fo) rs){r:Bool}(m:gQ b=some r) :
    Cf 70 [.string b] w λ v w'=>.bool r=v/\Sep w' (Fo) (rs):=by
 unfold gQ at m
 refine ent func70 z ntmps70 z z λ a E=>sp 1 E z λ a E=>xp 1 E z λ a E=>bd m λ d c m=>xc2 E z (cf_ 139) (Gh H c)<|?_
 rintro _ w ⟨e,rfl,H⟩ a E
 refine pr 5 E z λ a E=>nx<|pn 2 E z λ a E=>wR<|o1 E z<|have H:=H.drop 0;?_
 cases m
 exact ⟨z,H.reads Y0⟩

def nE(b:Int):Option Bool:=
  some (decide (b ≥ 5000))
def gT(b:List aH):Nat->Int->Int->Option Bool
  | 0,_,_=>none
  | f+1,c,d=>
    if (decide (d < (b.length:Int)))=true then (if (decide (c < 5000))=true then ((idx b d).bind λ e=>(idx b d).bind λ x20=>gT b f (IntKind.i64.wrap ((IntKind.i64.wrap (c+(min (e.Path.size:Int) 5000)))+(min (x20.Data.size:Int) 5000))) (IntKind.i64.wrap (d+1))) else (nE c)) else (nE c)
def tY(b:List aH):Option Bool:=
  gT b 5002 (IntKind.i64.wrap (3 * (b.length:Int))) 0
theorem Gi{f:VL}{g:List aH}(H:Sep w (Fo) rs)(e:rSl aB f g ∈ rs){r:Bool}(m:tY g=some r) :
    Cf 39 [f] w λ v w'=>.bool r=v/\Sep w' (Fo) (rs):=by
 unfold tY at m
 refine ent func39 z ntmps39 z z λ a E=>sp 1 E z λ a E=>xp 1 E z λ a E=>lS E H e U22 z λ a E=>pn 2 E z λ a E=>aJ (λ a w=>∃ i,Jn 37 a w [(3,.int .i64 i)] (Fo) rs (nE i=some r)) ?_ ?_
 ·refine sq<|pn 1 E z λ a E=>wB<|bG (λ d a w=>∃ j l,Jn 37 a w [(0,f),(3,.int .i64 j),(4,.int .i64 l)] (Fo) rs (gT g d j l=some r)) (5002) ?_ ?_
  ·exact X3 ⟨E.to z,H,Y0,m⟩
  ·clear E H m
   rintro d a w ⟨j,l,B,E,H,b,m⟩
   cases d with
   | zero=>exact (bE m z).elim
   | succ d=>
    unfold gT at m
    refine wS<|sp 2 E z λ a E=>lS E H (b _ e) U22 z λ a E=>pr 2 E z λ a E=>cs m (λ c m=>?_) λ c m=>?_
    ·refine pk 3 E (kc 12 z c) z λ a E=>nt<|wif E m z (λ m=>?_) λ m=>?_
     ·refine wK<|aA<|wS<|wB<|?_
      obtain ⟨C,H⟩:=H.raw (b _ e)
      refine dw [(0,0),(1,0),(2,0),(3,0),(4,0),(5,0),(6,0),(7,0),(8,0),(9,0),(10,0),(11,0),(12,0),(13,0),(14,0),(15,0),(16,0),(17,2)] [] [0] H (by kernel_rfl) (λ _ _ _ h=>False.elim h.2) λ w W0 hI H=>fn 3 E z λ a E=>bd m λ D n m=>?_
      obtain ⟨q15,F,o,p⟩:=fW (P:=Tryz.prog) (k:=.i64) hI (fV (.head _)) U22 hP n
      refine fv E z (λ w hW=>iD E z z z (o w)) λ a E=>?_
      have q:=gY p (λ _ _ _ h=>T9 h)
      refine fn 1 E z λ a E=>fa E z (wn z) z z z z q U9 z λ a E=>fn 1 E z λ a E=>fv E z (λ w hW=>(Nb (t:=0) E z z z)) λ a E=>fn 3 E z λ a E=>bd m λ x20 s m=>?_
      obtain ⟨q22,G,u,x⟩:=fW (P:=Tryz.prog) (k:=.i64) hI (fV (.head _)) U22 hP s
      refine fv E z (λ w hW=>iD E z z z (u w)) λ a E=>?_
      have y:=gY x (λ _ _ _ h=>Pt h)
      refine fn 1 E z λ a E=>fa E z (wn z) z z z z y U9 z λ a E=>fn 1 E z λ a E=>fv E z (λ w hW=>(Nb (t:=0) E z z z)) λ a E=>fn 1 E z λ a E=>bL z<|pn 1 E z λ a E=>bB<|?_
      clear hI
      exact bP<|aA<|wG<|pn 3 E z λ a E=>⟨d,nL d,X3 ⟨E.to z,H,(Y1 b),m⟩⟩
     ·exact wX<|aT<|aT<|cL<|aA<|⟨_,_,E.to z,H,b,m⟩
    ·exact pk 3 E (kc 12 z c) z λ a E=>nt<|wp_cond_false (E.eval z)<|wX<|aT<|aT<|cL<|aA<|⟨_,_,E.to z,H,b,m⟩
 ·clear E H m
  rintro a w ⟨i,I,E,H,A,m⟩
  unfold nE at m
  refine sq<|pn 3 E z λ a E=>wR<|o1 E z<|?_
  cases m
  exact ⟨z,H.reads A⟩

def Z7(x1:fC):Option Bool:=
  (W7 x1).bind λ b=>some (!b)
theorem Ry{x1:fC}(H:Sep w (Fo) rs){r:Bool}(m:Z7 x1=some r) :
    Cf 221 [.agg (uN x1).toArray] w λ v w'=>.bool r=v/\Sep w' (Fo) (rs):=by
 unfold Z7 at m
 refine ent func221 z ntmps221 z z λ a E=>sq<|bx E H z λ c w a H E=>pr 1 E z λ a E=>nx<|ln 0 (uN x1) E H Ub z Bv λ a E=>bd m λ d b m=>xk2 E z (cf_ 222) (Lf H b) λ w H a E=>pr 2 E z λ a E=>nt<|wR<|o1 E z<|have H:=H.drop 0;?_
 cases m
 exact ⟨z,H.reads Y0⟩

def lD(c:List fC):Nat->Int->Option Int
  | 0,_=>none
  | e+1,b=>
    if (decide (b < (c.length:Int)))=true then ((idx c b).bind λ f=>(Z7 f).bind λ d=>if d=true then (some (b)) else (lD c e (IntKind.i64.wrap (b+1)))) else (some ((-1)))
def rO(b:List fC):Option Int:=
  lD b (((b.length:Int) - 0:Int).toNat+1) 0
theorem O1{f:VL}{d:List fC}(H:Sep w (Fo) rs)(e:rSl N3 f d ∈ rs){r:Int}(m:rO d=some r) :
    Cf 286 [f,.func (.func 221) #[] #[]] w λ v w'=>.int .i64 r=v/\Sep w' (Fo) (rs):=by
 unfold rO at m
 refine ent func286 z ntmps286 z z λ a E=>sq<|pn 1 E z λ a E=>wS<|sp 1 E z λ a E=>lS E H e Py z λ a E=>pr 1 E z λ a E=>nt<|wB<|bG (λ c a w=>∃ g,Jn 19 a w [(0,f),(1,.func (.func 221) #[] #[]),(7,.int .i64 (d.length:Int)),(8,.int .i64 g)] (Fo) rs (lD d c g=some r)) (((d.length:Int) - 0:Int).toNat+1) ?_ ?_
 ·exact ⟨_,_,E.to z,H,Y0,m⟩
 ·clear E H m
  rintro c a w ⟨g,k,E,H,b,m⟩
  cases c with
  | zero=>exact (bE m z).elim
  | succ c=>
   unfold lD at m
   refine sq<|pn 1 E z λ a E=>wS<|wif E m z (λ m=>?_) λ m=>?_
   ·refine wK<|aA<|wS<|wB<|sp 2 E z λ a E=>xp 3 E z λ a E=>bd m λ n j m=>dB E H (wn z) z z z z z (b _ e) Py Bv j λ q9 a H E=>ldf Fv E H z z z z z m0 Ub z Bv λ a E=>bd m λ l i m=>bK E (wn z) z z (bN E z z z ((cf_ 221) _)) (Ry H i)<|?_
    rintro _ w ⟨rfl,H⟩ a E
    refine nt<|wif E m z (λ m=>?_) λ m=>?_
    ·refine sq<|pn 2 E z λ a E=>wR<|bD<|aG<|aG<|bD<|aG<|o1 E z<|?_
     cases m
     exact ⟨z,H.reads (Y1 b)⟩
    ·exact wK<|bP<|aA<|wG<|pn 2 E z λ a E=>⟨c,nL c,_,_,E.to z,H,(Y1 b),m⟩
   ·refine wX<|aT<|aT<|cL<|aA<|sq<|pn 1 E z λ a E=>wR<|o1 E z<|?_
    cases m
    exact ⟨z,H.reads b⟩

def pL(b:List fC):Option Bool:=
  (rO b).bind λ c=>some (decide (c ≥ 0))
theorem J9{b:VL}{c:List fC}(H:Sep w (Fo) rs)(d:rSl N3 b c ∈ rs){r:Bool}(m:pL c=some r) :
    Cf 220 [b,.func (.func 221) #[] #[]] w λ v w'=>.bool r=v/\Sep w' (Fo) (rs):=by
 unfold pL at m
 refine ent func220 z ntmps220 z z λ a E=>sp 1 E z λ a E=>xp 2 E z λ a E=>bd m λ f e m=>xk2 E z (cf_ 286) (O1 H d e) λ w H a E=>pn 2 E z λ a E=>wR<|o1 E z<|?_
 cases m
 exact ⟨z,H.reads Y0⟩

def Cr(b:List fC):Option Bool:=
  (pL b).bind λ c=>if (decide ((b.length:Int) > 0))=true then (if (decide ((b.length:Int) <= 8))=true then (some (!c)) else (some (false))) else (some (false))
theorem Wj{e:VL}{f:List fC}(H:Sep w (Fo) rs)(c:rSl N3 e f ∈ rs){r:Bool}(m:Cr f=some r) :
    Cf 140 [e] w λ v w'=>.bool r=v/\Sep w' (Fo) (rs):=by
 unfold Cr at m
 refine ent func140 z ntmps140 z z λ a E=>sp 1 E z λ a E=>xp 1 E z λ a E=>bd m λ i g m=>xk2 E z (cf_ 220) (J9 H c g) λ w H a E=>pr 1 E z λ a E=>nx<|pr 1 E z λ a E=>lS E H c Py z λ a E=>pr 2 E z λ a E=>cs m (λ b m=>?_) λ b m=>?_
 ·refine pk 1 E (kc 9 z b) z λ a E=>gv 9 E b z (zC E H z z c Py) λ a E=>pk 3 E (kc 9 z b) z λ a E=>cs m (λ d m=>?_) λ d m=>?_
  ·refine pk 4 E (kc 14 z d) z λ a E=>nt<|wR<|o1 E z<|?_
   cases m
   exact ⟨z,H.reads Y0⟩
  ·refine pk 4 E (kc 14 z d) z λ a E=>nt<|wR<|o1 E z<|?_
   cases m
   exact ⟨z,H.reads Y0⟩
 ·refine pk 9 E (kc 9 z b) z λ a E=>nt<|wR<|o1 E z<|?_
  cases m
  exact ⟨z,H.reads Y0⟩

def vC(b:List bF)(c:List bF):Option Eo:=
  (ck (c.length+b.length <= LIM)).bind λ d=>some (c ++ b)
theorem zQ{c d:VL}{e f:List bF}{b:Nat}(H:Sep w (Blk b 192 [d]::Row 97 cP d f::Fo) rs)(g:rSl cP c e ∈ rs){r:Eo}(m:vC e f=some r) :
    Cf 223 [c,pt b 0] w λ v w'=>∃ j,.tuple #[]=v/\Sep w' (Blk b 192 [j]::Row 97 cP j r::Fo) (rs):=by
 unfold vC at m
 refine ent func223 z ntmps223 z z λ a E=>wG<|lb2 E H 0 Ud z λ a E=>pr 1 E z λ a E=>bk m λ k m=>fE (i:=1) E H (wn z) z z z z z z (nU g) Ud PA z k z λ n w a H E=>?_
 obtain ⟨q10,l,rfl⟩:=H.rowform (i:=1) z
 refine ss 0 E H z PB z λ w H=>wN<|wV E z<|?_
 cases m
 exact ⟨_,z,H.reads Y0⟩

def zR(x1:Int)(b:BY)(c:BY):Option bF:=
  some ((⟨x1,b,c,(ByteArray.mk #[]),0,0,false⟩:bF))
theorem L9{x1:Int}{j k:Nat}{b c:BY}{d e f g i:VL}(H:Sep w (Blk j 9 [.string b]::Blk k 134 [d,.string c,e,f,g,i]::Fo) rs){r:bF}(m:zR x1 b c=some r) :
    Cf 224 [.int .i64 x1,pt j 0,pt k 0] w λ v w'=>.agg (bZ r).toArray=v/\Sep w' (Blk j 9 [.string b]::Blk k 134 [d,.string c,e,f,g,i]::Fo) (rs):=by
 unfold zR at m
 refine ent func224 z ntmps224 z z λ a E=>sq<|al2 E H z Mg λ l w a H E=>xp 1 E z λ a E=>lb2 E H 1 U9 z λ a E=>pr 1 E z λ a E=>lb2 E H 2 U9 z λ a E=>sv2 E z (cH E z (E.evs z) (v:=.agg #[.int .i64 x1,.string b,.string c,.string (ByteArray.mk #[]),.int .i64 0,.int .i64 0,.bool false]) (by kernel_rfl)) λ a E=>ss 0 E H z mP z λ w H=>nt<|wR<|oB 0 [.int .i64 x1,.string b,.string c,.string (ByteArray.mk #[]),.int .i64 0,.int .i64 0,.bool false] E H U97 z mP<|have H:=H.drop 0;?_
 cases m
 exact ⟨z,H.reads Y0⟩

def M1(x1:Int)(b:BY)(c:Int):Option bF:=
  some ((⟨x1,b,b,(ByteArray.mk #[]),0,c,false⟩:bF))
theorem Cs{x1 c:Int}{g:Nat}{b:BY}{i d e f:VL}(H:Sep w (Blk g 134 [i,.string b,d,e,.int .i64 c,f]::Fo) rs){r:bF}(m:M1 x1 b c=some r) :
    Cf 225 [.int .i64 x1,pt g 0] w λ v w'=>.agg (bZ r).toArray=v/\Sep w' (Blk g 134 [i,.string b,d,e,.int .i64 c,f]::Fo) (rs):=by
 unfold M1 at m
 refine ent func225 z ntmps225 z z λ a E=>sq<|al2 E H z Mg λ j w a H E=>xp 2 E z λ a E=>lb2 E H 1 U9 z λ a E=>pr 1 E z λ a E=>lb2 E H 1 U9 z λ a E=>pr 1 E z λ a E=>lb2 E H 1 U2 z λ a E=>sv2 E z (cH E z (E.evs z) (v:=.agg #[.int .i64 x1,.string b,.string b,.string (ByteArray.mk #[]),.int .i64 0,.int .i64 c,.bool false]) (by kernel_rfl)) λ a E=>ss 0 E H z mP z λ w H=>nt<|wR<|oB 0 [.int .i64 x1,.string b,.string b,.string (ByteArray.mk #[]),.int .i64 0,.int .i64 c,.bool false] E H U97 z mP<|have H:=H.drop 0;?_
 cases m
 exact ⟨z,H.reads Y0⟩

def M2(x1:Int)(c:BY)(d:BY)(e:Int):Option bF:=
  (zR x1 c d).bind λ b=>some ((⟨b.Kind,b.Dir,b.Path,b.Data,e,b.Owner,b.Turns⟩:bF))
theorem Ct{x1 c:Int}{k e d:Nat}{l n:BY}{f g i j:VL}(H:Sep w (Blk k 258 [.func (.func 224) #[] #[pt e 0,pt d 0]]::Blk e 9 [.string l]::Blk d 134 [f,.string n,g,.int .i64 c,i,j]::Fo) rs){r:bF}(m:M2 x1 l n c=some r) :
    Cf 226 [.int .i64 x1,pt k 0,pt d 0] w λ v w'=>.agg (bZ r).toArray=v/\Sep w' (Blk k 258 [.func (.func 224) #[] #[pt e 0,pt d 0]]::Blk e 9 [.string l]::Blk d 134 [f,.string n,g,.int .i64 c,i,j]::Fo) (rs):=by
 unfold M2 at m
 refine ent func226 z ntmps226 z z λ a E=>sq<|al2 E H z Mg λ p w a H E=>nx<|lb2 E H 1 Uc z λ a E=>pr 1 E z λ a E=>have H:=H.frs [1,1,3,3] z;bd m λ b o m=>bK E (wn z) z z (bN E z z z ((cf_ 224) _)) (L9 H o)<|?_
 rintro _ w ⟨rfl,H⟩ a E
 refine al2 E H z Mg λ q w a H E=>ss 0 E H z mP z λ w H=>xp 1 E z λ a E=>lb2 E H 2 U2 z λ a E=>pr 1 E z λ a E=>ss 0 E H z sz2 z λ w H=>nx<|ln 0 [.int .i64 b.Kind,.string b.Dir,.string b.Path,.string b.Data,.int .i64 c,.int .i64 b.Owner,.bool b.Turns] E H U97 z mP λ a E=>ss 3 E H z mP z λ w H=>nt<|wR<|oB 3 [.int .i64 b.Kind,.string b.Dir,.string b.Path,.string b.Data,.int .i64 c,.int .i64 b.Owner,.bool b.Turns] E H U97 z mP<|have H:=H.drs [0,2];have H:=H.frs [1,1,2] z;?_
 cases m
 exact ⟨z,H.reads Y0⟩

def G3(c:BY):Option BY:=
  (tK c).bind λ b=>if b.2=true then (some (b.1)) else (some ((ByteArray.mk #[47])))
theorem Hu{b:BY}(H:Sep w (Fo) rs){r:BY}(m:G3 b=some r) :
    Cf 201 [.string b] w λ v w'=>.string r=v/\Sep w' (Fo) (rs):=by
 unfold G3 at m
 refine ent func201 z ntmps201 z z λ a E=>sq<|pn 1 E z λ a E=>wS<|sp 1 E z λ a E=>bd m λ d c m=>xk2 E z (cf_ 180) (M4 H c) λ w H a E=>pr 5 E z λ a E=>nx<|pn 1 E z λ a E=>wif E m z (λ m=>?_) λ m=>?_
 ·refine sq<|pn 2 E z λ a E=>wR<|aG<|o1 E z<|?_
  cases m
  exact ⟨z,H.reads Y0⟩
 ·refine wK<|aA<|sq<|pn 1 E z λ a E=>wR<|o1 E z<|?_
  cases m
  exact ⟨z,H.reads Y0⟩

def rE(b:Eo):Option Eo:=
  some (b)
def Hv(x1:fC):Option Eo:=
  (W7 x1).bind λ x=>if (!x)=true then (some ([])) else ((G3 x1.Path).bind λ c=>if (x1.Kind == 1)=true then ((zR 2 c x1.Path).bind λ d=>(G3 c).bind λ e=>(vC ([(⟨1,e,c,(ByteArray.mk #[]),0,0,false⟩:bF),(⟨d.Kind,d.Dir,d.Path,x1.Data,d.Version,x1.Owner,x1.Turns⟩:bF)]:List bF) []).bind λ f=>rE f) else (if (x1.Kind == 2)=true then ((M2 3 c x1.Path x1.Version).bind λ g=>(M1 4 x1.Path x1.Owner).bind λ i=>(vC ([g,i]:List bF) []).bind λ j=>rE j) else (if (x1.Kind == 3)=true then ((M2 5 c x1.Path x1.Version).bind λ b=>(vC ([(⟨b.Kind,b.Dir,b.Path,x1.Data,b.Version,b.Owner,b.Turns⟩:bF)]:List bF) []).bind λ k=>rE k) else (if (x1.Kind == 4)=true then ((M2 6 c x1.Path x1.Version).bind λ l=>(vC ([l]:List bF) []).bind λ m=>rE m) else (if (x1.Kind == 5)=true then ((zR 7 c x1.Path).bind λ n=>(vC ([n]:List bF) []).bind λ o=>rE o) else (if (x1.Kind == 6)=true then ((zR 8 c x1.Path).bind λ p=>(M1 9 x1.Path x1.Owner).bind λ q=>(vC ([p,q]:List bF) []).bind λ s=>rE s) else (if (x1.Kind == 7)=true then ((zR 8 c x1.Path).bind λ t=>(M1 10 x1.Path x1.Owner).bind λ u=>(vC ([t,u]:List bF) []).bind λ v=>rE v) else (rE []))))))))
theorem BD{x1:fC}(H:Sep w (Fo) rs){r:Eo}(m:Hv x1=some r) :
    Cf 141 [.agg (uN x1).toArray] w λ v w'=>∃ U,U=v/\Sep w' (Row 97 cP U r::Fo) (rs):=by
 unfold Hv at m
 refine ent func141 z ntmps141 z z λ a E=>sq<|bx E H z λ d2 w a H E=>pn 1 E z λ a E=>wS<|sq<|ln 0 (uN x1) E H Ub z Bv λ a E=>bd m λ d3 V m=>xk2 E z (cf_ 222) (Lf H V) λ w H a E=>pn 1 E z λ a E=>wif E m z (λ m=>?_) λ m=>?_
 ·refine sq<|pn 1 E z λ a E=>wR<|aG<|o1 E z<|have H:=H.nilRow 97 cP;have H:=H.drop 1;?_
  cases m
  exact ⟨_,z,H.reads Y0⟩
 ·refine wK<|aA<|sq<|al1 E H z z z z OX z λ W w a H E=>nx<|sv2 E z (nT E z z z) λ a E=>pr 1 E z λ a E=>xp 1 E z λ a E=>lb2 E H 1 U9 z λ a E=>bd m λ s X m=>xk2 E z (cf_ 201) (Hu H X) λ w H a E=>al1 E H z z z z zr9 z λ d4 w a H E=>ss 0 E H z sz9 z λ w H=>nx<|sv2 E z (nT E z z z) λ a E=>al1 E H z z z z OY z λ d5 w a H E=>ss 0 E H z OZ z λ w H=>nx<|sv2 E z (nT E z z z) λ a E=>pr 1 E z λ a E=>nx<|sv2 E z (nT E z z z) λ a E=>pn 1 E z λ a E=>aJ (λ a w=>∃ t u,Jn 97 a w [(3,pt W 0)] (Blk W 192 [t]::Row 97 cP t u::Fo) rs (rE u=some r)) ?_ ?_
  ·refine sp 1 E z λ a E=>lb2 E H 3 U3 z λ a E=>nt<|wB<|sq<|pn 2 E z λ a E=>wif E m z (λ m=>?_) λ m=>?_
   ·refine sq<|lb2 E H 0 Uc z λ a E=>have H:=H.frs [2,1,3,3] z;bd m λ c y m=>bK E (wn z) z z (bN E z z z ((cf_ 224) _)) (L9 H y)<|?_
    rintro _ w ⟨rfl,H⟩ a E
    refine al2 E H z Mg λ Z w a H E=>ss 0 E H z mP z λ w H=>nt<|wS<|dz [0,0,0,0,0,0,0,1,0,1,2,2] [2] H λ w W0 hI H=>fn 1 E z λ a E=>fb2 E m0 U9 z λ a E=>fn 1 E z λ a E=>fb2 E m0 U2 z λ a E=>fn 1 E z λ a E=>fb2 E m0 U4 z λ a E=>fn 1 E z λ a E=>bQ z<|ss 0 E H z sz9 z λ w H=>nt<|⟨sx H [2] z,fn 1 E z λ a E=>bQ z<|ss 0 E H z sz2 z λ w H=>nt<|⟨sx H [2] z,bL z<|pn 1 E z λ a E=>bL z<|ss 0 E H z sz4 z λ w H=>nt<|bB<|?_⟩⟩
    clear hI
    refine aA<|dw [(0,0),(1,0),(3,0),(5,0),(2,1),(4,0),(6,1),(7,1)] [0,1] [] H (by kernel_rfl) (λ _ _ _ h=>False.elim h.2) λ w W0 hI H=>fn 1 E z λ a E=>fb2 E mm1 U9 z λ a E=>fb2 E mm1 U9 z λ a E=>fbn E [.int .i64 c.Kind,.string c.Dir,.string c.Path,.string x1.Data,.int .i64 c.Version,.int .i64 x1.Owner,.bool x1.Turns] z (wn z) z z z z m0 z U97 z mP λ a E=>bQ z<|bd m λ q A m=>xk2 E z (cf_ 201) (Hu H A) λ w H a E=>nt<|⟨sx H [0,1] z,fv E z (λ w hW=>(cH E z (E.evs z) (v:=.agg #[.int .i64 1,.string q,.string s,.string (ByteArray.mk #[]),.int .i64 0,.int .i64 0,.bool false]) (by kernel_rfl))) λ a E=>bQ z<|kG (e:=97) (d:=cP) (cs:=[.int .i64 1,.string q,.string s,.string (ByteArray.mk #[]),.int .i64 0,.int .i64 0,.bool false,.int .i64 c.Kind,.string c.Dir,.string c.Path,.string x1.Data,.int .i64 c.Version,.int .i64 x1.Owner,.bool x1.Turns]) (xs:=[(⟨1,q,s,(ByteArray.mk #[]),0,0,false⟩:bF),(⟨c.Kind,c.Dir,c.Path,x1.Data,c.Version,x1.Owner,x1.Turns⟩:bF)]) E H (wn z) z z z (E.evs z) (by kernel_rfl) z z (λ ok hr=>(Rows.append (Rows.single (d:=cP) (cs:=[.int .i64 1,.string q,.string s,.string (ByteArray.mk #[]),.int .i64 0,.int .i64 0,.bool false]) (x:=(⟨1,q,s,(ByteArray.mk #[]),0,0,false⟩:bF)) kF) (Rows.single (d:=cP) (cs:=[.int .i64 c.Kind,.string c.Dir,.string c.Path,.string x1.Data,.int .i64 c.Version,.int .i64 x1.Owner,.bool x1.Turns]) (x:=(⟨c.Kind,c.Dir,c.Path,x1.Data,c.Version,x1.Owner,x1.Turns⟩:bF)) kF))) λ b0 w a H E=>nt<|⟨sx H [1,2] z,bQ z<|have H:=H.thaw (i:=0) z;have H:=H.nilRow 97 cP;have H:=H.frs [4,4,4,4,4,5] z;bd m λ b1 B m=>bK E (wn z) z z (bN E z z z ((cf_ 223) _)) (zQ H m0 B)<|?_⟩⟩
    rintro _ w ⟨b2,rfl,H⟩ a E
    refine nt<|⟨sx H [2,3] z,bB<|?_⟩
    clear hI
    exact bP<|aA<|have H:=H.drs [2,2,2,2];X3 ⟨E.to z,H,(Y1 Y0),m⟩
   ·refine sq<|pn 2 E z λ a E=>wif E m z (λ m=>?_) λ m=>?_
    ·refine wG<|pr 2 E z λ a E=>have H:=H.frs [2,3,3,3] z;bd m λ f C m=>bK E (wn z) z z (bN E z z z ((cf_ 226) _)) (Ct H C)<|?_
     rintro _ w ⟨rfl,H⟩ a E
     refine pr 1 E z λ a E=>have H:=H.frs [3,2,2,3] z;bd m λ g D m=>bK E (wn z) z z (bN E z z z ((cf_ 225) _)) (Cs H D)<|?_
     rintro _ w ⟨rfl,H⟩ a E
     refine kG (e:=97) (d:=cP) (cs:=[.int .i64 f.Kind,.string f.Dir,.string f.Path,.string f.Data,.int .i64 f.Version,.int .i64 f.Owner,.bool f.Turns,.int .i64 g.Kind,.string g.Dir,.string g.Path,.string g.Data,.int .i64 g.Version,.int .i64 g.Owner,.bool g.Turns]) (xs:=[f,g]) E H (wn z) z z z (E.evs z) (by kernel_rfl) z z (λ ok hr=>(Rows.append (Rows.single (d:=cP) (cs:=[.int .i64 f.Kind,.string f.Dir,.string f.Path,.string f.Data,.int .i64 f.Version,.int .i64 f.Owner,.bool f.Turns]) (x:=f) kF) (Rows.single (d:=cP) (cs:=[.int .i64 g.Kind,.string g.Dir,.string g.Path,.string g.Data,.int .i64 g.Version,.int .i64 g.Owner,.bool g.Turns]) (x:=g) kF))) λ b3 w a H E=>have H:=H.thaw (i:=0) z;have H:=H.nilRow 97 cP;have H:=H.frs [3,3,3,3,4] z;bd m λ b4 F m=>bK E (wn z) z z (bN E z z z ((cf_ 223) _)) (zQ H m0 F)<|?_
     rintro _ w ⟨b5,rfl,H⟩ a E
     exact wN<|bP<|aA<|have H:=H.drs [2,2,2];X3 ⟨E.to z,H,(Y1 Y0),m⟩
    ·refine sq<|pn 2 E z λ a E=>wif E m z (λ m=>?_) λ m=>?_
     ·refine sp 1 E z λ a E=>have H:=H.frs [2,3,3,3] z;bd m λ b G m=>bK E (wn z) z z (bN E z z z ((cf_ 226) _)) (Ct H G)<|?_
      rintro _ w ⟨rfl,H⟩ a E
      refine al2 E H z Mg λ b6 w a H E=>ss 0 E H z mP z λ w H=>xp 1 E z λ a E=>lb2 E H 3 U9 z λ a E=>pr 1 E z λ a E=>ss 0 E H z sz9 z λ w H=>nt<|wG<|pr 1 E z λ a E=>ln 0 [.int .i64 b.Kind,.string b.Dir,.string b.Path,.string x1.Data,.int .i64 b.Version,.int .i64 b.Owner,.bool b.Turns] E H U97 z mP λ a E=>kG (e:=97) (d:=cP) (cs:=[.int .i64 b.Kind,.string b.Dir,.string b.Path,.string x1.Data,.int .i64 b.Version,.int .i64 b.Owner,.bool b.Turns]) (xs:=[(⟨b.Kind,b.Dir,b.Path,x1.Data,b.Version,b.Owner,b.Turns⟩:bF)]) E H (wn z) z z z (E.evs z) (by kernel_rfl) z z (λ ok hr=>(Rows.single (d:=cP) (cs:=[.int .i64 b.Kind,.string b.Dir,.string b.Path,.string x1.Data,.int .i64 b.Version,.int .i64 b.Owner,.bool b.Turns]) (x:=(⟨b.Kind,b.Dir,b.Path,x1.Data,b.Version,b.Owner,b.Turns⟩:bF)) kF)) λ b7 w a H E=>have H:=H.thaw (i:=0) z;have H:=H.nilRow 97 cP;have H:=H.frs [4,4,4,4,4,5] z;bd m λ b8 I m=>bK E (wn z) z z (bN E z z z ((cf_ 223) _)) (zQ H m0 I)<|?_
      rintro _ w ⟨b9,rfl,H⟩ a E
      exact wN<|bP<|aA<|have H:=H.drs [2,2,2,2];X3 ⟨E.to z,H,(Y1 Y0),m⟩
     ·refine sq<|pn 2 E z λ a E=>wif E m z (λ m=>?_) λ m=>?_
      ·refine wG<|pr 2 E z λ a E=>have H:=H.frs [2,3,3,3] z;bd m λ j J m=>bK E (wn z) z z (bN E z z z ((cf_ 226) _)) (Ct H J)<|?_
       rintro _ w ⟨rfl,H⟩ a E
       refine kG (e:=97) (d:=cP) (cs:=[.int .i64 j.Kind,.string j.Dir,.string j.Path,.string j.Data,.int .i64 j.Version,.int .i64 j.Owner,.bool j.Turns]) (xs:=[j]) E H (wn z) z z z (E.evs z) (by kernel_rfl) z z (λ ok hr=>(Rows.single (d:=cP) (cs:=[.int .i64 j.Kind,.string j.Dir,.string j.Path,.string j.Data,.int .i64 j.Version,.int .i64 j.Owner,.bool j.Turns]) (x:=j) kF)) λ c0 w a H E=>have H:=H.thaw (i:=0) z;have H:=H.nilRow 97 cP;have H:=H.frs [3,3,3,3,4] z;bd m λ c1 K m=>bK E (wn z) z z (bN E z z z ((cf_ 223) _)) (zQ H m0 K)<|?_
       rintro _ w ⟨c2,rfl,H⟩ a E
       exact wN<|bP<|aA<|have H:=H.drs [2,2,2];X3 ⟨E.to z,H,(Y1 Y0),m⟩
      ·refine sq<|pn 2 E z λ a E=>wif E m z (λ m=>?_) λ m=>?_
       ·refine wG<|pr 1 E z λ a E=>lb2 E H 0 Uc z λ a E=>have H:=H.frs [2,1,3,3] z;bd m λ k L m=>bK E (wn z) z z (bN E z z z ((cf_ 224) _)) (L9 H L)<|?_
        rintro _ w ⟨rfl,H⟩ a E
        refine kG (e:=97) (d:=cP) (cs:=[.int .i64 k.Kind,.string k.Dir,.string k.Path,.string k.Data,.int .i64 k.Version,.int .i64 k.Owner,.bool k.Turns]) (xs:=[k]) E H (wn z) z z z (E.evs z) (by kernel_rfl) z z (λ ok hr=>(Rows.single (d:=cP) (cs:=[.int .i64 k.Kind,.string k.Dir,.string k.Path,.string k.Data,.int .i64 k.Version,.int .i64 k.Owner,.bool k.Turns]) (x:=k) kF)) λ c3 w a H E=>have H:=H.thaw (i:=0) z;have H:=H.nilRow 97 cP;have H:=H.frs [3,3,3,3,4] z;bd m λ c4 M m=>bK E (wn z) z z (bN E z z z ((cf_ 223) _)) (zQ H m0 M)<|?_
        rintro _ w ⟨c5,rfl,H⟩ a E
        exact wN<|bP<|aA<|have H:=H.drs [2,2,2];X3 ⟨E.to z,H,(Y1 Y0),m⟩
       ·refine sq<|pn 2 E z λ a E=>wif E m z (λ m=>?_) λ m=>?_
        ·refine wG<|pr 1 E z λ a E=>lb2 E H 0 Uc z λ a E=>have H:=H.frs [2,1,3,3] z;bd m λ l N m=>bK E (wn z) z z (bN E z z z ((cf_ 224) _)) (L9 H N)<|?_
         rintro _ w ⟨rfl,H⟩ a E
         refine pr 1 E z λ a E=>have H:=H.frs [3,3,2,3] z;bd m λ n O m=>bK E (wn z) z z (bN E z z z ((cf_ 225) _)) (Cs H O)<|?_
         rintro _ w ⟨rfl,H⟩ a E
         refine kG (e:=97) (d:=cP) (cs:=[.int .i64 l.Kind,.string l.Dir,.string l.Path,.string l.Data,.int .i64 l.Version,.int .i64 l.Owner,.bool l.Turns,.int .i64 n.Kind,.string n.Dir,.string n.Path,.string n.Data,.int .i64 n.Version,.int .i64 n.Owner,.bool n.Turns]) (xs:=[l,n]) E H (wn z) z z z (E.evs z) (by kernel_rfl) z z (λ ok hr=>(Rows.append (Rows.single (d:=cP) (cs:=[.int .i64 l.Kind,.string l.Dir,.string l.Path,.string l.Data,.int .i64 l.Version,.int .i64 l.Owner,.bool l.Turns]) (x:=l) kF) (Rows.single (d:=cP) (cs:=[.int .i64 n.Kind,.string n.Dir,.string n.Path,.string n.Data,.int .i64 n.Version,.int .i64 n.Owner,.bool n.Turns]) (x:=n) kF))) λ c6 w a H E=>have H:=H.thaw (i:=0) z;have H:=H.nilRow 97 cP;have H:=H.frs [3,3,3,3,4] z;bd m λ c7 P m=>bK E (wn z) z z (bN E z z z ((cf_ 223) _)) (zQ H m0 P)<|?_
         rintro _ w ⟨c8,rfl,H⟩ a E
         exact wN<|bP<|aA<|have H:=H.drs [2,2,2];X3 ⟨E.to z,H,(Y1 Y0),m⟩
        ·refine sq<|pn 2 E z λ a E=>wif E m z (λ m=>?_) λ m=>?_
         ·refine wG<|pr 1 E z λ a E=>lb2 E H 0 Uc z λ a E=>have H:=H.frs [2,1,3,3] z;bd m λ o Q m=>bK E (wn z) z z (bN E z z z ((cf_ 224) _)) (L9 H Q)<|?_
          rintro _ w ⟨rfl,H⟩ a E
          refine pr 1 E z λ a E=>have H:=H.frs [3,3,2,3] z;bd m λ p R m=>bK E (wn z) z z (bN E z z z ((cf_ 225) _)) (Cs H R)<|?_
          rintro _ w ⟨rfl,H⟩ a E
          refine kG (e:=97) (d:=cP) (cs:=[.int .i64 o.Kind,.string o.Dir,.string o.Path,.string o.Data,.int .i64 o.Version,.int .i64 o.Owner,.bool o.Turns,.int .i64 p.Kind,.string p.Dir,.string p.Path,.string p.Data,.int .i64 p.Version,.int .i64 p.Owner,.bool p.Turns]) (xs:=[o,p]) E H (wn z) z z z (E.evs z) (by kernel_rfl) z z (λ ok hr=>(Rows.append (Rows.single (d:=cP) (cs:=[.int .i64 o.Kind,.string o.Dir,.string o.Path,.string o.Data,.int .i64 o.Version,.int .i64 o.Owner,.bool o.Turns]) (x:=o) kF) (Rows.single (d:=cP) (cs:=[.int .i64 p.Kind,.string p.Dir,.string p.Path,.string p.Data,.int .i64 p.Version,.int .i64 p.Owner,.bool p.Turns]) (x:=p) kF))) λ c9 w a H E=>have H:=H.thaw (i:=0) z;have H:=H.nilRow 97 cP;have H:=H.frs [3,3,3,3,4] z;bd m λ d0 S m=>bK E (wn z) z z (bN E z z z ((cf_ 223) _)) (zQ H m0 S)<|?_
          rintro _ w ⟨d1,rfl,H⟩ a E
          exact wN<|bP<|aA<|have H:=H.drs [2,2,2];X3 ⟨E.to z,H,(Y1 Y0),m⟩
         ·exact wK<|bP<|aA<|have H:=H.nilRow 97 cP;have H:=H.drs [1,1,2];have H:=H.frs [0,1] z;X3 ⟨E.to z,H,Y0,m⟩
  ·clear E H m
   rintro a w ⟨t,u,Y,E,H,T,m⟩
   unfold rE at m
   refine sq<|lb2 E H 0 Ud z λ a E=>pn 1 E z λ a E=>wR<|o1 E z<|have H:=H.drop 0;?_
   cases m
   exact ⟨_,z,H.reads T⟩

def M5(rec_1:z8->Int->Option z8)(b:Eo)(d:Int):Nat->z8->Int->Option z8
  | 0,_,_=>none
  | f+1,c,x20=>
    if (decide (x20 < (b.length:Int)))=true then ((idx b x20).bind λ e=>(ck (c.length+([(⟨d,e⟩:cR)]:List cR).length <= LIM)).bind λ g=>M5 rec_1 b d f (c ++ ([(⟨d,e⟩:cR)]:List cR)) (IntKind.i64.wrap (x20+1))) else (rec_1 c (IntKind.i64.wrap (d+1)))
def B5(c:List fC):Nat->z8->Int->Option z8
  | 0,_,_=>none
  | g+1,e,d=>
    if (decide (d < (c.length:Int)))=true then ((idx c d).bind λ f=>(Hv f).bind λ b=>M5 (B5 c g) b d (((b.length:Int) - 0:Int).toNat+1) e 0) else (some (e))
def Eu(b:List fC):Option z8:=
  (Cr b).bind λ c=>if (!c)=true then (some ([])) else (B5 b (((b.length:Int) - 0:Int).toNat+1) [] 0)
theorem Yz{u:VL}{f:List fC}(H:Sep w (Fo) rs)(o:rSl N3 u f ∈ rs){r:z8}(m:Eu f=some r) :
    Cf 77 [u] w λ v w'=>∃ G,G=v/\Sep w' (Row 99 bR G r::Fo) (rs):=by
 unfold Eu at m
 refine ent func77 z ntmps77 z z λ a E=>sq<|pn 1 E z λ a E=>wS<|sp 1 E z λ a E=>bd m λ S I m=>xk2 E z (cf_ 140) (Wj H o I) λ w H a E=>pn 1 E z λ a E=>wif E m z (λ m=>?_) λ m=>?_
 ·refine sq<|pn 1 E z λ a E=>wR<|aG<|o1 E z<|have H:=H.nilRow 99 bR;?_
  cases m
  exact ⟨_,z,H.reads Y0⟩
 ·refine wK<|aA<|sq<|pn 1 E z λ a E=>wS<|sp 1 E z λ a E=>lS E H o Py z λ a E=>pn 1 E z λ a E=>wB<|bG (λ g a w=>∃ A B c,Jn 34 a w [(3,A),(11,u),(12,.int .i64 (f.length:Int)),(13,.int .i64 c)] (Row 99 bR A B::Fo) rs (B5 f g B c=some r)) (((f.length:Int) - 0:Int).toNat+1) ?_ ?_
  ·exact have H:=H.nilRow 99 bR;X4 ⟨E.to z,H,Y0,m⟩
  ·clear E H m
   rintro g a w ⟨A,B,c,L,E,H,j,m⟩
   cases g with
   | zero=>exact (bE m z).elim
   | succ g=>
    unfold B5 at m
    refine sq<|pn 1 E z λ a E=>wS<|wif E m z (λ m=>?_) λ m=>?_
    ·refine wK<|aA<|wS<|wB<|sp 1 E z λ a E=>bd m λ J C m=>dB E H (wn z) z z z z z (j _ o) Py Bv C λ q13 a H E=>ldf Fv E H z z z z z m0 Ub z Bv λ a E=>al2 E H z OW λ M w a H E=>pr 1 E z λ a E=>ss 0 E H z Bv z λ w H=>nx<|ln 0 (uN J) E H Ub z Bv λ a E=>bd m λ l D m=>xc2 E z (cf_ 141) (BD H D)<|?_
     rintro _ w ⟨y,rfl,H⟩ a E
     refine sv2 E z (mV (i:=0) E H z z z Ud) λ a E=>pn 1 E z λ a E=>wB<|bG (λ n a w=>∃ p q x20,Jn 34 a w [(3,p),(4,.int .i64 c),(11,u),(12,.int .i64 (f.length:Int)),(13,.int .i64 c),(19,y),(20,.int .i64 (l.length:Int)),(21,.int .i64 x20)] (Row 99 bR p q::Row 97 cP y l::Fo) rs (M5 (B5 f g) l c n q x20=some r)) (((l.length:Int) - 0:Int).toNat+1) ?_ ?_
     ·exact have H:=H.drop 1;have H:=H.frs [0,1] z;X4 ⟨E.to z,H,(Y1 j),m⟩
     ·clear E H m
      rintro n a w ⟨p,q,x20,K,E,H,s,m⟩
      cases n with
      | zero=>exact (bE m z).elim
      | succ n=>
       unfold M5 at m
       refine sq<|pn 1 E z λ a E=>wS<|wif E m z (λ m=>?_) λ m=>?_
       ·refine wK<|aA<|wS<|wB<|sq<|bd m λ b k m=>?_
        obtain ⟨N,O,t⟩:=H.rowformNE (i:=1) z k
        exact sv2 E z (dG (d:=cP) E t z z z z Ud mP k) λ a E=>sv2 E z (kH (i:=1) E H Bu t z z z k (us:=[.int .i64 b.Kind,.string b.Dir,.string b.Path,.string b.Data,.int .i64 b.Version,.int .i64 b.Owner,.bool b.Turns]) z U97 z mP) λ a E=>al2 E H z Mg λ P w a H E=>ss 0 E H z mP z λ w H=>nt<|wG<|pr 2 E z λ a E=>ln 0 (bZ b) E H U97 z mP λ a E=>sv2 E z (cH E z (E.evs z) (v:=.agg #[.int .i64 c,.int .i64 b.Kind,.string b.Dir,.string b.Path,.string b.Data,.int .i64 b.Version,.int .i64 b.Owner,.bool b.Turns]) (by kernel_rfl)) λ a E=>xA (e:=99) (d:=bR) (cs:=[.int .i64 c,.int .i64 b.Kind,.string b.Dir,.string b.Path,.string b.Data,.int .i64 b.Version,.int .i64 b.Owner,.bool b.Turns]) (xs:=[(⟨c,b⟩:cR)]) E H (wn z) z z z (E.evs z) (by kernel_rfl) z (λ ok hr=>(Rows.single (d:=bR) (cs:=[.int .i64 c,.int .i64 b.Kind,.string b.Dir,.string b.Path,.string b.Data,.int .i64 b.Version,.int .i64 b.Owner,.bool b.Turns]) (x:=(⟨c,b⟩:cR)) Dk)) λ Q w a H E=>bk m λ F m=>fE (i:=1) E H (wn z) z z z z z z (nU m0) U26 PC z F z λ R w a H E=>pr 1 E z λ a E=>wN<|bP<|aA<|wG<|pr 2 E z λ a E=>nt<|have H:=H.drop 0;⟨n,nL n,X4 ⟨E.to z,H,(Y1 s),m⟩⟩
       ·exact wX<|aT<|aT<|cL<|bP<|aA<|wG<|pn 2 E z λ a E=>have H:=H.drop 1;⟨g,nL g,X4 ⟨E.to z,H,s,m⟩⟩
    ·refine wX<|aT<|aT<|cL<|aA<|sq<|pn 2 E z λ a E=>wR<|o1 E z<|?_
     cases m
     exact ⟨_,z,H.reads j⟩

def wY(x1:Int)(b:Int)(x3:Int):Option Bool:=
  if (decide (x1 ≥ b))=true then (some (decide (x1 <= x3))) else (some (false))
theorem Z8{x1 c x3:Int}(H:Sep w (Fo) rs){r:Bool}(m:wY x1 c x3=some r) :
    Cf 84 [.int .i64 x1,.int .i64 c,.int .i64 x3] w λ v w'=>.bool r=v/\Sep w' (Fo) (rs):=by
 unfold wY at m
 refine ent func84 z ntmps84 z z λ a E=>sp 1 E z λ a E=>xp 4 E z λ a E=>cs m (λ b m=>?_) λ b m=>?_
 ·refine pk 5 E (kc 10 z b) z λ a E=>nt<|wR<|o1 E z<|?_
  cases m
  exact ⟨z,H.reads Y0⟩
 ·refine pk 5 E (kc 10 z b) z λ a E=>nt<|wR<|o1 E z<|?_
  cases m
  exact ⟨z,H.reads Y0⟩

def yT(d:BY)(e:BY)(x3:Int)(f:Int)(g:Int):Option Bool:=
  (gH d).bind λ i=>if i=true then (if (decide ((e.size:Int) <= 256))=true then ((wY x3 f 281474976710656).bind λ b=>if b=true then ((wY g 0 1099511627776).bind λ c=>some (c)) else (some (false))) else (some (false))) else (some (false))
theorem Fy{g i:BY}{x3 j k:Int}(H:Sep w (Fo) rs){r:Bool}(m:yT g i x3 j k=some r) :
    Cf 80 [.string g,.string i,.int .i64 x3,.int .i64 j,.int .i64 k] w λ v w'=>.bool r=v/\Sep w' (Fo) (rs):=by
 unfold yT at m
 refine ent func80 z ntmps80 z z λ a E=>sp 1 E z λ a E=>xp 1 E z λ a E=>bd m λ p l m=>xk2 E z (cf_ 83) (kK H l) λ w H a E=>pr 1 E z λ a E=>cs m (λ d m=>?_) λ d m=>?_
 ·refine pk 5 E (kc 13 z d) z λ a E=>cs m (λ c m=>?_) λ c m=>?_
  ·refine pk 2 E (kc 18 z c) z λ a E=>bd m λ n e m=>gc 18 E c z (cf_ 84) (Z8 H e)<|?_
   rintro _ w ⟨rfl,H⟩ a E
   refine pk 2 E (kc 18 z c) z λ a E=>cs m (λ b m=>?_) λ b m=>?_
   ·refine pk 1 E (kc 23 z b) z λ a E=>bd m λ o f m=>gc 23 E b z (cf_ 84) (Z8 H f)<|?_
    rintro _ w ⟨rfl,H⟩ a E
    refine pk 2 E (kc 23 z b) z λ a E=>nt<|wR<|o1 E z<|?_
    cases m
    exact ⟨z,H.reads Y0⟩
   ·refine pk 4 E (kc 23 z b) z λ a E=>nt<|wR<|o1 E z<|?_
    cases m
    exact ⟨z,H.reads Y0⟩
  ·refine pk 9 E (kc 18 z c) z λ a E=>nt<|wR<|o1 E z<|?_
   cases m
   exact ⟨z,H.reads Y0⟩
 ·refine pk 14 E (kc 13 z d) z λ a E=>nt<|wR<|o1 E z<|?_
  cases m
  exact ⟨z,H.reads Y0⟩

def yU(x1:bF)(b:BY):Option Bool:=
  (yT x1.Path x1.Data x1.Version (-1) x1.Owner).bind λ c=>if c=true then (if (sEq x1.Dir b)=true then (if (decide (x1.Kind ≥ 1))=true then (if (decide (x1.Kind <= 10))=true then (if (x1.Kind != 2)=true then (some (true)) else (some (!(sEq x1.Path (ByteArray.mk #[47]))))) else (some (false))) else (some (false))) else (some (false))) else (some (false))
def yV(x1:bF)(c:BY)(b:Bool):Option Bool:=
  if b=true then (yU x1 x1.Path) else (yU x1 c)
def K1(x1:bF):Option Bool:=
  (G3 x1.Path).bind λ b=>if (x1.Kind == 4)=true then (yV x1 b true) else (if (x1.Kind == 9)=true then (yV x1 b true) else (yV x1 b (x1.Kind == 10)))
theorem Ot{x1:bF}(H:Sep w (Fo) rs){r:Bool}(m:K1 x1=some r) :
    Cf 121 [.agg (bZ x1).toArray] w λ v w'=>.bool r=v/\Sep w' (Fo) (rs):=by
 unfold K1 at m
 refine ent func121 z ntmps121 z z λ a E=>sq<|bx E H z λ n w a H E=>pr 1 E z λ a E=>xp 1 E z λ a E=>lb2 E H 0 U9 z λ a E=>bd m λ p q m=>xk2 E z (cf_ 201) (Hu H q) λ w H a E=>pn 1 E z λ a E=>aJ (λ a w=>∃ o,Jn 57 a w [(1,pt n 0),(3,.string o)] (Blk n 97 (bZ x1)::Fo) rs (yU x1 o=some r)) ?_ ?_
 ·refine aJ (λ a w=>∃ k,Jn 57 a w [(1,pt n 0),(3,.string p),(19,.bool k)] (Blk n 97 (bZ x1)::Fo) rs (yV x1 p k=some r)) ?_ ?_
  ·refine wG<|pr 1 E z λ a E=>lb2 E H 0 U3 z λ a E=>pr 2 E z λ a E=>cs m (λ c m=>?_) λ c m=>?_
   ·exact pk 9 E (kc 10 z c) z λ a E=>nt<|⟨_,_,E.to z,H,Y0,m⟩
   ·refine pk 1 E (kc 10 z c) z λ a E=>gl 10 E H 0 c U3 z λ a E=>pk 3 E (kc 10 z c) z λ a E=>cs m (λ d m=>?_) λ d m=>?_
    ·exact pk 4 E (kc 15 z d) z λ a E=>nt<|⟨_,_,E.to z,H,Y0,m⟩
    ·exact pk 1 E (kc 15 z d) z λ a E=>gl 15 E H 0 d U3 z λ a E=>pk 2 E (kc 15 z d) z λ a E=>nt<|⟨_,_,E.to z,H,Y0,m⟩
  ·clear E H m
   rintro a w ⟨k,t,E,H,l,m⟩
   unfold yV at m
   refine wif E m z (λ m=>?_) λ m=>?_
   ·exact wG<|pr 1 E z λ a E=>lb2 E H 0 U9 z λ a E=>pn 1 E z λ a E=>⟨_,_,E.to z,H,l,m⟩
   ·exact wK<|aA<|⟨_,_,E.to z,H,l,m⟩
 ·clear E H m
  rintro a w ⟨o,u,E,H,j,m⟩
  unfold yU at m
  refine sp 1 E z λ a E=>lb2 E H 0 U9 z λ a E=>pr 1 E z λ a E=>lb2 E H 0 U9 z λ a E=>pr 1 E z λ a E=>lb2 E H 0 U2 z λ a E=>pr 1 E z λ a E=>lb2 E H 0 U2 z λ a E=>bd m λ x s m=>xk2 E z (cf_ 80) (Fy H s) λ w H a E=>pr 1 E z λ a E=>cs m (λ e m=>?_) λ e m=>?_
  ·refine pk 1 E (kc 31 z e) z λ a E=>gl 31 E H 0 e U9 z λ a E=>pk 4 E (kc 31 z e) z λ a E=>cs m (λ f m=>?_) λ f m=>?_
   ·refine pk 1 E (kc 37 z f) z λ a E=>gl 37 E H 0 f U3 z λ a E=>pk 3 E (kc 37 z f) z λ a E=>cs m (λ g m=>?_) λ g m=>?_
    ·refine pk 1 E (kc 42 z g) z λ a E=>gl 42 E H 0 g U3 z λ a E=>pk 3 E (kc 42 z g) z λ a E=>cs m (λ b m=>?_) λ b m=>?_
     ·refine pk 1 E (kc 47 z b) z λ a E=>gl 47 E H 0 b U3 z λ a E=>pk 2 E (kc 47 z b) z λ a E=>cs m (λ i m=>?_) λ i m=>?_
      ·refine pk 6 E (kc' (kc 51 z i) 47 z b) z λ a E=>nt<|wR<|o1 E z<|have H:=H.drop 0;?_
       cases m
       exact ⟨z,H.reads j⟩
      ·refine pk 1 E (kc 51 z i) z λ a E=>gl 51 E H 0 i U9 z λ a E=>pk 4 E (kc' (kc 51 z i) 47 z b) z λ a E=>nt<|wR<|o1 E z<|have H:=H.drop 0;?_
       cases m
       exact ⟨z,H.reads j⟩
     ·refine pk 10 E (kc 47 z b) z λ a E=>nt<|wR<|o1 E z<|have H:=H.drop 0;?_
      cases m
      exact ⟨z,H.reads j⟩
    ·refine pk 15 E (kc 42 z g) z λ a E=>nt<|wR<|o1 E z<|have H:=H.drop 0;?_
     cases m
     exact ⟨z,H.reads j⟩
   ·refine pk 20 E (kc 37 z f) z λ a E=>nt<|wR<|o1 E z<|have H:=H.drop 0;?_
    cases m
    exact ⟨z,H.reads j⟩
  ·refine pk 26 E (kc 31 z e) z λ a E=>nt<|wR<|o1 E z<|have H:=H.drop 0;?_
   cases m
   exact ⟨z,H.reads j⟩

def r6(x1:aH):Option BY:=
  some (x1.Path)
theorem Dn{x1:aH}(H:Sep w (Fo) rs){r:BY}(m:r6 x1=some r) :
    Cf 86 [.agg (mN x1).toArray] w λ v w'=>.string r=v/\Sep w' (Fo) (rs):=by
 unfold r6 at m
 refine ent func86 z ntmps86 z z λ a E=>sq<|bx E H z λ b w a H E=>pr 1 E z λ a E=>xp 1 E z λ a E=>lb2 E H 0 U9 z λ a E=>pn 1 E z λ a E=>wR<|o1 E z<|have H:=H.drop 0;?_
 cases m
 exact ⟨z,H.reads Y0⟩

def nV(rec_1:Int->Option Bool)(b:Int)(c:Bool):Option Bool:=
  if c=true then (some (false)) else (rec_1 (IntKind.i64.wrap (b+1)))
def fR(c:List aH):Nat->Int->Option Bool
  | 0,_=>none
  | d+1,b=>
    if (decide (b < (c.length:Int)))=true then (if (decide (b > 0))=true then ((idx c (IntKind.i64.wrap (b - 1))).bind λ e=>(idx c b).bind λ f=>(r6 e).bind λ g=>(r6 f).bind λ i=>nV (fR c d) b (!(sLt g i))) else (nV (fR c d) b false)) else (some (true))
def vD(b:List aH):Option Bool:=
  fR b (((b.length:Int) - 0:Int).toNat+1) 0
theorem Cu{l:VL}{f:List aH}(H:Sep w (Fo) rs)(n:rSl aB l f ∈ rs){r:Bool}(m:vD f=some r) :
    Cf 85 [l,.func (.func 86) #[] #[]] w λ v w'=>.bool r=v/\Sep w' (Fo) (rs):=by
 unfold vD at m
 refine ent func85 z ntmps85 z z λ a E=>sq<|pn 1 E z λ a E=>wS<|sp 1 E z λ a E=>lS E H n U22 z λ a E=>pr 1 E z λ a E=>nt<|wB<|bG (λ g a w=>∃ j,Jn 30 a w [(0,l),(1,.func (.func 86) #[] #[]),(7,.int .i64 (f.length:Int)),(8,.int .i64 j)] (Fo) rs (fR f g j=some r)) (((f.length:Int) - 0:Int).toNat+1) ?_ ?_
 ·exact ⟨_,_,E.to z,H,Y0,m⟩
 ·clear E H m
  rintro g a w ⟨j,C,E,H,i,m⟩
  cases g with
  | zero=>exact (bE m z).elim
  | succ g=>
   unfold fR at m
   refine sq<|pn 1 E z λ a E=>wS<|wif E m z (λ m=>?_) λ m=>?_
   ·refine wK<|aA<|wS<|wB<|sq<|pn 2 E z λ a E=>aJ (λ a w=>∃ p,Jn 30 a w [(0,l),(1,.func (.func 86) #[] #[]),(7,.int .i64 (f.length:Int)),(8,.int .i64 j),(28,.bool p)] (Fo) rs (nV (fR f g) j p=some r)) ?_ ?_
    ·obtain ⟨D,H⟩:=H.raw (i _ n)
     refine dw [(0,0),(1,0),(2,0),(3,0),(4,0),(5,0),(6,0),(7,0),(8,0),(10,0),(11,0),(12,0),(13,0),(14,0),(9,1),(15,1),(16,0),(17,0)] [] [0] H (by kernel_rfl) (λ _ _ _ h=>False.elim h.2) λ w W0 hI H=>fn 3 E z λ a E=>cs m (λ b m=>?_) λ b m=>?_
     ·refine fk 4 E (kc 13 z b) z λ a E=>bd m λ c q m=>?_
      obtain ⟨q14,F,s,t⟩:=fW (P:=Tryz.prog) (k:=.i64) hI (fV (.head _)) U22 hP q
      refine cU E z (ws' (d:=13) E z z z z b) z z (λ w hW=>iD E z z z (s w)) λ a E=>cU E z (ws' (d:=13) E z z z z b) z z (λ w hW=>sI E z z (Ha (cs:=[.string c.Path,.string c.Data,.int .i64 c.Version,.int .i64 c.Turn,.int .i64 c.Owner]) (DR.ir (Jc t)) (λ _ _ _ h=>F2 h) D5 z hP w hW)) λ a E=>fk 3 E (kc 13 z b) z λ a E=>bd m λ e u m=>?_
      obtain ⟨q20,G,x,y⟩:=fW (P:=Tryz.prog) (k:=.i64) hI (fV (.head _)) U22 hP u
      refine cU E z (ws' (d:=13) E z z z z b) z z (λ w hW=>iD E z z z (x w)) λ a E=>cU E z (ws' (d:=13) E z z z z b) z z (λ w hW=>sI E z z (Ha (cs:=[.string e.Path,.string e.Data,.int .i64 e.Version,.int .i64 e.Turn,.int .i64 e.Owner]) (DR.ir (Jc y)) (λ _ _ _ h=>F2 h) D5 z hP w hW)) λ a E=>bQ z<|bd m λ I A m=>bK E (ws' (d:=13) E z z z z b) z z (bN E z z z ((cf_ 86) _)) (Dn H A)<|?_
      rintro _ w ⟨rfl,H⟩ a E
      refine nt<|⟨⟨_,_,H,(bH),(aD m0 (bO))⟩,bQ z<|bd m λ J B m=>bK E (ws' (d:=13) E z z z z b) z z (bN E z z z ((cf_ 86) _)) (Dn H B)<|?_⟩
      rintro _ w ⟨rfl,H⟩ a E
      refine nt<|⟨⟨_,_,H,(bH),(aD m0 (bO))⟩,fk 2 E (kc 13 z b) z λ a E=>bB<|?_⟩
      clear hI
      exact aA<|⟨_,_,E.to z,H,(Y1 i),m⟩
     ·refine fk 11 E (kc 13 z b) z λ a E=>bQ z<|pk 1 E (kc 13 z b) z λ a E=>nt<|⟨⟨_,_,H,(bH),(aD m0 (bO))⟩,bQ z<|pk 1 E (kc 13 z b) z λ a E=>nt<|⟨⟨_,_,H,(bH),(aD m0 (bO))⟩,fk 2 E (kc 13 z b) z λ a E=>bB<|?_⟩⟩
      clear hI
      exact aA<|⟨_,_,E.to z,H,(Y1 i),m⟩
    ·clear E H m
     rintro a w ⟨p,K,E,H,o,m⟩
     unfold nV at m
     refine wif E m z (λ m=>?_) λ m=>?_
     ·refine sq<|pn 1 E z λ a E=>wR<|bD<|aG<|aG<|bD<|aG<|o1 E z<|?_
      cases m
      exact ⟨z,H.reads o⟩
     ·exact wK<|bP<|aA<|wG<|pn 2 E z λ a E=>⟨g,nL g,_,_,E.to z,H,o,m⟩
   ·refine wX<|aT<|aT<|cL<|aA<|sq<|pn 1 E z λ a E=>wR<|o1 E z<|?_
    cases m
    exact ⟨z,H.reads i⟩

def r7(x1:aL):Option BY:=
  some (x1.Dir)
theorem Do{x1:aL}(H:Sep w (Fo) rs){r:BY}(m:r7 x1=some r) :
    Cf 88 [.agg #[.string x1.Dir,.int .i64 x1.Next]] w λ v w'=>.string r=v/\Sep w' (Fo) (rs):=by
 unfold r7 at m
 refine ent func88 z ntmps88 z z λ a E=>sq<|bx E H z λ b w a H E=>pr 1 E z λ a E=>xp 1 E z λ a E=>lb2 E H 0 U9 z λ a E=>pn 1 E z λ a E=>wR<|o1 E z<|have H:=H.drop 0;?_
 cases m
 exact ⟨z,H.reads Y0⟩

def nW(rec_1:Int->Option Bool)(b:Int)(c:Bool):Option Bool:=
  if c=true then (some (false)) else (rec_1 (IntKind.i64.wrap (b+1)))
def fS(c:List aL):Nat->Int->Option Bool
  | 0,_=>none
  | d+1,b=>
    if (decide (b < (c.length:Int)))=true then (if (decide (b > 0))=true then ((idx c (IntKind.i64.wrap (b - 1))).bind λ e=>(idx c b).bind λ f=>(r7 e).bind λ g=>(r7 f).bind λ i=>nW (fS c d) b (!(sLt g i))) else (nW (fS c d) b false)) else (some (true))
def vE(b:List aL):Option Bool:=
  fS b (((b.length:Int) - 0:Int).toNat+1) 0
theorem Cv{i:VL}{c:List aL}(H:Sep w (Fo) rs)(j:rSl aC i c ∈ rs){r:Bool}(m:vE c=some r) :
    Cf 87 [i,.func (.func 88) #[] #[]] w λ v w'=>.bool r=v/\Sep w' (Fo) (rs):=by
 unfold vE at m
 refine ent func87 z ntmps87 z z λ a E=>sq<|pn 1 E z λ a E=>wS<|sp 1 E z λ a E=>lS E H j U23 z λ a E=>pr 1 E z λ a E=>nt<|wB<|bG (λ e a w=>∃ g,Jn 30 a w [(0,i),(1,.func (.func 88) #[] #[]),(7,.int .i64 (c.length:Int)),(8,.int .i64 g)] (Fo) rs (fS c e g=some r)) (((c.length:Int) - 0:Int).toNat+1) ?_ ?_
 ·exact ⟨_,_,E.to z,H,Y0,m⟩
 ·clear E H m
  rintro e a w ⟨g,C,E,H,f,m⟩
  cases e with
  | zero=>exact (bE m z).elim
  | succ e=>
   unfold fS at m
   refine sq<|pn 1 E z λ a E=>wS<|wif E m z (λ m=>?_) λ m=>?_
   ·refine wK<|aA<|wS<|wB<|sq<|pn 2 E z λ a E=>aJ (λ a w=>∃ p,Jn 30 a w [(0,i),(1,.func (.func 88) #[] #[]),(7,.int .i64 (c.length:Int)),(8,.int .i64 g),(28,.bool p)] (Fo) rs (nW (fS c e) g p=some r)) ?_ ?_
    ·obtain ⟨D,H⟩:=H.raw (f _ j)
     refine dw [(0,0),(1,0),(2,0),(3,0),(4,0),(5,0),(6,0),(7,0),(8,0),(10,0),(11,0),(12,0),(13,0),(14,0),(9,1),(15,1),(16,0),(17,0)] [] [0] H (by kernel_rfl) (λ _ _ _ h=>False.elim h.2) λ w W0 hI H=>fn 3 E z λ a E=>cs m (λ b m=>?_) λ b m=>?_
     ·refine fk 4 E (kc 13 z b) z λ a E=>bd m λ l q m=>?_
      obtain ⟨q14,F,s,t⟩:=fW (P:=Tryz.prog) (k:=.i64) hI (fV (.head _)) U23 sJ q
      refine cU E z (ws' (d:=13) E z z z z b) z z (λ w hW=>iD E z z z (s w)) λ a E=>cU E z (ws' (d:=13) E z z z z b) z z (λ w hW=>sI E z z (Ha (cs:=[.string l.Dir,.int .i64 l.Next]) (DR.ir (Jc t)) (λ _ _ _ h=>P9 h) U89 z sJ w hW)) λ a E=>fk 3 E (kc 13 z b) z λ a E=>bd m λ n u m=>?_
      obtain ⟨q20,G,x,y⟩:=fW (P:=Tryz.prog) (k:=.i64) hI (fV (.head _)) U23 sJ u
      refine cU E z (ws' (d:=13) E z z z z b) z z (λ w hW=>iD E z z z (x w)) λ a E=>cU E z (ws' (d:=13) E z z z z b) z z (λ w hW=>sI E z z (Ha (cs:=[.string n.Dir,.int .i64 n.Next]) (DR.ir (Jc y)) (λ _ _ _ h=>P9 h) U89 z sJ w hW)) λ a E=>bQ z<|bd m λ I A m=>bK E (ws' (d:=13) E z z z z b) z z (bN E z z z ((cf_ 88) _)) (Do H A)<|?_
      rintro _ w ⟨rfl,H⟩ a E
      refine nt<|⟨⟨_,_,H,(bH),(aD m0 (bO))⟩,bQ z<|bd m λ J B m=>bK E (ws' (d:=13) E z z z z b) z z (bN E z z z ((cf_ 88) _)) (Do H B)<|?_⟩
      rintro _ w ⟨rfl,H⟩ a E
      refine nt<|⟨⟨_,_,H,(bH),(aD m0 (bO))⟩,fk 2 E (kc 13 z b) z λ a E=>bB<|?_⟩
      clear hI
      exact aA<|⟨_,_,E.to z,H,(Y1 f),m⟩
     ·refine fk 11 E (kc 13 z b) z λ a E=>bQ z<|pk 1 E (kc 13 z b) z λ a E=>nt<|⟨⟨_,_,H,(bH),(aD m0 (bO))⟩,bQ z<|pk 1 E (kc 13 z b) z λ a E=>nt<|⟨⟨_,_,H,(bH),(aD m0 (bO))⟩,fk 2 E (kc 13 z b) z λ a E=>bB<|?_⟩⟩
      clear hI
      exact aA<|⟨_,_,E.to z,H,(Y1 f),m⟩
    ·clear E H m
     rintro a w ⟨p,K,E,H,o,m⟩
     unfold nW at m
     refine wif E m z (λ m=>?_) λ m=>?_
     ·refine sq<|pn 1 E z λ a E=>wR<|bD<|aG<|aG<|bD<|aG<|o1 E z<|?_
      cases m
      exact ⟨z,H.reads o⟩
     ·exact wK<|bP<|aA<|wG<|pn 2 E z λ a E=>⟨e,nL e,_,_,E.to z,H,o,m⟩
   ·refine wX<|aT<|aT<|cL<|aA<|sq<|pn 1 E z λ a E=>wR<|o1 E z<|?_
    cases m
    exact ⟨z,H.reads f⟩

def r8(x1:aH):Option Bool:=
  if (x1.Turn != 0)=true then (some (true)) else ((yT x1.Path x1.Data x1.Version 0 x1.Owner).bind λ b=>some (!b))
theorem Qd{x1:aH}(H:Sep w (Fo) rs){r:Bool}(m:r8 x1=some r) :
    Cf 79 [.agg (mN x1).toArray] w λ v w'=>.bool r=v/\Sep w' (Fo) (rs):=by
 unfold r8 at m
 refine ent func79 z ntmps79 z z λ a E=>sq<|bx E H z λ d w a H E=>pr 1 E z λ a E=>xp 1 E z λ a E=>lb2 E H 0 U2 z λ a E=>pr 2 E z λ a E=>cs m (λ b m=>?_) λ b m=>?_
 ·refine pk 12 E (kc 6 z b) z λ a E=>nt<|wR<|o1 E z<|have H:=H.drop 0;?_
  cases m
  exact ⟨z,H.reads Y0⟩
 ·refine pk 1 E (kc 6 z b) z λ a E=>gl 6 E H 0 b U9 z λ a E=>pk 1 E (kc 6 z b) z λ a E=>gl 6 E H 0 b U9 z λ a E=>pk 1 E (kc 6 z b) z λ a E=>gl 6 E H 0 b U2 z λ a E=>pk 1 E (kc 6 z b) z λ a E=>gl 6 E H 0 b U2 z λ a E=>bd m λ e c m=>gc 6 E b z (cf_ 80) (Fy H c)<|?_
  rintro _ w ⟨rfl,H⟩ a E
  refine pk 3 E (kc 6 z b) z λ a E=>nt<|wR<|o1 E z<|have H:=H.drop 0;?_
  cases m
  exact ⟨z,H.reads Y0⟩

def dX(c:List aH):Nat->Int->Option Int
  | 0,_=>none
  | e+1,b=>
    if (decide (b < (c.length:Int)))=true then ((idx c b).bind λ f=>(r8 f).bind λ d=>if d=true then (some (b)) else (dX c e (IntKind.i64.wrap (b+1)))) else (some ((-1)))
def kM(b:List aH):Option Int:=
  dX b (((b.length:Int) - 0:Int).toNat+1) 0
theorem G4{f:VL}{d:List aH}(H:Sep w (Fo) rs)(e:rSl aB f d ∈ rs){r:Int}(m:kM d=some r) :
    Cf 142 [f,.func (.func 79) #[] #[]] w λ v w'=>.int .i64 r=v/\Sep w' (Fo) (rs):=by
 unfold kM at m
 refine ent func142 z ntmps142 z z λ a E=>sq<|pn 1 E z λ a E=>wS<|sp 1 E z λ a E=>lS E H e U22 z λ a E=>pr 1 E z λ a E=>nt<|wB<|bG (λ c a w=>∃ g,Jn 19 a w [(0,f),(1,.func (.func 79) #[] #[]),(7,.int .i64 (d.length:Int)),(8,.int .i64 g)] (Fo) rs (dX d c g=some r)) (((d.length:Int) - 0:Int).toNat+1) ?_ ?_
 ·exact ⟨_,_,E.to z,H,Y0,m⟩
 ·clear E H m
  rintro c a w ⟨g,k,E,H,b,m⟩
  cases c with
  | zero=>exact (bE m z).elim
  | succ c=>
   unfold dX at m
   refine sq<|pn 1 E z λ a E=>wS<|wif E m z (λ m=>?_) λ m=>?_
   ·refine wK<|aA<|wS<|wB<|sp 2 E z λ a E=>xp 3 E z λ a E=>bd m λ n j m=>dB E H (wn z) z z z z z (b _ e) U22 hP j λ q9 a H E=>ldf cN E H z z z z z m0 D5 z hP λ a E=>bd m λ l i m=>bK E (wn z) z z (bN E z z z ((cf_ 79) _)) (Qd H i)<|?_
    rintro _ w ⟨rfl,H⟩ a E
    refine nt<|wif E m z (λ m=>?_) λ m=>?_
    ·refine sq<|pn 2 E z λ a E=>wR<|bD<|aG<|aG<|bD<|aG<|o1 E z<|?_
     cases m
     exact ⟨z,H.reads (Y1 b)⟩
    ·exact wK<|bP<|aA<|wG<|pn 2 E z λ a E=>⟨c,nL c,_,_,E.to z,H,(Y1 b),m⟩
   ·refine wX<|aT<|aT<|cL<|aA<|sq<|pn 1 E z λ a E=>wR<|o1 E z<|?_
    cases m
    exact ⟨z,H.reads b⟩

def iT(b:List aH):Option Bool:=
  (kM b).bind λ c=>some (decide (c ≥ 0))
theorem B6{b:VL}{c:List aH}(H:Sep w (Fo) rs)(d:rSl aB b c ∈ rs){r:Bool}(m:iT c=some r) :
    Cf 78 [b,.func (.func 79) #[] #[]] w λ v w'=>.bool r=v/\Sep w' (Fo) (rs):=by
 unfold iT at m
 refine ent func78 z ntmps78 z z λ a E=>sp 1 E z λ a E=>xp 2 E z λ a E=>bd m λ f e m=>xk2 E z (cf_ 142) (G4 H d e) λ w H a E=>pn 2 E z λ a E=>wR<|o1 E z<|?_
 cases m
 exact ⟨z,H.reads Y0⟩

def r9(x1:aL):Option Bool:=
  (gH x1.Dir).bind λ b=>if (!b)=true then (some (true)) else ((wY x1.Next 1 10000).bind λ c=>some (!c))
theorem Qe{x1:aL}(H:Sep w (Fo) rs){r:Bool}(m:r9 x1=some r) :
    Cf 82 [.agg #[.string x1.Dir,.int .i64 x1.Next]] w λ v w'=>.bool r=v/\Sep w' (Fo) (rs):=by
 unfold r9 at m
 refine ent func82 z ntmps82 z z λ a E=>sq<|bx E H z λ e w a H E=>pr 1 E z λ a E=>xp 1 E z λ a E=>lb2 E H 0 U9 z λ a E=>bd m λ f c m=>xk2 E z (cf_ 83) (kK H c) λ w H a E=>pr 2 E z λ a E=>cs m (λ b m=>?_) λ b m=>?_
 ·refine pk 6 E (kc 7 z b) z λ a E=>nt<|wR<|o1 E z<|have H:=H.drop 0;?_
  cases m
  exact ⟨z,H.reads Y0⟩
 ·refine pk 1 E (kc 7 z b) z λ a E=>gl 7 E H 0 b U2 z λ a E=>bd m λ g d m=>gc 7 E b z (cf_ 84) (Z8 H d)<|?_
  rintro _ w ⟨rfl,H⟩ a E
  refine pk 3 E (kc 7 z b) z λ a E=>nt<|wR<|o1 E z<|have H:=H.drop 0;?_
  cases m
  exact ⟨z,H.reads Y0⟩

def dY(c:List aL):Nat->Int->Option Int
  | 0,_=>none
  | e+1,b=>
    if (decide (b < (c.length:Int)))=true then ((idx c b).bind λ f=>(r9 f).bind λ d=>if d=true then (some (b)) else (dY c e (IntKind.i64.wrap (b+1)))) else (some ((-1)))
def kN(b:List aL):Option Int:=
  dY b (((b.length:Int) - 0:Int).toNat+1) 0
theorem G5{f:VL}{d:List aL}(H:Sep w (Fo) rs)(e:rSl aC f d ∈ rs){r:Int}(m:kN d=some r) :
    Cf 143 [f,.func (.func 82) #[] #[]] w λ v w'=>.int .i64 r=v/\Sep w' (Fo) (rs):=by
 unfold kN at m
 refine ent func143 z ntmps143 z z λ a E=>sq<|pn 1 E z λ a E=>wS<|sp 1 E z λ a E=>lS E H e U23 z λ a E=>pr 1 E z λ a E=>nt<|wB<|bG (λ c a w=>∃ g,Jn 19 a w [(0,f),(1,.func (.func 82) #[] #[]),(7,.int .i64 (d.length:Int)),(8,.int .i64 g)] (Fo) rs (dY d c g=some r)) (((d.length:Int) - 0:Int).toNat+1) ?_ ?_
 ·exact ⟨_,_,E.to z,H,Y0,m⟩
 ·clear E H m
  rintro c a w ⟨g,k,E,H,b,m⟩
  cases c with
  | zero=>exact (bE m z).elim
  | succ c=>
   unfold dY at m
   refine sq<|pn 1 E z λ a E=>wS<|wif E m z (λ m=>?_) λ m=>?_
   ·refine wK<|aA<|wS<|wB<|sp 2 E z λ a E=>xp 3 E z λ a E=>bd m λ n j m=>dB E H (wn z) z z z z z (b _ e) U23 sJ j λ q9 a H E=>ldf dV E H z z z z z m0 U89 z sJ λ a E=>bd m λ l i m=>bK E (wn z) z z (bN E z z z ((cf_ 82) _)) (Qe H i)<|?_
    rintro _ w ⟨rfl,H⟩ a E
    refine nt<|wif E m z (λ m=>?_) λ m=>?_
    ·refine sq<|pn 2 E z λ a E=>wR<|bD<|aG<|aG<|bD<|aG<|o1 E z<|?_
     cases m
     exact ⟨z,H.reads (Y1 b)⟩
    ·exact wK<|bP<|aA<|wG<|pn 2 E z λ a E=>⟨c,nL c,_,_,E.to z,H,(Y1 b),m⟩
   ·refine wX<|aT<|aT<|cL<|aA<|sq<|pn 1 E z λ a E=>wR<|o1 E z<|?_
    cases m
    exact ⟨z,H.reads b⟩

def iU(b:List aL):Option Bool:=
  (kN b).bind λ c=>some (decide (c ≥ 0))
theorem B7{b:VL}{c:List aL}(H:Sep w (Fo) rs)(d:rSl aC b c ∈ rs){r:Bool}(m:iU c=some r) :
    Cf 81 [b,.func (.func 82) #[] #[]] w λ v w'=>.bool r=v/\Sep w' (Fo) (rs):=by
 unfold iU at m
 refine ent func81 z ntmps81 z z λ a E=>sp 1 E z λ a E=>xp 2 E z λ a E=>bd m λ f e m=>xk2 E z (cf_ 143) (G5 H d e) λ w H a E=>pn 2 E z λ a E=>wR<|o1 E z<|?_
 cases m
 exact ⟨z,H.reads Y0⟩

def sQ(x1:aR):Option Bool:=
  (iT x1.Nodes).bind λ d=>(iU x1.Turns).bind λ e=>if (!d)=true then (if (!e)=true then ((vD x1.Nodes).bind λ b=>if b=true then ((vE x1.Turns).bind λ c=>some (c)) else (some (false))) else (some (false))) else (some (false))
theorem Q8{x1:aR}{k l:VL}(H:Sep w (Fo) rs)(e:rSl aB k x1.Nodes ∈ rs)(f:rSl aC l x1.Turns ∈ rs){r:Bool}(m:sQ x1=some r) :
    Cf 37 [.agg #[k,l]] w λ v w'=>.bool r=v/\Sep w' (Fo) (rs):=by
 unfold sQ at m
 refine ent func37 z ntmps37 z z λ a E=>sq<|bx E H z λ q w a H E=>pr 1 E z λ a E=>xp 1 E z λ a E=>lb2 E H 0 U22 z λ a E=>bd m λ s n m=>xk2 E z (cf_ 78) (B6 H e n) λ w H a E=>pr 1 E z λ a E=>xp 1 E z λ a E=>lb2 E H 0 U23 z λ a E=>bd m λ t g m=>xk2 E z (cf_ 81) (B7 H f g) λ w H a E=>pr 1 E z λ a E=>xp 3 E z λ a E=>cs m (λ d m=>?_) λ d m=>?_
 ·refine pk 4 E (kc 13 z d) z λ a E=>cs m (λ b m=>?_) λ b m=>?_
  ·refine pk 1 E (kc 17 z b) z λ a E=>gl 17 E H 0 b U22 z λ a E=>bd m λ o i m=>gc 17 E b z (cf_ 85) (Cu H e i)<|?_
   rintro _ w ⟨rfl,H⟩ a E
   refine pk 2 E (kc 17 z b) z λ a E=>cs m (λ c m=>?_) λ c m=>?_
   ·refine pk 1 E (kc 22 z c) z λ a E=>gl 22 E H 0 c U23 z λ a E=>bd m λ p j m=>gc 22 E c z (cf_ 87) (Cv H f j)<|?_
    rintro _ w ⟨rfl,H⟩ a E
    refine pk 2 E (kc 22 z c) z λ a E=>nt<|wR<|o1 E z<|have H:=H.drop 0;?_
    cases m
    exact ⟨z,H.reads Y0⟩
   ·refine pk 5 E (kc 22 z c) z λ a E=>nt<|wR<|o1 E z<|have H:=H.drop 0;?_
    cases m
    exact ⟨z,H.reads Y0⟩
  ·refine pk 10 E (kc 17 z b) z λ a E=>nt<|wR<|o1 E z<|have H:=H.drop 0;?_
   cases m
   exact ⟨z,H.reads Y0⟩
 ·refine pk 14 E (kc 13 z d) z λ a E=>nt<|wR<|o1 E z<|have H:=H.drop 0;?_
  cases m
  exact ⟨z,H.reads Y0⟩

def iB(b:Int):Option Int:=
  some (b)
theorem rP{e:Nat}{b:Int}{c d f g i j k:VL}(H:Sep w (Blk e 185 [c,d,f,g,i,j,k]::Fo) rs){r:Int}(m:iB b=some r) :
    Cf 203 [pt e 0,.int .i64 b] w λ v w'=>.tuple #[]=v/\Sep w' (Blk e 185 [c,d,.int .i64 r,.string (ByteArray.mk #[]),.string (ByteArray.mk #[]),.int .i64 0,nS]::Fo) (rs):=by
 unfold iB at m
 refine ent func203 z ntmps203 z z λ a E=>wG<|pr 2 E z λ a E=>sv2 E z (cH E z (E.evs z) (v:=.agg #[.int .i64 b,.string (ByteArray.mk #[]),.string (ByteArray.mk #[]),.int .i64 0,nS]) (by kernel_rfl)) λ a E=>pr 2 E z λ a E=>ss 0 E H z V2 z λ w H=>wN<|wV E z<|?_
 cases m
 exact ⟨z,H.reads Y0⟩

def rQ(b:BY)(c:BY):Option Int:=
  some (Extern.BytealgCompare.cmp b c)
theorem O2{b c:BY}(H:Sep w (Fo) rs){r:Int}(m:rQ b c=some r) :
    Cf 190 [.string b,.string c] w λ v w'=>.int .i64 r=v/\Sep w' (Fo) (rs):=by
 unfold rQ at m
 refine ent func190 z ntmps190 z z λ a E=>sp 1 E z λ a E=>xp 2 E z λ a E=>sv2 E z (Jd E z z (AY _ _ _)) λ a E=>pn 1 E z λ a E=>wR<|o1 E z<|?_
 cases m
 exact ⟨z,H.reads Y0⟩

def qI(b:BY)(c:BY):Option Int:=
  (rQ b c).bind λ d=>some (d)
theorem xB{b c:BY}(H:Sep w (Fo) rs){r:Int}(m:qI b c=some r) :
    Cf 113 [.string b,.string c] w λ v w'=>.int .i64 r=v/\Sep w' (Fo) (rs):=by
 unfold qI at m
 refine ent func113 z ntmps113 z z λ a E=>sp 1 E z λ a E=>xp 2 E z λ a E=>bd m λ e d m=>xk2 E z (cf_ 190) (O2 H d) λ w H a E=>pn 1 E z λ a E=>wR<|o1 E z<|?_
 cases m
 exact ⟨z,H.reads Y0⟩

def tZ(x1:aH)(b:BY):Option Int:=
  (qI x1.Path b).bind λ c=>some (c)
theorem R8{x1:aH}{b:BY}(H:Sep w (Fo) rs){r:Int}(m:tZ x1 b=some r) :
    Cf 280 [.agg (mN x1).toArray,.string b] w λ v w'=>.int .i64 r=v/\Sep w' (Fo) (rs):=by
 unfold tZ at m
 refine ent func280 z ntmps280 z z λ a E=>sq<|bx E H z λ d w a H E=>pr 1 E z λ a E=>xp 1 E z λ a E=>lb2 E H 0 U9 z λ a E=>pr 1 E z λ a E=>bd m λ e c m=>xk2 E z (cf_ 113) (xB H c) λ w H a E=>pn 1 E z λ a E=>wR<|o1 E z<|have H:=H.drop 0;?_
 cases m
 exact ⟨z,H.reads Y0⟩

def cB(c:List aH)(e:BY):Nat->Int->Int->Option xM
  | 0,_,_=>none
  | f+1,b,d=>
    if (decide (b < d))=true then ((idx c (IntKind.i64.wrap (tM .u64 (IntKind.u64.wrap (IntKind.i64.wrap (b+d))) 1))).bind λ k=>(tZ k e).bind λ g=>if (decide (g < 0))=true then (cB c e f (IntKind.i64.wrap ((IntKind.i64.wrap (tM .u64 (IntKind.u64.wrap (IntKind.i64.wrap (b+d))) 1))+1)) d) else (cB c e f b (IntKind.i64.wrap (tM .u64 (IntKind.u64.wrap (IntKind.i64.wrap (b+d))) 1)))) else (if (decide (b < (c.length:Int)))=true then ((idx c b).bind λ i=>(tZ i e).bind λ j=>some (b,j == 0)) else (some (b,false)))
def fT(b:List aH)(c:BY):Option xM:=
  cB b c (((b.length:Int) - 0:Int).toNat+1) 0 (b.length:Int)
theorem xO{k:VL}{f:List aH}{q:BY}(H:Sep w (Row 107 aB k f::Fo) rs){r:Int×Bool}(m:fT f q=some r) :
    Cf 279 [k,.string q,.func (.func 280) #[] #[]] w λ v w'=>.tuple #[.int .i64 r.1,.bool r.2]=v/\Sep w' (Row 107 aB k f::Fo) (rs):=by
 unfold fT at m
 refine ent func279 z ntmps279 z z λ a E=>sp 2 E z λ a E=>xp 1 E z λ a E=>sv2 E z (mV (i:=0) E H z z z U22) λ a E=>pr 1 E z λ a E=>xp 3 E z λ a E=>nt<|wS<|wB<|bG (λ c a w=>∃ s t,Jn 49 a w [(0,k),(1,.string q),(2,.func (.func 280) #[] #[]),(8,.int .i64 (f.length:Int)),(9,.int .i64 s),(10,.int .i64 t)] (Row 107 aB k f::Fo) rs (cB f q c s t=some r)) (((f.length:Int) - 0:Int).toNat+1) ?_ ?_
 ·exact X3 ⟨E.to z,H,Y0,m⟩
 ·clear E H m
  rintro c a w ⟨s,t,y,E,H,j,m⟩
  cases c with
  | zero=>exact (bE m z).elim
  | succ c=>
   unfold cB at m
   refine wS<|sq<|pn 3 E z λ a E=>wif E m z (λ m=>?_) λ m=>?_
   ·refine wK<|aA<|wB<|sp 4 E z λ a E=>sv2 E z (Eg E z z z (by decide)) λ a E=>pr 2 E z λ a E=>xp 3 E z λ a E=>bd m λ l n m=>?_
    obtain ⟨A,B,o⟩:=H.rowformNE (i:=0) z n
    refine sv2 E z (dG (d:=aB) E o z z z z U22 hP n) λ a E=>sv2 E z (kH (i:=0) E H cN o z z z n (us:=[.string l.Path,.string l.Data,.int .i64 l.Version,.int .i64 l.Turn,.int .i64 l.Owner]) z D5 z hP) λ a E=>pr 1 E z λ a E=>bd m λ C u m=>bK E (wn z) z z (bN E z z z ((cf_ 280) _)) (R8 H u)<|?_
    rintro _ w ⟨rfl,H⟩ a E
    refine pn 1 E z λ a E=>wif E m z (λ m=>?_) λ m=>?_
    ·exact wG<|pr 3 E z λ a E=>wN<|bP<|aA<|⟨c,nL c,X3 ⟨E.to z,H,j,m⟩⟩
    ·exact wG<|pr 2 E z λ a E=>wN<|bP<|aA<|⟨c,nL c,X3 ⟨E.to z,H,j,m⟩⟩
   ·refine wX<|aT<|aT<|cL<|aA<|sp 5 E z λ a E=>cs m (λ b m=>?_) λ b m=>?_
    ·refine pk 3 E (kc 39 z b) z λ a E=>bd m λ e g m=>?_
     obtain ⟨D,F,p⟩:=H.rowformNE (i:=0) z g
     refine gv 39 E b z (dG (d:=aB) E p z z z z U22 hP g) λ a E=>gv 39 E b z (kH (i:=0) E H cN p z z z g (us:=[.string e.Path,.string e.Data,.int .i64 e.Version,.int .i64 e.Turn,.int .i64 e.Owner]) z D5 z hP) λ a E=>pk 1 E (kc 39 z b) z λ a E=>bd m λ G x m=>bK E (ws' (d:=39) E z z z z b) z z (bN E z z z ((cf_ 280) _)) (R8 H x)<|?_
     rintro _ w ⟨rfl,H⟩ a E
     refine pk 4 E (kc 39 z b) z λ a E=>nt<|wR<|iH E z z z<|?_
     cases m
     exact ⟨z,H.reads j⟩
    ·refine pk 11 E (kc 39 z b) z λ a E=>nt<|wR<|iH E z z z<|?_
     cases m
     exact ⟨z,H.reads j⟩

def nO(d:List aH)(c:BY):Option xM:=
  (fT d c).bind λ b=>some (b.1,b.2)
theorem L4{k:Nat}{b c d e f g i:VL}{l:List aH}{j:BY}(H:Sep w (Blk k 185 [b,c,d,e,f,g,i]::Row 107 aB b l::Fo) rs){r:Int×Bool}(m:nO l j=some r) :
    Cf 209 [pt k 0,.string j] w λ v w'=>.tuple #[.int .i64 r.1,.bool r.2]=v/\Sep w' (Blk k 185 [b,c,d,e,f,g,i]::Row 107 aB b l::Fo) (rs):=by
 unfold nO at m
 refine ent func209 z ntmps209 z z λ a E=>sp 2 E z λ a E=>xp 4 E z λ a E=>lb2 E H 0 U22 z λ a E=>pr 1 E z λ a E=>have H:=H.frs [0,1] z;bd m λ o n m=>xk2 E z (cf_ 279) (xO H n) λ w H a E=>pn 4 E z λ a E=>wR<|iH E z z z<|have H:=H.frs [0,1] z;?_
 cases m
 exact ⟨z,H.reads Y0⟩

def uA(x20:Int):Option Sv:=
  some ((-1),x20,(ByteArray.mk #[]),(ByteArray.mk #[]),0,[])
def qO(f:List aH)(b:Int×Bool)(g:Int)(i:BY)(j:BY)(k:Int)(c:List BY)(d:Bool):Option Sv:=
  if d=true then ((iB 63).bind λ e=>uA e) else ((idx f b.1).bind λ l=>some (b.1,g,i,j,k,c))
def qP(d:List aH)(b:Int×Bool)(f:Int)(g:BY)(i:BY)(j:Int)(c:List BY)(e:bF)(k:Bool):Option Sv:=
  if (!b.2)=true then ((iB 62).bind λ l=>uA l) else (if k=true then (if (decide (e.Version ≥ 0))=true then ((idx d b.1).bind λ m=>qO d b f g i j c (e.Version != m.Version)) else (qO d b f g i j c false)) else (qO d b f g i j c false))
def jB(e:List aH)(f:Int)(g:BY)(i:BY)(j:Int)(c:List BY)(b:bF):Option Sv:=
  (nO e b.Path).bind λ d=>if (b.Kind == 3)=true then (qP e d f g i j c b true) else (if (b.Kind == 5)=true then (qP e d f g i j c b true) else (qP e d f g i j c b (b.Kind == 6)))
theorem uP{o:Nat}{c j p:VL}{q:List aH}{y A:Int}{B C:BY}{l:List BY}{x:bF}(H:Sep w (Blk o 185 [c,p,.int .i64 y,.string B,.string C,.int .i64 A,j]::Row 107 aB c q::Row 9 kS j l::Fo) rs){r:Int×Int×BY×BY×Int×eH}(m:jB q y B C A l x=some r) :
    Cf 202 [pt o 0,.agg (bZ x).toArray] w λ v w'=>∃ P,orp c r.1 5=v/\Sep w' (Blk o 185 [c,p,.int .i64 r.2.1,.string r.2.2.1,.string r.2.2.2.1,.int .i64 r.2.2.2.2.1,P]::Row 107 aB c q::Row 9 kS P r.2.2.2.2.2::Fo) (rs):=by
 unfold jB at m
 refine ent func202 z ntmps202 z z λ a E=>sq<|bx E H z λ K w a H E=>pr 1 E z λ a E=>xp 2 E z λ a E=>lb2 E H 0 U9 z λ a E=>have H:=H.frs [3,1,3,3] z;bd m λ s L m=>xk2 E z (cf_ 209) (L4 H L) λ w H a E=>pn 5 E z λ a E=>aJ (λ a w=>∃ D,Jn 63 a w [(0,pt o 0),(3,pt K 0),(5,.int .i64 s.1),(6,.bool s.2),(7,.bool D)] (Blk o 185 [c,p,.int .i64 y,.string B,.string C,.int .i64 A,j]::Blk K 97 (bZ x)::Row 107 aB c q::Row 9 kS j l::Fo) rs (qP q s y B C A l x D=some r)) ?_ ?_
 ·refine wG<|pr 1 E z λ a E=>lb2 E H 2 U3 z λ a E=>pr 2 E z λ a E=>cs m (λ e m=>?_) λ e m=>?_
  ·exact pk 10 E (kc 18 z e) z λ a E=>nt<|have H:=H.frs [3,2,3,3] z;⟨_,_,E.to z,H,Y0,m⟩
  ·refine pk 1 E (kc 18 z e) z λ a E=>gl 18 E H 2 e U3 z λ a E=>pk 3 E (kc 18 z e) z λ a E=>cs m (λ f m=>?_) λ f m=>?_
   ·exact pk 5 E (kc 23 z f) z λ a E=>nt<|have H:=H.frs [3,2,3,3] z;⟨_,_,E.to z,H,Y0,m⟩
   ·exact pk 1 E (kc 23 z f) z λ a E=>gl 23 E H 2 f U3 z λ a E=>pk 3 E (kc 23 z f) z λ a E=>nt<|have H:=H.frs [3,2,3,3] z;⟨_,_,E.to z,H,Y0,m⟩
 ·clear E H m
  rintro a w ⟨D,Q,E,H,n,m⟩
  unfold qP at m
  refine aJ (λ a w=>∃ x20,Jn 63 a w [] (Blk o 185 [c,p,.int .i64 x20,.string (ByteArray.mk #[]),.string (ByteArray.mk #[]),.int .i64 0,nS]::Row 107 aB c q::Fo) rs (uA x20=some r)) ?_ ?_
  ·refine wB<|sq<|pn 3 E z λ a E=>wif E m z (λ m=>?_) λ m=>?_
   ·exact wG<|pr 1 E z λ a E=>bd m λ T M m=>xk2 E z (cf_ 203) (rP H M) λ w H a E=>wN<|bP<|aA<|have H:=H.drs [1,2];⟨_,_,E.nil,H,n,m⟩
   ·refine aJ (λ a w=>∃ F,Jn 63 a w [(0,pt o 0),(5,.int .i64 s.1),(40,.bool F)] (Blk o 185 [c,p,.int .i64 y,.string B,.string C,.int .i64 A,j]::Row 107 aB c q::Row 9 kS j l::Fo) rs (qO q s y B C A l F=some r)) ?_ ?_
    ·refine dz [0,0,0,0,0,0,0,0,0,0,0,0,0,0,0,0,0,0,0,0,1] [0,1,2] H λ w W0 hI H=>fn 2 E z λ a E=>cs m (λ g m=>?_) λ g m=>?_
     ·refine fk 1 E (kc 42 z g) z λ a E=>fb E z (ws' (d:=42) E z z z z g) z z z z mm1 z U2 z λ a E=>fk 3 E (kc 42 z g) z λ a E=>cs m (λ b m=>?_) λ b m=>?_
      ·refine fk 1 E (kc 47 z b) z λ a E=>fb E z (ws' (d:=47) E z z z z b) z z z z mm1 z U2 z λ a E=>fk 4 E (kc 47 z b) z λ a E=>fb E z (ws' (d:=47) E z z z z b) z z z z m0 z U22 z λ a E=>fk 1 E (kc 47 z b) z λ a E=>bd m λ U t m=>?_
       obtain ⟨V,W,G⟩:=H.rowformNE (i:=2) z t
       refine cU E z (ws' (d:=47) E z z z z b) z z (λ w hW=>dG (d:=aB) E G z z z z U22 hP t) λ a E=>fk 1 E (kc 47 z b) z λ a E=>cU E z (ws' (d:=47) E z z z z b) z z (λ w hW=>Ln (d:=aB) (k:=2) E cN G t mm2 z z z U2 z hW) λ a E=>fk 2 E (kc 47 z b) z λ a E=>bQ z<|pn 1 E z λ a E=>⟨sx H [0,1,2] z,bB<|?_⟩
       clear hI
       exact aA<|have H:=H.drop 1;⟨_,_,E.to z,H,n,m⟩
      ·refine fk 13 E (kc 47 z b) z λ a E=>bQ z<|pn 1 E z λ a E=>⟨sx H [0,1,2] z,bB<|?_⟩
       clear hI
       exact aA<|have H:=H.drop 1;⟨_,_,E.to z,H,n,m⟩
     ·refine fk 18 E (kc 42 z g) z λ a E=>bQ z<|pn 1 E z λ a E=>⟨sx H [0,1,2] z,bB<|?_⟩
      clear hI
      exact aA<|have H:=H.drop 1;⟨_,_,E.to z,H,n,m⟩
    ·clear E H m
     rintro a w ⟨F,R,E,H,I,m⟩
     unfold qO at m
     refine wif E m z (λ m=>?_) λ m=>?_
     ·exact wG<|pr 1 E z λ a E=>bd m λ X N m=>xk2 E z (cf_ 203) (rP H N) λ w H a E=>wN<|bP<|aA<|have H:=H.drop 2;⟨_,_,E.nil,H,I,m⟩
     ·refine sp 4 E z λ a E=>lb2 E H 0 U22 z λ a E=>pr 1 E z λ a E=>bd m λ Y u m=>?_
      obtain ⟨Z,b0,J⟩:=H.rowformNE (i:=1) z u
      refine sv2 E z (dG (d:=aB) E J z z z z U22 hP u) λ a E=>pn 1 E z λ a E=>wR<|bD<|aG<|o1 E z<|?_
      cases m
      exact ⟨_,Hc _ J u,H.reads I⟩
  ·clear E H m
   rintro a w ⟨x20,S,E,H,O,m⟩
   unfold uA at m
   refine sq<|pn 1 E z λ a E=>wR<|o1 E z<|have H:=H.nilRow 9 kS;have H:=H.frs [0,2,2] z;?_
   cases m
   exact ⟨_,z,H.reads O⟩

def vO(x1:aL)(b:BY):Option Int:=
  (qI x1.Dir b).bind λ c=>some (c)
theorem Y9{x1:aL}{b:BY}(H:Sep w (Fo) rs){r:Int}(m:vO x1 b=some r) :
    Cf 275 [.agg #[.string x1.Dir,.int .i64 x1.Next],.string b] w λ v w'=>.int .i64 r=v/\Sep w' (Fo) (rs):=by
 unfold vO at m
 refine ent func275 z ntmps275 z z λ a E=>sq<|bx E H z λ d w a H E=>pr 1 E z λ a E=>xp 1 E z λ a E=>lb2 E H 0 U9 z λ a E=>pr 1 E z λ a E=>bd m λ e c m=>xk2 E z (cf_ 113) (xB H c) λ w H a E=>pn 1 E z λ a E=>wR<|o1 E z<|have H:=H.drop 0;?_
 cases m
 exact ⟨z,H.reads Y0⟩

def cC(c:List aL)(e:BY):Nat->Int->Int->Option xM
  | 0,_,_=>none
  | f+1,b,d=>
    if (decide (b < d))=true then ((idx c (IntKind.i64.wrap (tM .u64 (IntKind.u64.wrap (IntKind.i64.wrap (b+d))) 1))).bind λ k=>(vO k e).bind λ g=>if (decide (g < 0))=true then (cC c e f (IntKind.i64.wrap ((IntKind.i64.wrap (tM .u64 (IntKind.u64.wrap (IntKind.i64.wrap (b+d))) 1))+1)) d) else (cC c e f b (IntKind.i64.wrap (tM .u64 (IntKind.u64.wrap (IntKind.i64.wrap (b+d))) 1)))) else (if (decide (b < (c.length:Int)))=true then ((idx c b).bind λ i=>(vO i e).bind λ j=>some (b,j == 0)) else (some (b,false)))
def cG(b:List aL)(c:BY):Option xM:=
  cC b c (((b.length:Int) - 0:Int).toNat+1) 0 (b.length:Int)
theorem iJ{j:VL}{e:List aL}{o:BY}(H:Sep w (Row 89 aC j e::Fo) rs){r:Int×Bool}(m:cG e o=some r) :
    Cf 274 [j,.string o,.func (.func 275) #[] #[]] w λ v w'=>.tuple #[.int .i64 r.1,.bool r.2]=v/\Sep w' (Row 89 aC j e::Fo) (rs):=by
 unfold cG at m
 refine ent func274 z ntmps274 z z λ a E=>sp 2 E z λ a E=>xp 1 E z λ a E=>sv2 E z (mV (i:=0) E H z z z U23) λ a E=>pr 1 E z λ a E=>xp 3 E z λ a E=>nt<|wS<|wB<|bG (λ c a w=>∃ q s,Jn 49 a w [(0,j),(1,.string o),(2,.func (.func 275) #[] #[]),(8,.int .i64 (e.length:Int)),(9,.int .i64 q),(10,.int .i64 s)] (Row 89 aC j e::Fo) rs (cC e o c q s=some r)) (((e.length:Int) - 0:Int).toNat+1) ?_ ?_
 ·exact X3 ⟨E.to z,H,Y0,m⟩
 ·clear E H m
  rintro c a w ⟨q,s,y,E,H,g,m⟩
  cases c with
  | zero=>exact (bE m z).elim
  | succ c=>
   unfold cC at m
   refine wS<|sq<|pn 3 E z λ a E=>wif E m z (λ m=>?_) λ m=>?_
   ·refine wK<|aA<|wB<|sp 4 E z λ a E=>sv2 E z (Eg E z z z (by decide)) λ a E=>pr 2 E z λ a E=>xp 3 E z λ a E=>bd m λ x k m=>?_
    obtain ⟨A,B,l⟩:=H.rowformNE (i:=0) z k
    refine sv2 E z (dG (d:=aC) E l z z z z U23 sJ k) λ a E=>sv2 E z (kH (i:=0) E H dV l z z z k (us:=[.string x.Dir,.int .i64 x.Next]) z U89 z sJ) λ a E=>pr 1 E z λ a E=>bd m λ C t m=>bK E (wn z) z z (bN E z z z ((cf_ 275) _)) (Y9 H t)<|?_
    rintro _ w ⟨rfl,H⟩ a E
    refine pn 1 E z λ a E=>wif E m z (λ m=>?_) λ m=>?_
    ·exact wG<|pr 3 E z λ a E=>wN<|bP<|aA<|⟨c,nL c,X3 ⟨E.to z,H,g,m⟩⟩
    ·exact wG<|pr 2 E z λ a E=>wN<|bP<|aA<|⟨c,nL c,X3 ⟨E.to z,H,g,m⟩⟩
   ·refine wX<|aT<|aT<|cL<|aA<|sp 5 E z λ a E=>cs m (λ b m=>?_) λ b m=>?_
    ·refine pk 3 E (kc 39 z b) z λ a E=>bd m λ p f m=>?_
     obtain ⟨D,F,n⟩:=H.rowformNE (i:=0) z f
     refine gv 39 E b z (dG (d:=aC) E n z z z z U23 sJ f) λ a E=>gv 39 E b z (kH (i:=0) E H dV n z z z f (us:=[.string p.Dir,.int .i64 p.Next]) z U89 z sJ) λ a E=>pk 1 E (kc 39 z b) z λ a E=>bd m λ G u m=>bK E (ws' (d:=39) E z z z z b) z z (bN E z z z ((cf_ 275) _)) (Y9 H u)<|?_
     rintro _ w ⟨rfl,H⟩ a E
     refine pk 4 E (kc 39 z b) z λ a E=>nt<|wR<|iH E z z z<|?_
     cases m
     exact ⟨z,H.reads g⟩
    ·refine pk 11 E (kc 39 z b) z λ a E=>nt<|wR<|iH E z z z<|?_
     cases m
     exact ⟨z,H.reads g⟩

def y6(x1:bF):Option (Int×BY×BY×BY×Int×Int×Bool):=
  some (x1.Kind,x1.Dir,x1.Path,x1.Data,x1.Version,x1.Owner,x1.Turns)
theorem Hw{x1:bF}(H:Sep w (Fo) rs){r:Int×BY×BY×BY×Int×Int×Bool}(m:y6 x1=some r) :
    Cf 213 [.agg (bZ x1).toArray] w λ v w'=>∃ b,.func (.func 283) #[] #[pt b 0]=v/\Sep w' (Blk b 97 [.int .i64 r.1,.string r.2.1,.string r.2.2.1,.string r.2.2.2.1,.int .i64 r.2.2.2.2.1,.int .i64 r.2.2.2.2.2.1,.bool r.2.2.2.2.2.2]::Fo) (rs):=by
 unfold y6 at m
 refine ent func213 z ntmps213 z z λ a E=>sq<|bx E H z λ c w a H E=>pr 1 E z λ a E=>nx<|sv2 E z (nT E z z z) λ a E=>pn 1 E z λ a E=>wR<|o1 E z<|?_
 cases m
 exact ⟨_,z,H.reads Y0⟩

def zS(x1:aH)(c:BY):Option Bool:=
  (tK x1.Path).bind λ b=>if b.2=true then (some (sEq b.1 c)) else (some (false))
theorem Cw{x1:aH}{j:Nat}{k:BY}{c d e f g i:VL}(H:Sep w (Blk j 97 [c,d,.string k,e,f,g,i]::Fo) rs){r:Bool}(m:zS x1 k=some r) :
    Cf 283 [.agg (mN x1).toArray,pt j 0] w λ v w'=>.bool r=v/\Sep w' (Blk j 97 [c,d,.string k,e,f,g,i]::Fo) (rs):=by
 unfold zS at m
 refine ent func283 z ntmps283 z z λ a E=>sq<|bx E H z λ n w a H E=>pr 1 E z λ a E=>xp 1 E z λ a E=>lb2 E H 0 U9 z λ a E=>bd m λ o l m=>xk2 E z (cf_ 180) (M4 H l) λ w H a E=>pr 5 E z λ a E=>xp 2 E z λ a E=>cs m (λ b m=>?_) λ b m=>?_
 ·refine pk 2 E (kc 13 z b) z λ a E=>gl 13 E H 1 b U9 z λ a E=>pk 3 E (kc 13 z b) z λ a E=>nt<|wR<|o1 E z<|have H:=H.drop 0;?_
  cases m
  exact ⟨z,H.reads Y0⟩
 ·refine pk 6 E (kc 13 z b) z λ a E=>nt<|wR<|o1 E z<|have H:=H.drop 0;?_
  cases m
  exact ⟨z,H.reads Y0⟩

def xC(e:List aH)(i:Int)(j:BY)(k:BY)(l:Int)(f:List BY)(c:bF):Option MQ:=
  (jB e i j k l f c).bind λ b=>if (decide (b.1 < 0))=true then (some (e,b.2.1,b.2.2.1,b.2.2.2.1,b.2.2.2.2.1,b.2.2.2.2.2)) else ((idx e b.1).bind λ d=>if (d.Version == 281474976710656)=true then ((iB 2).bind λ g=>some (e,g,(ByteArray.mk #[]),(ByteArray.mk #[]),0,[])) else (some ((e.set b.1.toNat ({ d with Data:=c.Data }:aH)).set b.1.toNat ({ ({ d with Data:=c.Data }:aH) with Version:=IntKind.i64.wrap ((({ d with Data:=c.Data }:aH).Version)+1) }:aH),b.2.1,b.2.2.1,b.2.2.2.1,({ ({ d with Data:=c.Data }:aH) with Version:=IntKind.i64.wrap ((({ d with Data:=c.Data }:aH).Version)+1) }:aH).Version,b.2.2.2.2.2)))
theorem Kk{o:Nat}{g j l:VL}{s:List aH}{t u:Int}{x y:BY}{n:List BY}{e:bF}(H:Sep w (Blk o 185 [g,l,.int .i64 t,.string x,.string y,.int .i64 u,j]::Row 107 aB g s::Row 9 kS j n::Fo) rs){r:eI×Int×BY×BY×Int×eH}(m:xC s t x y u n e=some r) :
    Cf 129 [pt o 0,.agg (bZ e).toArray] w λ v w'=>∃ A,.tuple #[]=v/\Sep w' (Blk o 185 [g,l,.int .i64 r.2.1,.string r.2.2.1,.string r.2.2.2.1,.int .i64 r.2.2.2.2.1,A]::Row 107 aB g r.1::Row 9 kS A r.2.2.2.2.2::Fo) (rs):=by
 unfold xC at m
 refine ent func129 z ntmps129 z z λ a E=>sq<|bx E H z λ B w a H E=>xp 1 E z λ a E=>ln 0 (bZ e) E H U97 z mP λ a E=>have H:=H.frs [0,3,3,3] z;bd m λ C p m=>xc2 E z (cf_ 202) (uP H p)<|?_
 rintro _ w ⟨D,rfl,H⟩ a E
 refine pn 1 E z λ a E=>wB<|sp 1 E z λ a E=>sv2 E z (KE E Oi Oj z z z) λ a E=>pn 1 E z λ a E=>wif E m z (λ m=>?_) λ m=>?_
 ·refine wK<|bP<|wV E z<|have H:=H.drop 3;?_
  cases m
  exact ⟨_,z,H.reads Y0⟩
 ·refine sp 1 E z λ a E=>bd m λ f b m=>?_
  obtain ⟨F,G,c⟩:=H.rowformNE (i:=1) z b
  rw [Hc 5 c b] at E
  refine pr 2 E z λ a E=>sv2 E z (uL (d:=aB) (i:=1) (k:=2) E H cN c z z z b z U2 z) λ a E=>pn 2 E z λ a E=>wif E m z (λ m=>?_) λ m=>?_
  ·refine wG<|pr 1 E z λ a E=>bd m λ I q m=>xk2 E z (cf_ 203) (rP H q) λ w H a E=>wN<|bP<|wV E z<|have H:=H.nilRow 9 kS;have H:=H.drs [3,3];have H:=H.frs [0,2,2] z;?_
   cases m
   exact ⟨_,z,H.reads Y0⟩
  ·refine sp 2 E z λ a E=>lb2 E H 3 U9 z λ a E=>pr 2 E z λ a E=>X1 (d:=aB) (i:=1) (k:=1) (z':=({ f with Data:=e.Data }:aH)) E H cN (wn z) z c z z z z z z b z z sz9 λ w H=>xp 3 E z λ a E=>sv2 E z (uL (d:=aB) (i:=1) (k:=2) E H cN c z z z (y9 b) z U2 z) λ a E=>pr 3 E z λ a E=>X1 (d:=aB) (i:=1) (k:=2) (z':=({ ({ f with Data:=e.Data }:aH) with Version:=IntKind.i64.wrap ((({ f with Data:=e.Data }:aH).Version)+1) }:aH)) E H cN (wn z) z c z z z z z z (y9 b) z z sz2 λ w H=>nt<|wG<|pr 4 E z λ a E=>sv2 E z (uL (d:=aB) (i:=1) (k:=2) E H cN c z z z (y9 (y9 b)) z U2 z) λ a E=>pr 3 E z λ a E=>ss 0 E H z sz2 z λ w H=>wN<|bP<|wV E z<|have H:=H.drop 3;?_
   cases m
   exact ⟨_,z,H.reads Y0⟩

def rF(b:Bool)(c:eH):Option (Bool×eH):=
  some (b,c)
def rG(x1:aH)(b:List BY)(c:Bool):Option (Bool×eH):=
  if c=true then ((zP x1.Path).bind λ d=>(ck (b.length+([d]:List BY).length <= LIM)).bind λ e=>rF c (b ++ ([d]:List BY))) else (rF c b)
def qQ(x1:aH)(e:Int)(c:BY)(b:List BY):Option (Bool×eH):=
  if (x1.Owner == e)=true then ((zS x1 c).bind λ d=>rG x1 b d) else (rG x1 b false)
theorem R9{x1:aH}{P j c g f:Nat}{Q:Int}{k:BY}{n o p q s t u y A B C D F G I J K L M:VL}{N:List BY}(H:Sep w (Blk P 97 [o,p,q,s,t,.int .i64 Q,u]::Blk j 121 [.func (.func 283) #[] #[pt c 0]]::Blk c 97 [y,A,.string k,B,C,D,F]::Blk g 182 [pt f 0]::Blk f 185 [G,I,J,K,L,M,n]::Row 9 kS n N::Fo) rs){r:Bool×eH}(m:qQ x1 Q k N=some r) :
    Cf 216 [.agg (mN x1).toArray,pt P 0,pt j 0,pt g 0] w λ v w'=>∃ Z,.bool r.1=v/\Sep w' (Blk P 97 [o,p,q,s,t,.int .i64 Q,u]::Blk j 121 [.func (.func 283) #[] #[pt c 0]]::Blk c 97 [y,A,.string k,B,C,D,F]::Blk g 182 [pt f 0]::Blk f 185 [G,I,J,K,L,M,Z]::Row 9 kS Z r.2::Fo) (rs):=by
 unfold qQ at m
 refine ent func216 z ntmps216 z z λ a E=>sq<|bx E H z λ U w a H E=>pn 1 E z λ a E=>aJ (λ a w=>∃ l,Jn 33 a w [(3,pt g 0),(4,pt U 0),(6,.bool l)] (Blk g 182 [pt f 0]::Blk U 107 (mN x1)::Blk P 97 [o,p,q,s,t,.int .i64 Q,u]::Blk j 121 [.func (.func 283) #[] #[pt c 0]]::Blk c 97 [y,A,.string k,B,C,D,F]::Blk f 185 [G,I,J,K,L,M,n]::Row 9 kS n N::Fo) rs (rG x1 N l=some r)) ?_ ?_
 ·refine wG<|pr 1 E z λ a E=>lb2 E H 0 U2 z λ a E=>pr 1 E z λ a E=>lb2 E H 1 U2 z λ a E=>pr 2 E z λ a E=>cs m (λ b m=>?_) λ b m=>?_
  ·refine gl 12 E H 2 b QD z λ a E=>gv 12 E b z (Aq (i:=0) (us:=(mN x1)) E H z z z z D5 z hP) λ a E=>have H:=H.frs [6,6,6,5,5,5,6] z;bd m λ b2 V m=>bK E (ws' (d:=12) E z z z z b) z z (bN E z z z ((cf_ 283) _)) (Cw H V)<|?_
   rintro _ w ⟨rfl,H⟩ a E
   exact pk 2 E (kc 12 z b) z λ a E=>nt<|have H:=H.frs [6,6,2,5,5,5,6] z;⟨_,_,E.to z,H,Y0,m⟩
  ·exact pk 5 E (kc 12 z b) z λ a E=>nt<|have H:=H.frs [6,6,5,5,5,5,6] z;⟨_,_,E.to z,H,Y0,m⟩
 ·clear E H m
  rintro a w ⟨l,b0,E,H,R,m⟩
  unfold rG at m
  refine aJ (λ a w=>∃ S T,Jn 33 a w [(6,.bool l)] (Blk P 97 [o,p,q,s,t,.int .i64 Q,u]::Blk j 121 [.func (.func 283) #[] #[pt c 0]]::Blk c 97 [y,A,.string k,B,C,D,F]::Blk g 182 [pt f 0]::Blk f 185 [G,I,J,K,L,M,S]::Row 9 kS S T::Fo) rs (rF l T=some r)) ?_ ?_
  ·refine sq<|pn 1 E z λ a E=>wif E m z (λ m=>?_) λ m=>?_
   ·refine dz [0,0,0,0,0,0,0,0,1,1,1,2,2,2,2] [0,1,5] H λ w W0 hI H=>fb2 E m0 Ys z λ a E=>fb2 E m0 Ys z λ a E=>fn 3 E z λ a E=>fb2 E mm2 U33 z λ a E=>fn 1 E z λ a E=>fb2 E mm1 U9 z λ a E=>bQ z<|bd m λ O W m=>xk2 E z (cf_ 207) (Cq H W) λ w H a E=>nt<|⟨sx H [0,1,5] z,bQ z<|xA (e:=9) (d:=kS) (cs:=[.string O]) (xs:=[O]) E H (wn z) z z z (E.evs z) (by kernel_rfl) z (λ ok hr=>(Rows.single (d:=kS) (cs:=[.string O]) (x:=O) z)) λ b3 w a H E=>nt<|⟨sx H [0,1,5] z,bQ z<|bk m λ X m=>fE (i:=6) E H (wn z) z z z z z z (nU m0) U33 Ua z X z λ b4 w a H E=>nt<|⟨sx H [0,1,5] z,bL z<|pn 1 E z λ a E=>bL z<|pn 1 E z λ a E=>bL z<|pn 1 E z λ a E=>bL z<|?_⟩⟩⟩
    obtain ⟨q63,b5,rfl⟩:=H.rowform (i:=6) z
    refine ss 5 E H z LU z λ w H=>nt<|bB<|?_
    clear hI
    exact aA<|have H:=H.drop 1;have H:=H.frs [5,5,2,5,5,5] z;X3 ⟨E.to z,H,(Y1 R),m⟩
   ·exact wK<|aA<|have H:=H.drop 1;have H:=H.frs [5,5,2,5,5,5] z;X3 ⟨E.to z,H,R,m⟩
  ·clear E H m
   rintro a w ⟨S,T,b1,E,H,Y,m⟩
   unfold rF at m
   refine sq<|pn 2 E z λ a E=>wR<|o1 E z<|?_
   cases m
   exact ⟨_,z,H.reads Y⟩

def cQ(f:List aH)(g:Int)(d:BY):Nat->Int->eH->Option (Int×eH)
  | 0,_,_=>none
  | j+1,b,e=>
    if (decide (b < (f.length:Int)))=true then ((idx f b).bind λ i=>(qQ i g d e).bind λ c=>if c.1=true then (some (b,c.2)) else (cQ f g d j (IntKind.i64.wrap (b+1)) c.2)) else (some ((-1),e))
def jI(b:List aH)(e:Int)(c:BY)(d:List BY):Option (Int×eH):=
  cQ b e c (((b.length:Int) - 0:Int).toNat+1) 0 d
theorem D8{e T q s t u x y A B C D F G I J K L M:VL}{l:List aH}{N f b g c:Nat}{O:Int}{j:BY}{U:List BY}(H:Sep w (Row 107 aB e l::Blk N 97 [q,s,t,u,x,.int .i64 O,y]::Blk f 121 [.func (.func 283) #[] #[pt b 0]]::Blk b 97 [A,B,.string j,C,D,F,G]::Blk g 182 [pt c 0]::Blk c 185 [e,I,J,K,L,M,T]::Row 9 kS T U::Fo) rs){r:Int×eH}(m:jI l O j U=some r) :
    Cf 142 [e,.func (.func 216) #[] #[pt N 0,pt f 0,pt g 0]] w λ v w'=>∃ W,.int .i64 r.1=v/\Sep w' (Blk N 97 [q,s,t,u,x,.int .i64 O,y]::Blk f 121 [.func (.func 283) #[] #[pt b 0]]::Blk b 97 [A,B,.string j,C,D,F,G]::Blk g 182 [pt c 0]::Blk c 185 [e,I,J,K,L,M,W]::Row 107 aB e l::Row 9 kS W r.2::Fo) (rs):=by
 unfold jI at m
 refine ent func142 z ntmps142 z z λ a E=>sq<|pn 1 E z λ a E=>wS<|sp 1 E z λ a E=>sv2 E z (mV (i:=0) E H z z z U22) λ a E=>pr 1 E z λ a E=>nt<|wB<|bG (λ p a w=>∃ P Q R,Jn 19 a w [(0,e),(1,.func (.func 216) #[] #[pt N 0,pt f 0,pt g 0]),(7,.int .i64 (l.length:Int)),(8,.int .i64 Q)] (Row 107 aB e l::Blk N 97 [q,s,t,u,x,.int .i64 O,y]::Blk f 121 [.func (.func 283) #[] #[pt b 0]]::Blk g 182 [pt c 0]::Blk b 97 [A,B,.string j,C,D,F,G]::Blk c 185 [e,I,J,K,L,M,P]::Row 9 kS P R::Fo) rs (cQ l O j p Q R=some r)) (((l.length:Int) - 0:Int).toNat+1) ?_ ?_
 ·exact have H:=H.frs [6,6,5,6,6,6,6] z;X4 ⟨E.to z,H,Y0,m⟩
 ·clear E H m
  rintro p a w ⟨P,Q,R,X,E,H,n,m⟩
  cases p with
  | zero=>exact (bE m z).elim
  | succ p=>
   unfold cQ at m
   refine sq<|pn 1 E z λ a E=>wS<|wif E m z (λ m=>?_) λ m=>?_
   ·refine wK<|aA<|wS<|wB<|sp 2 E z λ a E=>xp 3 E z λ a E=>bd m λ k o m=>?_
    obtain ⟨Y,Z,S⟩:=H.rowformNE (i:=0) z o
    refine sv2 E z (dG (d:=aB) E S z z z z U22 hP o) λ a E=>sv2 E z (kH (i:=0) E H cN S z z z o (us:=[.string k.Path,.string k.Data,.int .i64 k.Version,.int .i64 k.Turn,.int .i64 k.Owner]) z D5 z hP) λ a E=>have H:=H.frs [0,6,6,5,6,6,6] z;bd m λ b0 V m=>bK E (wn z) z z (bN E z z z ((cf_ 216) _)) (R9 H V)<|?_
    rintro _ w ⟨b1,rfl,H⟩ a E
    refine nt<|wif E m z (λ m=>?_) λ m=>?_
    ·refine sq<|pn 2 E z λ a E=>wR<|bD<|aG<|aG<|bD<|aG<|o1 E z<|have H:=H.frs [5,6,6,6,6,6,6] z;?_
     cases m
     exact ⟨_,z,H.reads n⟩
    ·exact wK<|bP<|aA<|wG<|pn 2 E z λ a E=>have H:=H.frs [5,5,4,5,5,5,6] z;⟨p,nL p,X4 ⟨E.to z,H,n,m⟩⟩
   ·refine wX<|aT<|aT<|cL<|aA<|sq<|pn 1 E z λ a E=>wR<|o1 E z<|have H:=H.frs [6,1,6,5,6,6,6] z;?_
    cases m
    exact ⟨_,z,H.reads n⟩

def gI(rec_1:eI->Int->Int->eH->Option Ol)(b:Int)(c:eI)(d:Int)(e:eH):Option Ol:=
  rec_1 c d (IntKind.i64.wrap (b+1)) e
def dE(j:Int)(e:BY):Nat->eI->Int->Int->eH->Option Ol
  | 0,_,_,_,_=>none
  | k+1,c,b,d,g=>
    if (decide (d < (c.length:Int)))=true then ((idx c d).bind λ i=>(qQ i j e g).bind λ f=>if (!f.1)=true then ((idx c b).bind λ l=>gI (dE j e k) d (c.set b.toNat i) (IntKind.i64.wrap (b+1)) f.2) else (gI (dE j e k) d c b f.2)) else ((ck (0 <= b/\b <= c.length)).bind λ m=>(ck (0 <= b/\b <= (c.take b.toNat ++ List.replicate (c.length - b.toNat) (⟨⟨#[]⟩,⟨#[]⟩,0,0,0⟩:aH)).length)).bind λ n=>some ((c.take b.toNat ++ List.replicate (c.length - b.toNat) (⟨⟨#[]⟩,⟨#[]⟩,0,0,0⟩:aH)).take b.toNat,g))
def jU(c:List aH)(e:Int)(d:BY)(f:List BY):Option Ol:=
  (jI c e d f).bind λ b=>if (b.1 == (-1))=true then (some (c,b.2)) else (dE e d (((c.length:Int) - (IntKind.i64.wrap (b.1+1)):Int).toNat+1) c b.1 (IntKind.i64.wrap (b.1+1)) b.2)
theorem F4{k b1 u x y A B C D F G I J K L M N O P:VL}{b3:List aH}{n f c g e:Nat}{o:Int}{j:BY}{b2:List BY}(H:Sep w (Row 107 aB k b3::Blk n 97 [u,x,y,A,B,.int .i64 o,C]::Blk f 121 [.func (.func 283) #[] #[pt c 0]]::Blk c 97 [D,F,.string j,G,I,J,K]::Blk g 182 [pt e 0]::Blk e 185 [k,L,M,N,O,P,b1]::Row 9 kS b1 b2::Fo) rs){r:eI×eH}(m:jU b3 o j b2=some r) :
    Cf 215 [k,.func (.func 216) #[] #[pt n 0,pt f 0,pt g 0]] w λ v w'=>∃ b8 b9,b8=v/\Sep w' (Row 107 aB b8 r.1::Blk n 97 [u,x,y,A,B,.int .i64 o,C]::Blk f 121 [.func (.func 283) #[] #[pt c 0]]::Blk c 97 [D,F,.string j,G,I,J,K]::Blk g 182 [pt e 0]::Blk e 185 [k,L,M,N,O,P,b9]::Row 9 kS b9 r.2::Fo) (rs):=by
 unfold jU at m
 refine ent func215 z ntmps215 z z λ a E=>sp 1 E z λ a E=>xp 2 E z λ a E=>bd m λ c0 b4 m=>xc2 E z (cf_ 142) (D8 H b4)<|?_
 rintro _ w ⟨c3,rfl,H⟩ a E
 refine pn 1 E z λ a E=>wS<|sq<|pn 2 E z λ a E=>wif E m z (λ m=>?_) λ m=>?_
 ·refine sq<|pn 2 E z λ a E=>wR<|aG<|o1 E z<|have H:=H.frs [6,5,5,5,5,5,6] z;?_
  cases m
  exact ⟨_,_,z,H.reads Y0⟩
 ·refine wK<|aA<|wS<|sq<|pn 3 E z λ a E=>wB<|bG (λ p a w=>∃ Q R S l T,Jn 42 a w [(0,k),(1,.func (.func 216) #[] #[pt n 0,pt f 0,pt g 0]),(5,.int .i64 S),(6,.int .i64 l)] (Row 107 aB k R::Blk n 97 [u,x,y,A,B,.int .i64 o,C]::Blk f 121 [.func (.func 283) #[] #[pt c 0]]::Blk g 182 [pt e 0]::Blk c 97 [D,F,.string j,G,I,J,K]::Blk e 185 [k,L,M,N,O,P,Q]::Row 9 kS Q T::Fo) rs (dE o j p R S l T=some r)) (((b3.length:Int) - (IntKind.i64.wrap (c0.1+1)):Int).toNat+1) ?_ ?_
  ·exact have H:=H.frs [6,5,4,5,5,5,6] z;X6 ⟨E.to z,H,Y0,m⟩
  ·clear E H m
   rintro p a w ⟨Q,R,S,l,T,c1,E,H,q,m⟩
   cases p with
   | zero=>exact (bE m z).elim
   | succ p=>
    unfold dE at m
    refine wS<|sp 2 E z λ a E=>sv2 E z (mV (i:=0) E H z z z U22) λ a E=>pn 1 E z λ a E=>wif E m z (λ m=>?_) λ m=>?_
    ·refine wK<|aA<|aJ (λ a w=>∃ U V W X,Jn 42 a w [(0,k),(1,.func (.func 216) #[] #[pt n 0,pt f 0,pt g 0]),(5,.int .i64 W),(6,.int .i64 l)] (Row 107 aB k V::Blk n 97 [u,x,y,A,B,.int .i64 o,C]::Blk f 121 [.func (.func 283) #[] #[pt c 0]]::Blk g 182 [pt e 0]::Blk c 97 [D,F,.string j,G,I,J,K]::Blk e 185 [k,L,M,N,O,P,U]::Row 9 kS U X::Fo) rs (gI (dE o j p) l V W X=some r)) ?_ ?_
     ·refine wB<|sp 2 E z λ a E=>bd m λ b s m=>?_
      obtain ⟨c4,c5,Y⟩:=H.rowformNE (i:=0) z s
      refine sv2 E z (dG (d:=aB) E Y z z z z U22 hP s) λ a E=>sv2 E z (kH (i:=0) E H cN Y z z z s (us:=[.string b.Path,.string b.Data,.int .i64 b.Version,.int .i64 b.Turn,.int .i64 b.Owner]) z D5 z hP) λ a E=>al2 E H z Yt λ c6 w a H E=>ss 0 E H z hP z λ w H=>xp 1 E z λ a E=>ln 0 (mN b) E H D5 z hP λ a E=>have H:=H.frs [1,1,7,7,6,7,7,7] z;bd m λ c7 b5 m=>bK E (wn z) z z (bN E z z z ((cf_ 216) _)) (R9 H b5)<|?_
      rintro _ w ⟨c8,rfl,H⟩ a E
      refine pn 1 E z λ a E=>wif E m z (λ m=>?_) λ m=>?_
      ·refine sp 2 E z λ a E=>ln 6 (mN b) E H D5 z hP λ a E=>bd m λ c9 t m=>?_
       obtain ⟨d0,d1,Z⟩:=H.rowformNE (i:=7) z t
       exact sv2 E z (dG (d:=aB) E Z z z z z U22 hP t) λ a E=>P8 (d:=aB) (i:=7) (us:=[.string b.Path,.string b.Data,.int .i64 b.Version,.int .i64 b.Turn,.int .i64 b.Owner]) (z':=b) E H cN (wn z) z Z z z z z z z z t hP λ w H=>nt<|wG<|pr 3 E z λ a E=>wN<|bP<|aA<|have H:=H.drop 6;have H:=H.frs [5,5,4,5,5,5,6] z;X5 ⟨E.to z,H,q,m⟩
      ·exact wK<|bP<|aA<|have H:=H.drop 6;have H:=H.frs [5,5,4,5,5,5,6] z;X5 ⟨E.to z,H,q,m⟩
     ·clear E H m
      rintro a w ⟨U,V,W,X,c2,E,H,b6,m⟩
      unfold gI at m
      exact wG<|pn 3 E z λ a E=>⟨p,nL p,X6 ⟨E.to z,H,b6,m⟩⟩
    ·refine wX<|aT<|aT<|cL<|aA<|sp 2 E z λ a E=>bk m λ b0 m=>sv2 E z (Ek (d:=aB) (i:=0) E H z z z z U22 hP b0) λ a E=>V9 (i:=0) (z0:=(⟨⟨#[]⟩,⟨#[]⟩,0,0,0⟩:aH)) E H cN (wn z) z z z U22 LV z z z b0 λ w H=>xp 2 E z λ a E=>bk m λ b7 m=>Bn (i:=0) E H cN (wn z) z z z z z z U22 hP b7 λ d2 a H E=>pn 1 E z λ a E=>wR<|o1 E z<|have H:=H.frs [6,6,5,6,6,6,6] z;?_
     cases m
     exact ⟨_,_,z,H.reads q⟩

def xD(f:List aH)(d:List BY)(b:bF):Option Ol:=
  (y6 b).bind λ e=>(jU f b.Owner e.2.2.1 d).bind λ c=>some (c.1,c.2)
theorem Kl{l:Nat}{p c d e f g j:VL}{q:List aH}{k:List BY}{b:bF}(H:Sep w (Blk l 185 [p,d,e,f,g,j,c]::Row 107 aB p q::Row 9 kS c k::Fo) rs){r:eI×eH}(m:xD q k b=some r) :
    Cf 134 [pt l 0,.agg (bZ b).toArray] w λ v w'=>∃ s t,.tuple #[]=v/\Sep w' (Blk l 185 [s,d,e,f,g,j,t]::Row 107 aB s r.1::Row 9 kS t r.2::Fo) (rs):=by
 unfold xD at m
 refine ent func134 z ntmps134 z z λ a E=>sq<|bx E H z λ u w a H E=>bx E H z λ x w a H E=>nx<|ln 0 (bZ b) E H U97 z mP λ a E=>bd m λ y n m=>xc2 E z (cf_ 213) (Hw H n)<|?_
 rintro _ w ⟨A,rfl,H⟩ a E
 refine al1 E H z z z z PH z λ B w a H E=>ss 0 E H z PI z λ w H=>nt<|dw [(6,0),(0,0),(1,1),(2,0),(3,0),(4,0),(5,1),(7,1),(8,2),(9,2),(10,2),(11,2)] [3] [] H (by kernel_rfl) (λ _ _ _ h=>False.elim h.2) λ w W0 hI H=>fv E z (λ w hW=>(nT E z z z)) λ a E=>fb2 E m0 Ys z λ a E=>bQ z<|lb2 E H 3 Ys z λ a E=>nt<|⟨sx H [3] z,fn 3 E z λ a E=>bQ z<|lb2 E H 4 U22 z λ a E=>nt<|⟨sx H [3] z,bQ z<|have H:=H.frs [6,5,5,4,4,5,6] z;bd m λ C o m=>xc2 E z (cf_ 215) (F4 H o)<|?_⟩⟩
 rintro _ w ⟨D,F,rfl,H⟩ a E
 refine nt<|⟨sx H [4] z,bL z<|pn 1 E z λ a E=>bL z<|pn 1 E z λ a E=>bL z<|pn 1 E z λ a E=>bL z<|?_⟩
 obtain ⟨q28,G,rfl⟩:=H.rowform (i:=0) z
 refine ss 5 E H z Pz z λ w H=>nt<|bB<|?_
 clear hI
 refine wV E z<|have H:=H.drs [1,1,1,1];have H:=H.frs [2,1,2] z;?_
 cases m
 exact ⟨_,_,z,H.reads Y0⟩

def sR(b:Int×Int×BY×BY×Int×eH)(c:Bool):Option Om:=
  if c=true then ((iB 65).bind λ d=>some (d,(ByteArray.mk #[]),(ByteArray.mk #[]),0,[])) else (some (b.2.1,b.2.2.1,b.2.2.2.1,b.2.2.2.2.1,b.2.2.2.2.2))
def xE(c:List aH)(g:Int)(i:BY)(j:BY)(k:Int)(d:List BY)(e:bF):Option Om:=
  (jB c g i j k d e).bind λ b=>if (decide (0 <= b.1))=true then ((idx c b.1).bind λ f=>sR b (f.Owner != 0)) else (sR b false)
theorem Km{g:Nat}{f s j:VL}{q:List aH}{A B:Int}{C D:BY}{t:List BY}{l:bF}(H:Sep w (Blk g 185 [f,j,.int .i64 A,.string C,.string D,.int .i64 B,s]::Row 107 aB f q::Row 9 kS s t::Fo) rs){r:Int×BY×BY×Int×eH}(m:xE q A C D B t l=some r) :
    Cf 125 [pt g 0,.agg (bZ l).toArray] w λ v w'=>∃ F,.tuple #[]=v/\Sep w' (Blk g 185 [f,j,.int .i64 r.1,.string r.2.1,.string r.2.2.1,.int .i64 r.2.2.2.1,F]::Row 107 aB f q::Row 9 kS F r.2.2.2.2::Fo) (rs):=by
 unfold xE at m
 refine ent func125 z ntmps125 z z λ a E=>sq<|bx E H z λ I w a H E=>xp 1 E z λ a E=>ln 0 (bZ l) E H U97 z mP λ a E=>have H:=H.frs [0,3,3,3] z;bd m λ c x m=>xc2 E z (cf_ 202) (uP H x)<|?_
 rintro _ w ⟨u,rfl,H⟩ a E
 refine pn 1 E z λ a E=>aJ (λ a w=>∃ n,Jn 19 a w [(0,pt g 0),(16,.bool n)] (Blk g 185 [f,j,.int .i64 c.2.1,.string c.2.2.1,.string c.2.2.2.1,.int .i64 c.2.2.2.2.1,u]::Row 107 aB f q::Row 9 kS u c.2.2.2.2.2::Fo) rs (sR c n=some r)) ?_ ?_
 ·refine wG<|pr 1 E z λ a E=>sv2 E z (Nj E Oi Oj z z z) λ a E=>pr 1 E z λ a E=>cs m (λ b m=>?_) λ b m=>?_
  ·refine pk 1 E (kc 10 z b) z λ a E=>bd m λ J e m=>?_
   obtain ⟨K,L,o⟩:=H.rowformNE (i:=1) z e
   rw [Hc 5 o e] at E
   exact pk 2 E (kc 10 z b) z λ a E=>gv 10 E b z (uL (d:=aB) (i:=1) (k:=4) E H cN o z z z e z U2 z) λ a E=>pk 2 E (kc 10 z b) z λ a E=>nt<|have H:=H.drop 3;⟨_,_,E.to z,H,Y0,m⟩
  ·exact pk 6 E (kc 10 z b) z λ a E=>nt<|have H:=H.drop 3;⟨_,_,E.to z,H,Y0,m⟩
 ·clear E H m
  rintro a w ⟨n,G,E,H,p,m⟩
  unfold sR at m
  refine wif E m z (λ m=>?_) λ m=>?_
  ·refine wG<|pr 1 E z λ a E=>bd m λ M y m=>xk2 E z (cf_ 203) (rP H y) λ w H a E=>wN<|wV E z<|have H:=H.nilRow 9 kS;have H:=H.drop 3;have H:=H.frs [0,2,2] z;?_
   cases m
   exact ⟨_,z,H.reads p⟩
  ·refine wK<|wV E z<|?_
   cases m
   exact ⟨_,z,H.reads p⟩

def zE(e:List aH)(f:Int)(g:BY)(i:BY)(j:Int)(c:List BY)(d:bF):Option Om:=
  (jB e f g i j c d).bind λ b=>some (b.2.1,b.2.2.1,b.2.2.2.1,b.2.2.2.2.1,b.2.2.2.2.2)
theorem Ou{g:Nat}{c d e:VL}{i:List aH}{k l:Int}{n o:BY}{f:List BY}{b:bF}(H:Sep w (Blk g 185 [c,e,.int .i64 k,.string n,.string o,.int .i64 l,d]::Row 107 aB c i::Row 9 kS d f::Fo) rs){r:Int×BY×BY×Int×eH}(m:zE i k n o l f b=some r) :
    Cf 132 [pt g 0,.agg (bZ b).toArray] w λ v w'=>∃ p,.tuple #[]=v/\Sep w' (Blk g 185 [c,e,.int .i64 r.1,.string r.2.1,.string r.2.2.1,.int .i64 r.2.2.2.1,p]::Row 107 aB c i::Row 9 kS p r.2.2.2.2::Fo) (rs):=by
 unfold zE at m
 refine ent func132 z ntmps132 z z λ a E=>sq<|bx E H z λ q w a H E=>nt<|wG<|pr 1 E z λ a E=>ln 0 (bZ b) E H U97 z mP λ a E=>have H:=H.frs [0,3,3,3] z;bd m λ s j m=>xc2 E z (cf_ 202) (uP H j)<|?_
 rintro _ w ⟨t,rfl,H⟩ a E
 refine wN<|wV E z<|have H:=H.drop 3;?_
 cases m
 exact ⟨_,z,H.reads Y0⟩

def yC(c:List aH)(g:Int)(i:BY)(j:BY)(k:Int)(d:List BY)(e:bF):Option Om:=
  (jB c g i j k d e).bind λ b=>if (decide (0 <= b.1))=true then ((idx c b.1).bind λ f=>some (b.2.1,b.2.2.1,b.2.2.2.1,f.Version,b.2.2.2.2.2)) else (some (b.2.1,b.2.2.1,b.2.2.2.1,b.2.2.2.2.1,b.2.2.2.2.2))
theorem Mm{n:Nat}{f g j:VL}{o:List aH}{q s:Int}{t u:BY}{l:List BY}{c:bF}(H:Sep w (Blk n 185 [f,j,.int .i64 q,.string t,.string u,.int .i64 s,g]::Row 107 aB f o::Row 9 kS g l::Fo) rs){r:Int×BY×BY×Int×eH}(m:yC o q t u s l c=some r) :
    Cf 130 [pt n 0,.agg (bZ c).toArray] w λ v w'=>∃ x,.tuple #[]=v/\Sep w' (Blk n 185 [f,j,.int .i64 r.1,.string r.2.1,.string r.2.2.1,.int .i64 r.2.2.2.1,x]::Row 107 aB f o::Row 9 kS x r.2.2.2.2::Fo) (rs):=by
 unfold yC at m
 refine ent func130 z ntmps130 z z λ a E=>sq<|bx E H z λ y w a H E=>xp 1 E z λ a E=>ln 0 (bZ c) E H U97 z mP λ a E=>have H:=H.frs [0,3,3,3] z;bd m λ A p m=>xc2 E z (cf_ 202) (uP H p)<|?_
 rintro _ w ⟨B,rfl,H⟩ a E
 refine pr 1 E z λ a E=>xp 1 E z λ a E=>sv2 E z (Nj E Oi Oj z z z) λ a E=>nt<|wif E m z (λ m=>?_) λ m=>?_
 ·refine wG<|pr 2 E z λ a E=>bd m λ C b m=>?_
  obtain ⟨D,F,e⟩:=H.rowformNE (i:=1) z b
  rw [Hc 5 e b] at E
  refine pr 2 E z λ a E=>sv2 E z (uL (d:=aB) (i:=1) (k:=2) E H cN e z z z b z U2 z) λ a E=>pr 3 E z λ a E=>ss 0 E H z sz2 z λ w H=>wN<|wV E z<|have H:=H.drop 3;?_
  cases m
  exact ⟨_,z,H.reads Y0⟩
 ·refine wK<|wV E z<|have H:=H.drop 3;?_
  cases m
  exact ⟨_,z,H.reads Y0⟩

def sS(rec_1:Int->eH->Option eH)(b:Int)(c:eH):Option eH:=
  rec_1 (IntKind.i64.wrap (b+1)) c
def kO(e:List aH)(d:Int×BY×BY×BY×Int×Int×Bool):Nat->Int->eH->Option eH
  | 0,_,_=>none
  | i+1,b,c=>
    if (decide (b < (e.length:Int)))=true then ((idx e b).bind λ f=>(zS f d.2.2.1).bind λ j=>if j=true then ((zP f.Path).bind λ g=>(ck (c.length+([g]:List BY).length <= LIM)).bind λ k=>sS (kO e d i) b (c ++ ([g]:List BY))) else (sS (kO e d i) b c)) else (some (c))
def xF(b:List aH)(c:List BY)(d:bF):Option eH:=
  (y6 d).bind λ e=>kO b e (((b.length:Int) - 0:Int).toNat+1) 0 c
theorem Ko{k:Nat}{c J p q s t u:VL}{f:List aH}{K:List BY}{B:bF}(H:Sep w (Blk k 185 [c,p,q,s,t,u,J]::Row 107 aB c f::Row 9 kS J K::Fo) rs){r:eH}(m:xF f K B=some r) :
    Cf 133 [pt k 0,.agg (bZ B).toArray] w λ v w'=>∃ Q,.tuple #[]=v/\Sep w' (Blk k 185 [c,p,q,s,t,u,Q]::Row 107 aB c f::Row 9 kS Q r::Fo) (rs):=by
 unfold xF at m
 refine ent func133 z ntmps133 z z λ a E=>sq<|bx E H z λ T w a H E=>nx<|ln 0 (bZ B) E H U97 z mP λ a E=>bd m λ b L m=>xc2 E z (cf_ 213) (Hw H L)<|?_
 rintro _ w ⟨y,rfl,H⟩ a E
 refine pr 1 E z λ a E=>xp 4 E z λ a E=>lb2 E H 2 U22 z λ a E=>sv2 E z (mV (i:=3) E H z z z U22) λ a E=>pn 1 E z λ a E=>wB<|bG (λ l a w=>∃ C j D,Jn 37 a w [(0,pt k 0),(4,.func (.func 283) #[] #[pt y 0]),(13,c),(14,.int .i64 (f.length:Int)),(15,.int .i64 j)] (Blk k 185 [c,p,q,s,t,u,C]::Blk y 97 [.int .i64 b.1,.string b.2.1,.string b.2.2.1,.string b.2.2.2.1,.int .i64 b.2.2.2.2.1,.int .i64 b.2.2.2.2.2.1,.bool b.2.2.2.2.2.2]::Row 107 aB c f::Row 9 kS C D::Fo) rs (kO f b l j D=some r)) (((f.length:Int) - 0:Int).toNat+1) ?_ ?_
 ·exact have H:=H.drop 1;have H:=H.frs [3,3,2,3] z;X4 ⟨E.to z,H,Y0,m⟩
 ·clear E H m
  rintro l a w ⟨C,j,D,R,E,H,n,m⟩
  cases l with
  | zero=>exact (bE m z).elim
  | succ l=>
   unfold kO at m
   refine sq<|pn 1 E z λ a E=>wS<|wif E m z (λ m=>?_) λ m=>?_
   ·refine wK<|aA<|aJ (λ a w=>∃ F G,Jn 37 a w [(0,pt k 0),(4,.func (.func 283) #[] #[pt y 0]),(13,c),(14,.int .i64 (f.length:Int)),(15,.int .i64 j)] (Blk k 185 [c,p,q,s,t,u,F]::Blk y 97 [.int .i64 b.1,.string b.2.1,.string b.2.2.1,.string b.2.2.2.1,.int .i64 b.2.2.2.2.1,.int .i64 b.2.2.2.2.2.1,.bool b.2.2.2.2.2.2]::Row 107 aB c f::Row 9 kS F G::Fo) rs (sS (kO f b l) j G=some r)) ?_ ?_
    ·refine wB<|sq<|bd m λ g o m=>?_
     obtain ⟨U,V,I⟩:=H.rowformNE (i:=2) z o
     refine sv2 E z (dG (d:=aB) E I z z z z U22 hP o) λ a E=>sv2 E z (kH (i:=2) E H cN I z z z o (us:=[.string g.Path,.string g.Data,.int .i64 g.Version,.int .i64 g.Turn,.int .i64 g.Owner]) z D5 z hP) λ a E=>al2 E H z Yt λ W w a H E=>ss 0 E H z hP z λ w H=>xp 1 E z λ a E=>ln 0 (mN g) E H D5 z hP λ a E=>have H:=H.frs [4,4,3,3,4] z;bd m λ X M m=>bK E (wn z) z z (bN E z z z ((cf_ 283) _)) (Cw H M)<|?_
     rintro _ w ⟨rfl,H⟩ a E
     refine nt<|wif E m z (λ m=>?_) λ m=>?_
     ·refine dz [0,0,0,0,0,0,0,0,1,1,1,2,2,2,2] [1,2] H λ w W0 hI H=>fn 5 E z λ a E=>fb2 E mm1 U33 z λ a E=>fn 1 E z λ a E=>fb2 E m0 U9 z λ a E=>bQ z<|bd m λ A N m=>xk2 E z (cf_ 207) (Cq H N) λ w H a E=>nt<|⟨sx H [1,2] z,bQ z<|xA (e:=9) (d:=kS) (cs:=[.string A]) (xs:=[A]) E H (wn z) z z z (E.evs z) (by kernel_rfl) z (λ ok hr=>(Rows.single (d:=kS) (cs:=[.string A]) (x:=A) z)) λ Y w a H E=>nt<|⟨sx H [1,2] z,bQ z<|bk m λ O m=>fE (i:=4) E H (wn z) z z z z z z (nU m0) U33 Ua z O z λ Z w a H E=>nt<|⟨sx H [1,2] z,bL z<|pn 1 E z λ a E=>bL z<|pn 1 E z λ a E=>bL z<|pn 1 E z λ a E=>bL z<|?_⟩⟩⟩
      obtain ⟨q45,b0,rfl⟩:=H.rowform (i:=4) z
      refine ss 2 E H z LU z λ w H=>nt<|bB<|?_
      clear hI
      exact bP<|aA<|have H:=H.drop 1;have H:=H.frs [3,3,2,3] z;X3 ⟨E.to z,H,(Y1 n),m⟩
     ·exact wK<|bP<|aA<|have H:=H.drop 1;have H:=H.frs [3,3,2,3] z;X3 ⟨E.to z,H,n,m⟩
    ·clear E H m
     rintro a w ⟨F,G,S,E,H,P,m⟩
     unfold sS at m
     exact wG<|pn 2 E z λ a E=>⟨l,nL l,X4 ⟨E.to z,H,P,m⟩⟩
   ·refine wX<|aT<|aT<|cL<|wV E z<|have H:=H.drop 1;?_
    cases m
    exact ⟨_,z,H.reads n⟩

def yD(d:List aH)(g:Int)(i:BY)(j:BY)(k:Int)(e:List BY)(f:bF):Option Om:=
  (jB d g i j k e f).bind λ b=>if (decide (0 <= b.1))=true then ((idx d b.1).bind λ c=>some (b.2.1,b.2.2.1,c.Data,c.Version,b.2.2.2.2.2)) else (some (b.2.1,b.2.2.1,b.2.2.2.1,b.2.2.2.2.1,b.2.2.2.2.2))
theorem Mn{n:Nat}{f g j:VL}{o:List aH}{q s:Int}{t u:BY}{l:List BY}{e:bF}(H:Sep w (Blk n 185 [f,j,.int .i64 q,.string t,.string u,.int .i64 s,g]::Row 107 aB f o::Row 9 kS g l::Fo) rs){r:Int×BY×BY×Int×eH}(m:yD o q t u s l e=some r) :
    Cf 131 [pt n 0,.agg (bZ e).toArray] w λ v w'=>∃ x,.tuple #[]=v/\Sep w' (Blk n 185 [f,j,.int .i64 r.1,.string r.2.1,.string r.2.2.1,.int .i64 r.2.2.2.1,x]::Row 107 aB f o::Row 9 kS x r.2.2.2.2::Fo) (rs):=by
 unfold yD at m
 refine ent func131 z ntmps131 z z λ a E=>sq<|bx E H z λ y w a H E=>xp 1 E z λ a E=>ln 0 (bZ e) E H U97 z mP λ a E=>have H:=H.frs [0,3,3,3] z;bd m λ A p m=>xc2 E z (cf_ 202) (uP H p)<|?_
 rintro _ w ⟨B,rfl,H⟩ a E
 refine pr 1 E z λ a E=>xp 1 E z λ a E=>sv2 E z (Nj E Oi Oj z z z) λ a E=>nt<|wif E m z (λ m=>?_) λ m=>?_
 ·refine dz [0,0,0,0,0,0,0,0,0,0,0,0,0,1,2,2,2,2] [1] H λ w W0 hI H=>fn 3 E z λ a E=>bd m λ C b m=>?_
  obtain ⟨D,F,c⟩:=H.rowformNE (i:=1) z b
  rw [Hc 5 c b] at E
  refine fn 2 E z λ a E=>fv E z (λ w hW=>Ln (d:=aB) (k:=1) E cN c b m0 z z z U9 z hW) λ a E=>fn 3 E z λ a E=>fv E z (λ w hW=>Ln (d:=aB) (k:=2) E cN c b m0 z z z U2 z hW) λ a E=>fn 3 E z λ a E=>bQ z<|ss 0 E H z sz9 z λ w H=>nt<|⟨sx H [1] z,bL z<|pn 1 E z λ a E=>bL z<|pn 1 E z λ a E=>bL z<|pn 1 E z λ a E=>bL z<|ss 0 E H z sz2 z λ w H=>nt<|bB<|?_⟩
  clear hI
  refine wV E z<|have H:=H.drop 3;?_
  cases m
  exact ⟨_,z,H.reads Y0⟩
 ·refine wK<|wV E z<|have H:=H.drop 3;?_
  cases m
  exact ⟨_,z,H.reads Y0⟩

def vP(d:List aH)(g:Int)(i:BY)(j:BY)(k:Int)(f:List BY)(e:bF):Option MQ:=
  (jB d g i j k f e).bind λ b=>if (decide (0 <= b.1))=true then ((nO d e.Path).bind λ c=>(ck (0 <= c.1/\c.1 < d.length/\IntKind.i64.wrap (c.1+1)=c.1+1)).bind λ l=>some (d.eraseIdx c.1.toNat,b.2.1,b.2.2.1,b.2.2.2.1,b.2.2.2.2.1,b.2.2.2.2.2)) else (some (d,b.2.1,b.2.2.1,b.2.2.2.1,b.2.2.2.2.1,b.2.2.2.2.2))
theorem Hx{f:Nat}{l c d:VL}{n:List aH}{o p:Int}{q s:BY}{e:List BY}{b:bF}(H:Sep w (Blk f 185 [l,d,.int .i64 o,.string q,.string s,.int .i64 p,c]::Row 107 aB l n::Row 9 kS c e::Fo) rs){r:eI×Int×BY×BY×Int×eH}(m:vP n o q s p e b=some r) :
    Cf 127 [pt f 0,.agg (bZ b).toArray] w λ v w'=>∃ t u,.tuple #[]=v/\Sep w' (Blk f 185 [t,d,.int .i64 r.2.1,.string r.2.2.1,.string r.2.2.2.1,.int .i64 r.2.2.2.2.1,u]::Row 107 aB t r.1::Row 9 kS u r.2.2.2.2.2::Fo) (rs):=by
 unfold vP at m
 refine ent func127 z ntmps127 z z λ a E=>sq<|bx E H z λ x w a H E=>xp 1 E z λ a E=>ln 0 (bZ b) E H U97 z mP λ a E=>have H:=H.frs [0,3,3,3] z;bd m λ y g m=>xc2 E z (cf_ 202) (uP H g)<|?_
 rintro _ w ⟨A,rfl,H⟩ a E
 refine sv2 E z (Nj E Oi Oj z z z) λ a E=>nt<|wif E m z (λ m=>?_) λ m=>?_
 ·refine sp 2 E z λ a E=>lb2 E H 3 U9 z λ a E=>bd m λ B j m=>xk2 E z (cf_ 209) (L4 H j) λ w H a E=>pn 5 E z λ a E=>wG<|pr 5 E z λ a E=>lb2 E H 0 U22 z λ a E=>pr 3 E z λ a E=>bk m λ k m=>xc2 E z (cf_ 212) (delete_c (ix:=1) H z k) λ C w H a E=>pr 3 E z λ a E=>?_
  obtain ⟨q23,D,rfl⟩:=H.rowform (i:=1) z
  refine ss 0 E H z Pz z λ w H=>wN<|wV E z<|have H:=H.drop 3;?_
  cases m
  exact ⟨_,_,z,H.reads Y0⟩
 ·refine wK<|wV E z<|have H:=H.drop 3;?_
  cases m
  exact ⟨_,_,z,H.reads Y0⟩

def dR(c:List aH)(d:BY):Nat->Int->Option Int
  | 0,_=>none
  | f+1,b=>
    if (decide (b < (c.length:Int)))=true then ((idx c b).bind λ x20=>(zS x20 d).bind λ e=>if e=true then (some (b)) else (dR c d f (IntKind.i64.wrap (b+1)))) else (some ((-1)))
def jJ(b:List aH)(c:BY):Option Int:=
  dR b c (((b.length:Int) - 0:Int).toNat+1) 0
theorem D9{g j k l n o p:VL}{b:List aH}{q:Nat}{s:BY}(H:Sep w (Row 107 aB g b::Blk q 97 [j,k,.string s,l,n,o,p]::Fo) rs){r:Int}(m:jJ b s=some r) :
    Cf 142 [g,.func (.func 283) #[] #[pt q 0]] w λ v w'=>.int .i64 r=v/\Sep w' (Blk q 97 [j,k,.string s,l,n,o,p]::Row 107 aB g b::Fo) (rs):=by
 unfold jJ at m
 refine ent func142 z ntmps142 z z λ a E=>sq<|pn 1 E z λ a E=>wS<|sp 1 E z λ a E=>sv2 E z (mV (i:=0) E H z z z U22) λ a E=>pr 1 E z λ a E=>nt<|wB<|bG (λ f a w=>∃ t,Jn 19 a w [(0,g),(1,.func (.func 283) #[] #[pt q 0]),(7,.int .i64 (b.length:Int)),(8,.int .i64 t)] (Row 107 aB g b::Blk q 97 [j,k,.string s,l,n,o,p]::Fo) rs (dR b s f t=some r)) (((b.length:Int) - 0:Int).toNat+1) ?_ ?_
 ·exact ⟨_,_,E.to z,H,Y0,m⟩
 ·clear E H m
  rintro f a w ⟨t,y,E,H,c,m⟩
  cases f with
  | zero=>exact (bE m z).elim
  | succ f=>
   unfold dR at m
   refine sq<|pn 1 E z λ a E=>wS<|wif E m z (λ m=>?_) λ m=>?_
   ·refine wK<|aA<|wS<|wB<|sp 2 E z λ a E=>xp 3 E z λ a E=>bd m λ x20 e m=>?_
    obtain ⟨A,B,u⟩:=H.rowformNE (i:=0) z e
    refine sv2 E z (dG (d:=aB) E u z z z z U22 hP e) λ a E=>sv2 E z (kH (i:=0) E H cN u z z z e (us:=[.string x20.Path,.string x20.Data,.int .i64 x20.Version,.int .i64 x20.Turn,.int .i64 x20.Owner]) z D5 z hP) λ a E=>have H:=H.frs [0,1] z;bd m λ C x m=>bK E (wn z) z z (bN E z z z ((cf_ 283) _)) (Cw H x)<|?_
    rintro _ w ⟨rfl,H⟩ a E
    refine nt<|wif E m z (λ m=>?_) λ m=>?_
    ·refine sq<|pn 2 E z λ a E=>wR<|bD<|aG<|aG<|bD<|aG<|o1 E z<|?_
     cases m
     exact ⟨z,H.reads c⟩
    ·exact wK<|bP<|aA<|wG<|pn 2 E z λ a E=>have H:=H.frs [0,1] z;⟨f,nL f,_,_,E.to z,H,c,m⟩
   ·refine wX<|aT<|aT<|cL<|aA<|sq<|pn 1 E z λ a E=>wR<|o1 E z<|have H:=H.frs [0,1] z;?_
    cases m
    exact ⟨z,H.reads c⟩

def fX(c:List aH)(d:BY):Option Bool:=
  (jJ c d).bind λ b=>some (decide (b ≥ 0))
theorem x7{i b c d e f g:VL}{j:List aH}{k:Nat}{l:BY}(H:Sep w (Row 107 aB i j::Blk k 97 [b,c,.string l,d,e,f,g]::Fo) rs){r:Bool}(m:fX j l=some r) :
    Cf 78 [i,.func (.func 283) #[] #[pt k 0]] w λ v w'=>.bool r=v/\Sep w' (Blk k 97 [b,c,.string l,d,e,f,g]::Row 107 aB i j::Fo) (rs):=by
 unfold fX at m
 refine ent func78 z ntmps78 z z λ a E=>sp 1 E z λ a E=>xp 2 E z λ a E=>bd m λ o n m=>xk2 E z (cf_ 142) (D9 H n) λ w H a E=>pn 2 E z λ a E=>wR<|o1 E z<|?_
 cases m
 exact ⟨z,H.reads Y0⟩

def E1:Option Unit:=
  some ()
theorem Gj{b:VL}(H:Sep w (Fo) rs){r:Unit}(m:E1=some r) :
    Cf 214 [b] w λ v w'=>.int .i64 0=v/\Sep w' (Fo) (rs):=by
 unfold E1 at m
 refine ent func214 z ntmps214 z z λ a E=>sp 1 E z λ a E=>nx<|pn 1 E z λ a E=>wR<|o1 E z<|?_
 cases m
 exact ⟨z,H.reads Y0⟩

def uB(b:aL)(c:dU):Option Ae:=
  some (b.Next,c)
def qR(b:Int×Bool)(c:dU):Option Ae:=
  (idx c b.1).bind λ e=>E1.bind λ g=>(idx c b.1).bind λ d=>(idx (c.set b.1.toNat ({ d with Next:=0 }:aL)) b.1).bind λ f=>if (f.Next == 0)=true then ((ck (0 <= b.1/\b.1 < (c.set b.1.toNat ({ d with Next:=0 }:aL)).length/\IntKind.i64.wrap (b.1+1)=b.1+1)).bind λ i=>uB e ((c.set b.1.toNat ({ d with Next:=0 }:aL)).eraseIdx b.1.toNat)) else (uB e (c.set b.1.toNat ({ d with Next:=0 }:aL)))
def yE(c:List aL)(d:BY):Option Ae:=
  (cG c d).bind λ b=>if (!b.2)=true then ((ck (0 <= b.1/\b.1 <= c.length/\c.length <= 1000000)).bind λ e=>qR b (c.take b.1.toNat ++ (⟨d,0⟩:aL)::c.drop b.1.toNat)) else (qR b c)
theorem Mo{s:Nat}{O j l n o p q:VL}{P:List aL}{b:BY}(H:Sep w (Blk s 185 [j,O,l,n,o,p,q]::Row 89 aC O P::Fo) rs){r:Int×dU}(m:yE P b=some r) :
    Cf 204 [pt s 0,.string b,.func (.func 214) #[] #[]] w λ v w'=>∃ Q,.int .i64 r.1=v/\Sep w' (Blk s 185 [j,Q,l,n,o,p,q]::Row 89 aC Q r.2::Fo) (rs):=by
 unfold yE at m
 refine ent func204 z ntmps204 z z λ a E=>sp 1 E z λ a E=>xp 4 E z λ a E=>lb2 E H 0 U23 z λ a E=>pr 1 E z λ a E=>have H:=H.frs [0,1] z;bd m λ G J m=>xk2 E z (cf_ 274) (iJ H J) λ w H a E=>pn 5 E z λ a E=>aJ (λ a w=>∃ t u,Jn 80 a w [(0,pt s 0),(2,.func (.func 214) #[] #[]),(7,.int .i64 G.1)] (Blk s 185 [j,t,l,n,o,p,q]::Row 89 aC t u::Fo) rs (qR G u=some r)) ?_ ?_
 ·refine sq<|pn 2 E z λ a E=>wif E m z (λ m=>?_) λ m=>?_
  ·refine wG<|pr 5 E z λ a E=>lb2 E H 1 U23 z λ a E=>pr 2 E z λ a E=>sv2 E z (cH E z (E.evs z) (v:=.agg #[.string b,.int .i64 0]) (by kernel_rfl)) λ a E=>kG (e:=89) (d:=aC) (cs:=[.string b,.int .i64 0]) (xs:=[(⟨b,0⟩:aL)]) E H (wn z) z z z (E.evs z) (by kernel_rfl) z z (λ ok hr=>(Rows.single (d:=aC) (cs:=[.string b,.int .i64 0]) (x:=(⟨b,0⟩:aL)) yS)) λ U w a H E=>bk m λ K m=>xc2 E z (cf_ 276) (Tn.insert_a (ix:=1) (iu:=0) H z z (by decide) K) λ V w H a E=>pr 3 E z λ a E=>?_
   obtain ⟨q55,W,rfl⟩:=H.rowform (i:=1) z
   exact ss 2 E H z En z λ w H=>nt<|have H:=H.drop 0;have H:=H.frs [0,1] z;X3 ⟨E.to z,H,Y0,m⟩
  ·exact wK<|aA<|have H:=H.frs [0,1] z;X3 ⟨E.to z,H,Y0,m⟩
 ·clear E H m
  rintro a w ⟨t,u,S,E,H,y,m⟩
  unfold qR at m
  refine sp 4 E z λ a E=>lb2 E H 0 U23 z λ a E=>pr 1 E z λ a E=>bd m λ I c m=>?_
  obtain ⟨X,Y,A⟩:=H.rowformNE (i:=1) z c
  refine sv2 E z (dG (d:=aC) E A z z z z U23 sJ c) λ a E=>pr 1 E z λ a E=>sv2 E z (uL (d:=aC) (i:=1) (k:=1) E H dV A z z z c z U2 z) λ a E=>pn 1 E z λ a E=>aJ (λ a w=>∃ B C,Jn 80 a w [(9,.int .i64 I.Next)] (Blk s 185 [j,B,l,n,o,p,q]::Row 89 aC B C::Fo) rs (uB I C=some r)) ?_ ?_
  ·refine wS<|dz [0,0,0,0,0,0,0,0,1,2,2,2] [0] H λ w W0 hI H=>fn 4 E z λ a E=>fb2 E m0 U23 z λ a E=>fn 3 E z λ a E=>bQ z<|bd m λ Z L m=>bK E (wn z) z z (bN E z z z ((cf_ 214) _)) (Gj H L)<|?_
   rintro _ w ⟨rfl,H⟩ a E
   refine nt<|⟨sx H [0] z,bL z<|bd m λ R f m=>?_⟩
   obtain ⟨b0,b1,D⟩:=H.rowformNE (i:=1) z f
   refine sv2 E z (dG (d:=aC) E D z z z z U23 sJ f) λ a E=>nt<|bL z<|pn 1 E z λ a E=>bL z<|X1 (d:=aC) (i:=1) (k:=1) (z':=({ R with Next:=0 }:aL)) E H dV (wn z) z D z z z z z z f z z sz2 λ w H=>nt<|bB<|?_
   clear hI
   refine aA<|sp 4 E z λ a E=>lb2 E H 0 U23 z λ a E=>pr 1 E z λ a E=>bd m λ b2 g m=>?_
   obtain ⟨b3,b4,F⟩:=H.rowformNE (i:=1) z g
   refine sv2 E z (dG (d:=aC) E F z z z z U23 sJ g) λ a E=>pr 1 E z λ a E=>sv2 E z (uL (d:=aC) (i:=1) (k:=1) E H dV F z z z g z U2 z) λ a E=>pn 1 E z λ a E=>wif E m z (λ m=>?_) λ m=>?_
   ·refine wG<|pr 5 E z λ a E=>lb2 E H 0 U23 z λ a E=>pr 3 E z λ a E=>bk m λ M m=>xc2 E z (cf_ 277) (Tn.delete_c (ix:=1) H z M) λ b5 w H a E=>pr 3 E z λ a E=>?_
    obtain ⟨q49,b6,rfl⟩:=H.rowform (i:=1) z
    exact ss 0 E H z En z λ w H=>nt<|X3 ⟨E.to z,H,y,m⟩
   ·exact wK<|aA<|X3 ⟨E.to z,H,y,m⟩
  ·clear E H m
   rintro a w ⟨B,C,T,E,H,N,m⟩
   unfold uB at m
   refine sq<|pn 2 E z λ a E=>wR<|o1 E z<|?_
   cases m
   exact ⟨_,z,H.reads N⟩

def q4(j:List aH)(c:List aL)(k:Int)(l:BY)(m:BY)(n:Int)(d:List BY)(b:bF):Option (dU×Int×BY×BY×Int×eH):=
  (y6 b).bind λ e=>(fX j e.2.2.1).bind λ f=>if f=true then ((iB 64).bind λ g=>some (c,g,(ByteArray.mk #[]),(ByteArray.mk #[]),0,[])) else ((yE c b.Path).bind λ i=>some (i.2,k,l,m,n,d))
theorem Kq{f:Nat}{c n d:VL}{g:List aH}{o:List aL}{p q:Int}{s t:BY}{e:List BY}{b:bF}(H:Sep w (Blk f 185 [c,n,.int .i64 p,.string s,.string t,.int .i64 q,d]::Row 107 aB c g::Row 89 aC n o::Row 9 kS d e::Fo) rs){r:dU×Int×BY×BY×Int×eH}(m:q4 g o p s t q e b=some r) :
    Cf 128 [pt f 0,.agg (bZ b).toArray] w λ v w'=>∃ u x,.tuple #[]=v/\Sep w' (Blk f 185 [c,u,.int .i64 r.2.1,.string r.2.2.1,.string r.2.2.2.1,.int .i64 r.2.2.2.2.1,x]::Row 107 aB c g::Row 89 aC u r.1::Row 9 kS x r.2.2.2.2.2::Fo) (rs):=by
 unfold q4 at m
 refine ent func128 z ntmps128 z z λ a E=>sq<|bx E H z λ y w a H E=>nt<|wS<|wS<|dz [0,0,0,0,0,0,1,1] [0,1] H λ w W0 hI H=>fn 4 E z λ a E=>fb2 E mm1 U22 z λ a E=>fbn E (bZ b) z (wn z) z z z z m0 z U97 z mP λ a E=>bQ z<|bd m λ A i m=>xc2 E z (cf_ 213) (Hw H i)<|?_
 rintro _ w ⟨B,rfl,H⟩ a E
 refine nt<|⟨sx H [1,2] z,bQ z<|have H:=H.frs [5,5,4,4,4,5] z;bd m λ C j m=>xk2 E z (cf_ 78) (x7 H j) λ w H a E=>nt<|⟨sx H [2,3] z,bB<|?_⟩⟩
 clear hI
 refine aA<|wif E m z (λ m=>?_) λ m=>?_
 ·refine sp 1 E z λ a E=>have H:=H.frs [5,5,4,4,4,5] z;bd m λ D k m=>xk2 E z (cf_ 203) (rP H k) λ w H a E=>nt<|wR<|aG<|Na E z<|have H:=H.nilRow 9 kS;have H:=H.drs [2,3,4];have H:=H.frs [0,3,3,3] z;?_
  cases m
  exact ⟨_,_,z,H.reads Y0⟩
 ·refine wK<|aA<|wG<|pr 2 E z λ a E=>lb2 E H 2 U9 z λ a E=>have H:=H.frs [5,3,3,3,5,5] z;bd m λ F l m=>xc2 E z (cf_ 204) (Mo H l)<|?_
  rintro _ w ⟨G,rfl,H⟩ a E
  refine wN<|wV E z<|have H:=H.drs [2,3];have H:=H.frs [3,2,3,3] z;?_
  cases m
  exact ⟨_,_,z,H.reads Y0⟩

def q5(x1:Int):Option Int:=
  some (x1)
theorem Kr{x1:Int}(H:Sep w (Fo) rs){r:Int}(m:q5 x1=some r) :
    Cf 205 [.int .i64 x1] w λ v w'=>.int .i64 r=v/\Sep w' (Fo) (rs):=by
 unfold q5 at m
 refine ent func205 z ntmps205 z z λ a E=>sp 1 E z λ a E=>nx<|pn 2 E z λ a E=>wR<|o1 E z<|?_
 cases m
 exact ⟨z,H.reads Y0⟩

def rT(b:aL)(c:dU):Option Ae:=
  some (b.Next,c)
def oC(b:Int×Bool)(c:dU):Option Ae:=
  (idx c b.1).bind λ f=>(q5 f.Next).bind λ d=>(idx c b.1).bind λ e=>(idx (c.set b.1.toNat ({ e with Next:=d }:aL)) b.1).bind λ g=>if (g.Next == 0)=true then ((ck (0 <= b.1/\b.1 < (c.set b.1.toNat ({ e with Next:=d }:aL)).length/\IntKind.i64.wrap (b.1+1)=b.1+1)).bind λ i=>rT f ((c.set b.1.toNat ({ e with Next:=d }:aL)).eraseIdx b.1.toNat)) else (rT f (c.set b.1.toNat ({ e with Next:=d }:aL)))
def vQ(c:List aL)(d:BY):Option Ae:=
  (cG c d).bind λ b=>if (!b.2)=true then ((ck (0 <= b.1/\b.1 <= c.length/\c.length <= 1000000)).bind λ e=>oC b (c.take b.1.toNat ++ (⟨d,0⟩:aL)::c.drop b.1.toNat)) else (oC b c)
theorem Hy{s:Nat}{O j l n o p q:VL}{P:List aL}{b:BY}(H:Sep w (Blk s 185 [j,O,l,n,o,p,q]::Row 89 aC O P::Fo) rs){r:Int×dU}(m:vQ P b=some r) :
    Cf 204 [pt s 0,.string b,.func (.func 205) #[] #[]] w λ v w'=>∃ Q,.int .i64 r.1=v/\Sep w' (Blk s 185 [j,Q,l,n,o,p,q]::Row 89 aC Q r.2::Fo) (rs):=by
 unfold vQ at m
 refine ent func204 z ntmps204 z z λ a E=>sp 1 E z λ a E=>xp 4 E z λ a E=>lb2 E H 0 U23 z λ a E=>pr 1 E z λ a E=>have H:=H.frs [0,1] z;bd m λ G J m=>xk2 E z (cf_ 274) (iJ H J) λ w H a E=>pn 5 E z λ a E=>aJ (λ a w=>∃ t u,Jn 80 a w [(0,pt s 0),(2,.func (.func 205) #[] #[]),(7,.int .i64 G.1)] (Blk s 185 [j,t,l,n,o,p,q]::Row 89 aC t u::Fo) rs (oC G u=some r)) ?_ ?_
 ·refine sq<|pn 2 E z λ a E=>wif E m z (λ m=>?_) λ m=>?_
  ·refine wG<|pr 5 E z λ a E=>lb2 E H 1 U23 z λ a E=>pr 2 E z λ a E=>sv2 E z (cH E z (E.evs z) (v:=.agg #[.string b,.int .i64 0]) (by kernel_rfl)) λ a E=>kG (e:=89) (d:=aC) (cs:=[.string b,.int .i64 0]) (xs:=[(⟨b,0⟩:aL)]) E H (wn z) z z z (E.evs z) (by kernel_rfl) z z (λ ok hr=>(Rows.single (d:=aC) (cs:=[.string b,.int .i64 0]) (x:=(⟨b,0⟩:aL)) yS)) λ V w a H E=>bk m λ K m=>xc2 E z (cf_ 276) (Tn.insert_a (ix:=1) (iu:=0) H z z (by decide) K) λ W w H a E=>pr 3 E z λ a E=>?_
   obtain ⟨q55,X,rfl⟩:=H.rowform (i:=1) z
   exact ss 2 E H z En z λ w H=>nt<|have H:=H.drop 0;have H:=H.frs [0,1] z;X3 ⟨E.to z,H,Y0,m⟩
  ·exact wK<|aA<|have H:=H.frs [0,1] z;X3 ⟨E.to z,H,Y0,m⟩
 ·clear E H m
  rintro a w ⟨t,u,T,E,H,y,m⟩
  unfold oC at m
  refine sp 4 E z λ a E=>lb2 E H 0 U23 z λ a E=>pr 1 E z λ a E=>bd m λ I c m=>?_
  obtain ⟨Y,Z,A⟩:=H.rowformNE (i:=1) z c
  refine sv2 E z (dG (d:=aC) E A z z z z U23 sJ c) λ a E=>pr 1 E z λ a E=>sv2 E z (uL (d:=aC) (i:=1) (k:=1) E H dV A z z z c z U2 z) λ a E=>pn 1 E z λ a E=>aJ (λ a w=>∃ B C,Jn 80 a w [(9,.int .i64 I.Next)] (Blk s 185 [j,B,l,n,o,p,q]::Row 89 aC B C::Fo) rs (rT I C=some r)) ?_ ?_
  ·refine wS<|dz [0,0,0,0,0,0,0,0,1,2,2,2] [0] H λ w W0 hI H=>fn 4 E z λ a E=>fb2 E m0 U23 z λ a E=>fn 3 E z λ a E=>bQ z<|bd m λ R L m=>bK E (wn z) z z (bN E z z z ((cf_ 205) _)) (Kr H L)<|?_
   rintro _ w ⟨rfl,H⟩ a E
   refine nt<|⟨sx H [0] z,bL z<|bd m λ S f m=>?_⟩
   obtain ⟨b0,b1,D⟩:=H.rowformNE (i:=1) z f
   refine sv2 E z (dG (d:=aC) E D z z z z U23 sJ f) λ a E=>nt<|bL z<|pn 1 E z λ a E=>bL z<|X1 (d:=aC) (i:=1) (k:=1) (z':=({ S with Next:=R }:aL)) E H dV (wn z) z D z z z z z z f z z sz2 λ w H=>nt<|bB<|?_
   clear hI
   refine aA<|sp 4 E z λ a E=>lb2 E H 0 U23 z λ a E=>pr 1 E z λ a E=>bd m λ b2 g m=>?_
   obtain ⟨b3,b4,F⟩:=H.rowformNE (i:=1) z g
   refine sv2 E z (dG (d:=aC) E F z z z z U23 sJ g) λ a E=>pr 1 E z λ a E=>sv2 E z (uL (d:=aC) (i:=1) (k:=1) E H dV F z z z g z U2 z) λ a E=>pn 1 E z λ a E=>wif E m z (λ m=>?_) λ m=>?_
   ·refine wG<|pr 5 E z λ a E=>lb2 E H 0 U23 z λ a E=>pr 3 E z λ a E=>bk m λ M m=>xc2 E z (cf_ 277) (Tn.delete_c (ix:=1) H z M) λ b5 w H a E=>pr 3 E z λ a E=>?_
    obtain ⟨q49,b6,rfl⟩:=H.rowform (i:=1) z
    exact ss 0 E H z En z λ w H=>nt<|X3 ⟨E.to z,H,y,m⟩
   ·exact wK<|aA<|X3 ⟨E.to z,H,y,m⟩
  ·clear E H m
   rintro a w ⟨B,C,U,E,H,N,m⟩
   unfold rT at m
   refine sq<|pn 2 E z λ a E=>wR<|o1 E z<|?_
   cases m
   exact ⟨_,z,H.reads N⟩

def q6(x1:Int):Option Int:=
  some (IntKind.i64.wrap (x1+1))
theorem Ks{x1:Int}(H:Sep w (Fo) rs){r:Int}(m:q6 x1=some r) :
    Cf 210 [.int .i64 x1] w λ v w'=>.int .i64 r=v/\Sep w' (Fo) (rs):=by
 unfold q6 at m
 refine ent func210 z ntmps210 z z λ a E=>sp 1 E z λ a E=>nx<|pn 3 E z λ a E=>wR<|o1 E z<|?_
 cases m
 exact ⟨z,H.reads Y0⟩

def rU(b:aL)(c:dU):Option Ae:=
  some (b.Next,c)
def oD(b:Int×Bool)(c:dU):Option Ae:=
  (idx c b.1).bind λ f=>(q6 f.Next).bind λ d=>(idx c b.1).bind λ e=>(idx (c.set b.1.toNat ({ e with Next:=d }:aL)) b.1).bind λ g=>if (g.Next == 0)=true then ((ck (0 <= b.1/\b.1 < (c.set b.1.toNat ({ e with Next:=d }:aL)).length/\IntKind.i64.wrap (b.1+1)=b.1+1)).bind λ i=>rU f ((c.set b.1.toNat ({ e with Next:=d }:aL)).eraseIdx b.1.toNat)) else (rU f (c.set b.1.toNat ({ e with Next:=d }:aL)))
def vR(c:List aL)(d:BY):Option Ae:=
  (cG c d).bind λ b=>if (!b.2)=true then ((ck (0 <= b.1/\b.1 <= c.length/\c.length <= 1000000)).bind λ e=>oD b (c.take b.1.toNat ++ (⟨d,0⟩:aL)::c.drop b.1.toNat)) else (oD b c)
theorem Hz{s:Nat}{O j l n o p q:VL}{P:List aL}{b:BY}(H:Sep w (Blk s 185 [j,O,l,n,o,p,q]::Row 89 aC O P::Fo) rs){r:Int×dU}(m:vR P b=some r) :
    Cf 204 [pt s 0,.string b,.func (.func 210) #[] #[]] w λ v w'=>∃ Q,.int .i64 r.1=v/\Sep w' (Blk s 185 [j,Q,l,n,o,p,q]::Row 89 aC Q r.2::Fo) (rs):=by
 unfold vR at m
 refine ent func204 z ntmps204 z z λ a E=>sp 1 E z λ a E=>xp 4 E z λ a E=>lb2 E H 0 U23 z λ a E=>pr 1 E z λ a E=>have H:=H.frs [0,1] z;bd m λ G J m=>xk2 E z (cf_ 274) (iJ H J) λ w H a E=>pn 5 E z λ a E=>aJ (λ a w=>∃ t u,Jn 80 a w [(0,pt s 0),(2,.func (.func 210) #[] #[]),(7,.int .i64 G.1)] (Blk s 185 [j,t,l,n,o,p,q]::Row 89 aC t u::Fo) rs (oD G u=some r)) ?_ ?_
 ·refine sq<|pn 2 E z λ a E=>wif E m z (λ m=>?_) λ m=>?_
  ·refine wG<|pr 5 E z λ a E=>lb2 E H 1 U23 z λ a E=>pr 2 E z λ a E=>sv2 E z (cH E z (E.evs z) (v:=.agg #[.string b,.int .i64 0]) (by kernel_rfl)) λ a E=>kG (e:=89) (d:=aC) (cs:=[.string b,.int .i64 0]) (xs:=[(⟨b,0⟩:aL)]) E H (wn z) z z z (E.evs z) (by kernel_rfl) z z (λ ok hr=>(Rows.single (d:=aC) (cs:=[.string b,.int .i64 0]) (x:=(⟨b,0⟩:aL)) yS)) λ V w a H E=>bk m λ K m=>xc2 E z (cf_ 276) (Tn.insert_a (ix:=1) (iu:=0) H z z (by decide) K) λ W w H a E=>pr 3 E z λ a E=>?_
   obtain ⟨q55,X,rfl⟩:=H.rowform (i:=1) z
   exact ss 2 E H z En z λ w H=>nt<|have H:=H.drop 0;have H:=H.frs [0,1] z;X3 ⟨E.to z,H,Y0,m⟩
  ·exact wK<|aA<|have H:=H.frs [0,1] z;X3 ⟨E.to z,H,Y0,m⟩
 ·clear E H m
  rintro a w ⟨t,u,T,E,H,y,m⟩
  unfold oD at m
  refine sp 4 E z λ a E=>lb2 E H 0 U23 z λ a E=>pr 1 E z λ a E=>bd m λ I c m=>?_
  obtain ⟨Y,Z,A⟩:=H.rowformNE (i:=1) z c
  refine sv2 E z (dG (d:=aC) E A z z z z U23 sJ c) λ a E=>pr 1 E z λ a E=>sv2 E z (uL (d:=aC) (i:=1) (k:=1) E H dV A z z z c z U2 z) λ a E=>pn 1 E z λ a E=>aJ (λ a w=>∃ B C,Jn 80 a w [(9,.int .i64 I.Next)] (Blk s 185 [j,B,l,n,o,p,q]::Row 89 aC B C::Fo) rs (rU I C=some r)) ?_ ?_
  ·refine wS<|dz [0,0,0,0,0,0,0,0,1,2,2,2] [0] H λ w W0 hI H=>fn 4 E z λ a E=>fb2 E m0 U23 z λ a E=>fn 3 E z λ a E=>bQ z<|bd m λ R L m=>bK E (wn z) z z (bN E z z z ((cf_ 210) _)) (Ks H L)<|?_
   rintro _ w ⟨rfl,H⟩ a E
   refine nt<|⟨sx H [0] z,bL z<|bd m λ S f m=>?_⟩
   obtain ⟨b0,b1,D⟩:=H.rowformNE (i:=1) z f
   refine sv2 E z (dG (d:=aC) E D z z z z U23 sJ f) λ a E=>nt<|bL z<|pn 1 E z λ a E=>bL z<|X1 (d:=aC) (i:=1) (k:=1) (z':=({ S with Next:=R }:aL)) E H dV (wn z) z D z z z z z z f z z sz2 λ w H=>nt<|bB<|?_
   clear hI
   refine aA<|sp 4 E z λ a E=>lb2 E H 0 U23 z λ a E=>pr 1 E z λ a E=>bd m λ b2 g m=>?_
   obtain ⟨b3,b4,F⟩:=H.rowformNE (i:=1) z g
   refine sv2 E z (dG (d:=aC) E F z z z z U23 sJ g) λ a E=>pr 1 E z λ a E=>sv2 E z (uL (d:=aC) (i:=1) (k:=1) E H dV F z z z g z U2 z) λ a E=>pn 1 E z λ a E=>wif E m z (λ m=>?_) λ m=>?_
   ·refine wG<|pr 5 E z λ a E=>lb2 E H 0 U23 z λ a E=>pr 3 E z λ a E=>bk m λ M m=>xc2 E z (cf_ 277) (Tn.delete_c (ix:=1) H z M) λ b5 w H a E=>pr 3 E z λ a E=>?_
    obtain ⟨q49,b6,rfl⟩:=H.rowform (i:=1) z
    exact ss 0 E H z En z λ w H=>nt<|X3 ⟨E.to z,H,y,m⟩
   ·exact wK<|aA<|X3 ⟨E.to z,H,y,m⟩
  ·clear E H m
   rintro a w ⟨B,C,U,E,H,N,m⟩
   unfold rU at m
   refine sq<|pn 2 E z λ a E=>wR<|o1 E z<|?_
   cases m
   exact ⟨_,z,H.reads N⟩

def vS(b:Int×Bool)(c:List aH)(d:BY)(e:bF)(i:Int)(j:BY)(k:Int)(f:List BY)(g:dU):Option DV:=
  (ck (0 <= b.1/\b.1 <= c.length/\c.length <= 1000000)).bind λ l=>some (c.take b.1.toNat ++ (⟨d,e.Data,0,0,e.Owner⟩:aH)::c.drop b.1.toNat,g,i,d,j,k,f)
def rV(f:List aH)(b:bF)(i:Int)(j:BY)(k:Int)(g:List BY)(l:BY×Bool)(c:BY)(d:dU):Option DV:=
  (nO f c).bind λ e=>if e.2=true then ((iB 61).bind λ m=>some (f,d,m,(ByteArray.mk #[]),(ByteArray.mk #[]),0,[])) else (if b.Turns=true then ((vR d l.1).bind λ n=>vS e f c b i j k g n.2) else (vS e f c b i j k g d))
def zF(g:List aH)(i:List aL)(j:Int)(k:BY)(l:Int)(e:List BY)(b:bF):Option DV:=
  (tK b.Path).bind λ c=>if b.Turns=true then ((vQ i c.1).bind λ d=>(zP b.Path).bind λ m=>(zD m d.1).bind λ f=>(D2 c.1 f.1).bind λ n=>if (!f.2)=true then ((iB 66).bind λ o=>some (g,d.2,o,(ByteArray.mk #[]),(ByteArray.mk #[]),0,[])) else (rV g b j k l e c n.1 d.2)) else (rV g b j k l e c b.Path i)
theorem Ov{j:Nat}{n S f t:VL}{o:List aH}{T:List aL}{p q:Int}{s:BY}{g:List BY}{b:bF}(H:Sep w (Blk j 185 [n,S,.int .i64 p,t,.string s,.int .i64 q,f]::Row 107 aB n o::Row 89 aC S T::Row 9 kS f g::Fo) rs)(F:N5 Tryz.prog ∈ rs){r:eI×dU×Int×BY×BY×Int×eH}(m:zF o T p s q g b=some r) :
    Cf 126 [pt j 0,.agg (bZ b).toArray] w λ v w'=>∃ U V W,.tuple #[]=v/\Sep w' (Blk j 185 [U,V,.int .i64 r.2.2.1,.string r.2.2.2.1,.string r.2.2.2.2.1,.int .i64 r.2.2.2.2.2.1,W]::Row 107 aB U r.1::Row 89 aC V r.2.1::Row 9 kS W r.2.2.2.2.2.2::Fo) (rs):=by
 unfold zF at m
 refine ent func126 z ntmps126 z z λ a E=>sq<|bx E H z λ l w a H E=>xp 1 E z λ a E=>lb2 E H 0 U9 z λ a E=>pr 1 E z λ a E=>xp 1 E z λ a E=>lb2 E H 0 U9 z λ a E=>bd m λ C G m=>xk2 E z (cf_ 180) (M4 H G) λ w H a E=>pn 5 E z λ a E=>aJ (λ a w=>∃ u c y,Jn 80 a w [(0,pt j 0),(3,pt l 0),(4,.string c),(5,.string C.1)] (Blk j 185 [n,u,.int .i64 p,t,.string s,.int .i64 q,f]::Blk l 97 (bZ b)::Row 107 aB n o::Row 89 aC u y::Row 9 kS f g::Fo) rs (rV o b p s q g C c y=some r)) ?_ ?_
 ·refine sp 1 E z λ a E=>lb2 E H 0 U4 z λ a E=>nt<|wif E m z (λ m=>?_) λ m=>?_
  ·refine sp 2 E z λ a E=>have H:=H.frs [4,3,2,4,4] z;bd m λ Z I m=>xc2 E z (cf_ 204) (Hy H I)<|?_
   rintro _ w ⟨b0,rfl,H⟩ a E
   refine pr 1 E z λ a E=>xp 1 E z λ a E=>lb2 E H 2 U9 z λ a E=>bd m λ b1 J m=>xk2 E z (cf_ 207) (Cq H J) λ w H a E=>pr 1 E z λ a E=>bd m λ b2 K m=>xk2 E z (cf_ 206) (Oq H F K) λ w H a E=>pr 5 E z λ a E=>xp 2 E z λ a E=>bd m λ b3 L m=>xk2 E z (cf_ 208) (Le H L) λ w H a E=>pr 4 E z λ a E=>nx<|pn 2 E z λ a E=>wif E m z (λ m=>?_) λ m=>?_
   ·refine sp 1 E z λ a E=>bd m λ b4 M m=>xk2 E z (cf_ 203) (rP H M) λ w H a E=>nt<|wR<|aG<|Na E z<|have H:=H.nilRow 9 kS;have H:=H.drs [3,4];have H:=H.frs [0,2,3,3] z;?_
    cases m
    exact X3 ⟨z,H.reads Y0⟩
   ·exact wK<|aA<|have H:=H.frs [4,2,4,4,4] z;X4 ⟨E.to z,H,Y0,m⟩
  ·exact wK<|aA<|have H:=H.frs [4,4,4,3,4] z;X4 ⟨E.to z,H,Y0,m⟩
 ·clear E H m
  rintro a w ⟨u,c,y,X,E,H,k,m⟩
  unfold rV at m
  refine sp 2 E z λ a E=>have H:=H.frs [4,4,3,4,4] z;bd m λ D N m=>xk2 E z (cf_ 209) (L4 H N) λ w H a E=>pn 5 E z λ a E=>wS<|sq<|pn 1 E z λ a E=>wif E m z (λ m=>?_) λ m=>?_
  ·refine sp 1 E z λ a E=>bd m λ b5 O m=>xk2 E z (cf_ 203) (rP H O) λ w H a E=>nt<|wR<|aG<|Na E z<|have H:=H.nilRow 9 kS;have H:=H.drs [3,4];have H:=H.frs [0,3,3,3] z;?_
   cases m
   exact X3 ⟨z,H.reads k⟩
  ·refine wK<|aA<|aJ (λ a w=>∃ A B,Jn 80 a w [(0,pt j 0),(3,pt l 0),(4,.string c),(10,.int .i64 D.1)] (Blk j 185 [n,A,.int .i64 p,t,.string s,.int .i64 q,f]::Blk l 97 (bZ b)::Row 107 aB n o::Row 89 aC A B::Row 9 kS f g::Fo) rs (vS D o c b p s q g B=some r)) ?_ ?_
   ·refine sp 1 E z λ a E=>lb2 E H 2 U4 z λ a E=>nt<|wif E m z (λ m=>?_) λ m=>?_
    ·refine wG<|pr 2 E z λ a E=>have H:=H.frs [4,3,3,4,4] z;bd m λ b6 P m=>xc2 E z (cf_ 204) (Hz H P)<|?_
     rintro _ w ⟨b7,rfl,H⟩ a E
     exact nt<|have H:=H.frs [4,2,3,4,4] z;X3 ⟨E.to z,H,k,m⟩
    ·exact wK<|aA<|have H:=H.frs [4,4,3,4,4] z;X3 ⟨E.to z,H,k,m⟩
   ·clear E H m
    rintro a w ⟨A,B,Y,E,H,Q,m⟩
    unfold vS at m
    refine wS<|dz [0,0,0,0,0,0,0,0,0,0,0,0,0,1,1,2,2,2,2] [0,1] H λ w W0 hI H=>fn 5 E z λ a E=>fb2 E m0 U22 z λ a E=>fn 3 E z λ a E=>fb2 E mm1 U9 z λ a E=>fn 1 E z λ a E=>fb2 E mm1 U2 z λ a E=>fv E z (λ w hW=>(cH E z (E.evs z) (v:=.agg #[.string c,.string b.Data,.int .i64 0,.int .i64 0,.int .i64 b.Owner]) (by kernel_rfl))) λ a E=>bQ z<|kG (e:=107) (d:=aB) (cs:=[.string c,.string b.Data,.int .i64 0,.int .i64 0,.int .i64 b.Owner]) (xs:=[(⟨c,b.Data,0,0,b.Owner⟩:aH)]) E H (wn z) z z z (E.evs z) (by kernel_rfl) z z (λ ok hr=>(Rows.single (d:=aB) (cs:=[.string c,.string b.Data,.int .i64 0,.int .i64 0,.int .i64 b.Owner]) (x:=(⟨c,b.Data,0,0,b.Owner⟩:aH)) B2)) λ b8 w a H E=>nt<|⟨sx H [1,2] z,bQ z<|bk m λ R m=>xc2 E z (cf_ 211) (insert_a (ix:=3) (iu:=0) H z z (by decide) R) λ b9 w H a E=>nt<|⟨sx H [1,2] z,bL z<|pn 1 E z λ a E=>bL z<|pn 1 E z λ a E=>bL z<|pn 1 E z λ a E=>bL z<|?_⟩⟩
    obtain ⟨q35,c0,rfl⟩:=H.rowform (i:=3) z
    refine ss 1 E H z Pz z λ w H=>nt<|bB<|?_
    clear hI
    refine aA<|wG<|pr 5 E z λ a E=>ss 1 E H z sz9 z λ w H=>wN<|wV E z<|have H:=H.drs [0,1];?_
    cases m
    exact X3 ⟨z,H.reads Q⟩

end Go.Cb
