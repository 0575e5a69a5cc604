/- Functions of the program, walked: each comes to its plain function. -/
import Derived.Test.YteakhlfapjaodaaGreatDoorKsr2
import Derived.Test.YteakhlfapjaodaaGreatDoorExsr
import Derived.Test.YteakhlfapjaodaaGreatDoorNwsr
import Derived.Test.YteakhlfapjaodaaGreatDoorSksr
set_option linter.unusedVariables false
set_option linter.unusedSimpArgs false
set_option maxRecDepth 20000
set_option maxHeartbeats 1000000
namespace Go.Cb
open Go.Proofs Go.RowKit
variable {w:World} {Fo:List Ob} {rs:List Rp}

def xX(b:List aI)(d:ByteArray):Option Int:=
  (uX b d).bind fun c=>if (decide (c ≥ 0))=true then ((idx b c).bind fun e=>some (e.State)) else (some (3))
theorem Ls{c:Value}{d:List aI}{e:ByteArray}(H:Sep w (Fo) rs)(b:rSl aR c d ∈ rs){r:Int}(hm:xX d e=some r) :
    Cf 27 [c,.string e] w fun v w'=>.int .i64 r=v∧Sep w' (Fo) (rs):=by
 unfold xX at hm
 refine ent Tryz.func27 rfl Tryz.ntmps27 rfl rfl fun a E=>sq<|pn 1 E rfl fun a E=>wp_seq<|sp 2 E rfl fun a E=>bd hm fun j f hm=>xk2 E rfl (cf_ 24) (D3 H b f) fun w H a E=>pr 1 E rfl fun a E=>nx<|pn 2 E rfl fun a E=>wif E hm rfl (fun hm=>?_) fun hm=>?_
 ·refine sp 2 E rfl fun a E=>bd hm fun i g hm=>cN E H (wn rfl) rfl rfl rfl rfl rfl b U32 nO g fun q9 a H E=>have H:=H.derive1 m0 (rAt (kI .i64) (q9.add 2) i.State) (fun ok h=>O9 h);pr 1 E rfl fun a E=>sv2 E rfl (pJ E H rfl rfl m0 U3 rfl) fun a E=>pn 1 E rfl fun a E=>wp_ret<|aG<|o1 E rfl<|?_
  cases hm
  exact ⟨rfl,H.reads (Y2 Y0)⟩
 ·refine wp_skip<|aA<|sq<|pn 1 E rfl fun a E=>wp_ret<|o1 E rfl<|?_
  cases hm
  exact ⟨rfl,H.reads Y0⟩

def qN(d:ByteArray)(e:List aI)(b:Int):Option Bool:=
  (xX e d).bind fun c=>some (c == b)
theorem O2{s:ByteArray}{n d b:Nat}{o e f g i j k l m:Value}{t:List aI}{c:Int}(H:Sep w (Blk n 28 [pt d 0]::Blk d 87 [e,f,o,g,i,j,k,l,m]::Blk b 3 [.int .i64 c]::Fo) rs)(p:rSl aR o t ∈ rs){r:Bool}(hm:qN s t c=some r) :
    Cf 157 [.string s,pt n 0,pt b 0] w fun v w'=>.bool r=v∧Sep w' (Blk n 28 [pt d 0]::Blk d 87 [e,f,o,g,i,j,k,l,m]::Blk b 3 [.int .i64 c]::Fo) (rs):=by
 unfold qN at hm
 refine ent Tryz.func157 rfl Tryz.ntmps157 rfl rfl fun a E=>sq<|pn 1 E rfl fun a E=>wp_seq<|dw [(0,0),(1,0),(2,0),(3,0),(4,0),(6,0),(5,1),(7,0),(8,2)] [0,1,2] [] H (by kernel_rfl) (fun _ _ _ h=>False.elim h.2) fun w W0 hI H=>fb2 E m0 U28 rfl fun a E=>fn 2 E rfl fun a E=>fb2 E mm1 U32 rfl fun a E=>fn 1 E rfl fun a E=>fb2 E mm2 U3 rfl fun a E=>bI rfl<|bd hm fun u q hm=>xk2 E rfl (cf_ 27) (Ls H p q) fun w H a E=>nt<|⟨sx H [0,1,2] rfl,fn 1 E rfl fun a E=>bL rfl<|pn 1 E rfl fun a E=>aY<|?_⟩
 clear hI
 refine aA<|wp_ret<|o1 E rfl<|?_
 cases hm
 exact ⟨rfl,H.reads Y0⟩

def cQ(e:List ByteArray)(c:List aI)(d:Int):Nat→Int→Option Int
  | 0,_=>none
  | i+1,b=>
    if (decide (b < (e.length:Int)))=true then ((idx e b).bind fun f=>(qN f c d).bind fun g=>if g=true then (some (b)) else (cQ e c d i (IntKind.i64.wrap (b+1)))) else (some ((-1)))
def iI(b:List ByteArray)(c:List aI)(d:Int):Option Int:=
  cQ b c d (((b.length:Int) - 0:Int).toNat+1) 0
theorem s9{y x g i j k l m n o:Value}{p:List ByteArray}{q e c:Nat}{s:List aI}{d:Int}(H:Sep w (Blk q 28 [pt e 0]::Blk e 87 [g,i,x,j,k,l,m,n,o]::Blk c 3 [.int .i64 d]::Fo) rs)(t:rSl kS y p ∈ rs)(z:rSl aR x s ∈ rs){r:Int}(hm:iI p s d=some r) :
    Cf 153 [y,.func (.func 157) #[] #[pt q 0,pt c 0]] w fun v w'=>.int .i64 r=v∧Sep w' (Blk q 28 [pt e 0]::Blk e 87 [g,i,x,j,k,l,m,n,o]::Blk c 3 [.int .i64 d]::Fo) (rs):=by
 unfold iI at hm
 refine ent Tryz.func153 rfl Tryz.ntmps153 rfl rfl fun a E=>sq<|pn 1 E rfl fun a E=>wp_seq<|sp 1 E rfl fun a E=>lS E H t U33 rfl fun a E=>pr 1 E rfl fun a E=>nt<|wp_block<|bD (fun f a w=>∃ u,Jn 19 a w [(0,y),(1,.func (.func 157) #[] #[pt q 0,pt c 0]),(7,.int .i64 (p.length:Int)),(8,.int .i64 u)] (Blk q 28 [pt e 0]::Blk c 3 [.int .i64 d]::Blk e 87 [g,i,x,j,k,l,m,n,o]::Fo) rs (cQ p s d f u=some r)) (((p.length:Int) - 0:Int).toNat+1) ?_ ?_
 ·exact have H:=H.frs [1,2,2] rfl;⟨_,_,E.to rfl,H,Y0,hm⟩
 ·clear E H hm
  rintro f a w ⟨u,C,E,H,b,hm⟩
  cases f with
  | zero=>exact (aZ hm rfl).elim
  | succ f=>
   unfold cQ at hm
   refine sq<|pn 1 E rfl fun a E=>wp_seq<|wif E hm rfl (fun hm=>?_) fun hm=>?_
   ·refine wp_skip<|aA<|wp_seq<|wp_block<|sp 2 E rfl fun a E=>xp 3 E rfl fun a E=>bd hm fun D A hm=>cN E H (wn rfl) rfl rfl rfl rfl rfl (b _ t) U33 sz9 A fun q40 a H E=>sv2 E rfl (pJ E H rfl rfl m0 U9 rfl) fun a E=>have H:=H.frs [1,2,2] rfl;bd hm fun F B hm=>bM E (wn rfl) rfl rfl (bO E rfl rfl rfl ((cf_ 157) _)) (O2 H (t1 (b _ z)) B)<|?_
    rintro _ w ⟨rfl,H⟩ a E
    refine nt<|wif E hm rfl (fun hm=>?_) fun hm=>?_
    ·refine sq<|pn 2 E rfl fun a E=>wp_ret<|bF<|aG<|aG<|bF<|aG<|o1 E rfl<|?_
     cases hm
     exact ⟨rfl,H.reads (Y1 b)⟩
    ·exact wp_skip<|bH<|aA<|wp_region_lit<|pn 2 E rfl fun a E=>have H:=H.frs [1,2,2] rfl;⟨f,Nat.lt_succ_self f,_,_,E.to rfl,H,(Y1 b),hm⟩
   ·refine wp_exit<|aL<|aL<|cH<|aA<|sq<|pn 1 E rfl fun a E=>wp_ret<|o1 E rfl<|have H:=H.frs [1,2,2] rfl;?_
    cases hm
    exact ⟨rfl,H.reads b⟩

def gM(e:List ByteArray)(b:List aI)(c:Int):Option Bool:=
  (iI e b c).bind fun d=>some (decide (d ≥ 0))
theorem zE{u o e f g i j k l m:Value}{x:List ByteArray}{p d b:Nat}{n:List aI}{c:Int}(H:Sep w (Blk p 28 [pt d 0]::Blk d 87 [e,f,o,g,i,j,k,l,m]::Blk b 3 [.int .i64 c]::Fo) rs)(q:rSl kS u x ∈ rs)(s:rSl aR o n ∈ rs){r:Bool}(hm:gM x n c=some r) :
    Cf 97 [u,.func (.func 157) #[] #[pt p 0,pt b 0]] w fun v w'=>.bool r=v∧Sep w' (Blk p 28 [pt d 0]::Blk d 87 [e,f,o,g,i,j,k,l,m]::Blk b 3 [.int .i64 c]::Fo) (rs):=by
 unfold gM at hm
 refine ent Tryz.func97 rfl Tryz.ntmps97 rfl rfl fun a E=>sp 1 E rfl fun a E=>xp 2 E rfl fun a E=>bd hm fun y t hm=>xk2 E rfl (cf_ 153) (s9 H q s t) fun w H a E=>pn 2 E rfl fun a E=>wp_ret<|o1 E rfl<|?_
 cases hm
 exact ⟨rfl,H.reads Y0⟩

def oU(x1:Int)(d:List ByteArray)(b:List aI):Option Bool:=
  (gM d b x1).bind fun c=>some (c)
theorem B3{x1:Int}{n o c:Nat}{p b d e f g i j k l:Value}{u:List ByteArray}{m:List aI}(H:Sep w (Blk n 33 [p]::Blk o 28 [pt c 0]::Blk c 87 [d,e,b,f,g,i,j,k,l]::Fo) rs)(q:rSl kS p u ∈ rs)(s:rSl aR b m ∈ rs){r:Bool}(hm:oU x1 u m=some r) :
    Cf 156 [.int .i64 x1,pt n 0,pt o 0] w fun v w'=>.bool r=v∧Sep w' (Blk n 33 [p]::Blk o 28 [pt c 0]::Blk c 87 [d,e,b,f,g,i,j,k,l]::Fo) (rs):=by
 unfold oU at hm
 refine ent Tryz.func156 rfl Tryz.ntmps156 rfl rfl fun a E=>sq<|bx E H rfl fun x w a H E=>pr 1 E rfl fun a E=>nx<|lb2 E H 1 U33 rfl fun a E=>sv2 E rfl (nM E rfl rfl rfl) fun a E=>have H:=H.frs [1,1,3,3] rfl;bd hm fun y t hm=>xk2 E rfl (cf_ 97) (zE H q s t) fun w H a E=>pn 1 E rfl fun a E=>wp_ret<|o1 E rfl<|have H:=H.drop 2;have H:=H.frs [1,1,2] rfl;?_
 cases hm
 exact ⟨rfl,H.reads Y0⟩

def nF(c:List aI)(b:List ByteArray):Option Int:=
  (oU 3 b c).bind fun d=>if d=true then (some (132)) else ((oU 2 b c).bind fun e=>if e=true then (some (131)) else (some (0)))
theorem E2{o:Nat}{p d e f g i j k l m:Value}{t:List aI}{n:List ByteArray}(H:Sep w (Blk o 87 [e,f,p,g,i,j,k,l,m]::Fo) rs)(c:rSl aR p t ∈ rs)(b:rSl kS d n ∈ rs){r:Int}(hm:nF t n=some r) :
    Cf 100 [pt o 0,d] w fun v w'=>.int .i64 r=v∧Sep w' (Blk o 87 [e,f,p,g,i,j,k,l,m]::Fo) (rs):=by
 unfold nF at hm
 refine ent Tryz.func100 rfl Tryz.ntmps100 rfl rfl fun a E=>sq<|bx E H rfl fun u w a H E=>?_
 obtain ⟨q34,x,rfl⟩:=H.slform b
 refine bx E H rfl fun y w a H E=>pr 1 E rfl fun a E=>nx<|sv2 E rfl (nM E rfl rfl rfl) fun a E=>pn 1 E rfl fun a E=>wp_seq<|wp_block<|sq<|pr 1 E rfl fun a E=>bd hm fun z q hm=>bM E (wn rfl) rfl rfl (bO E rfl rfl rfl ((cf_ 156) _)) (B3 H b c q)<|?_
 rintro _ w ⟨rfl,H⟩ a E
 refine pn 1 E rfl fun a E=>wif E hm rfl (fun hm=>?_) fun hm=>?_
 ·refine sq<|pn 1 E rfl fun a E=>wp_ret<|bF<|aG<|o1 E rfl<|have H:=H.drs [0,0];?_
  cases hm
  exact ⟨rfl,H.reads Y0⟩
 ·refine sp 1 E rfl fun a E=>bd hm fun A s hm=>bM E (wn rfl) rfl rfl (bO E rfl rfl rfl ((cf_ 156) _)) (B3 H b c s)<|?_
  rintro _ w ⟨rfl,H⟩ a E
  refine pn 1 E rfl fun a E=>wif E hm rfl (fun hm=>?_) fun hm=>?_
  ·refine sq<|pn 1 E rfl fun a E=>wp_ret<|bF<|aG<|o1 E rfl<|have H:=H.drs [0,0];?_
   cases hm
   exact ⟨rfl,H.reads Y0⟩
  ·refine wp_skip<|bH<|aA<|sq<|pn 1 E rfl fun a E=>wp_ret<|o1 E rfl<|have H:=H.drs [0,0];?_
   cases hm
   exact ⟨rfl,H.reads Y0⟩

def F3(x1:aO)(b:ByteArray):Option Bool:=
  some (sEq x1.Dir b)
theorem Jr{x1:aO}{b:Nat}{c:ByteArray}(H:Sep w (Blk b 9 [.string c]::Fo) rs){r:Bool}(hm:F3 x1 c=some r) :
    Cf 155 [.agg (sT x1).toArray,pt b 0] w fun v w'=>.bool r=v∧Sep w' (Blk b 9 [.string c]::Fo) (rs):=by
 unfold F3 at hm
 refine ent Tryz.func155 rfl Tryz.ntmps155 rfl rfl fun a E=>sq<|bx E H rfl fun d w a H E=>pr 1 E rfl fun a E=>xp 1 E rfl fun a E=>lb2 E H 0 U9 rfl fun a E=>lb2 E H 1 U9 rfl fun a E=>pr 2 E rfl fun a E=>nt<|wp_ret<|o1 E rfl<|have H:=H.drop 0;?_
 cases hm
 exact ⟨rfl,H.reads Y0⟩

def gB(c:List aO)(d:ByteArray):Nat→Int→Option Int
  | 0,_=>none
  | f+1,b=>
    if (decide (b < (c.length:Int)))=true then ((idx c b).bind fun g=>(F3 g d).bind fun e=>if e=true then (some (b)) else (gB c d f (IntKind.i64.wrap (b+1)))) else (some ((-1)))
def lX(b:List aO)(c:ByteArray):Option Int:=
  gB b c (((b.length:Int) - 0:Int).toNat+1) 0
theorem zQ{i:Value}{d:List aO}{e:Nat}{f:ByteArray}(H:Sep w (Blk e 9 [.string f]::Fo) rs)(g:rSl aV i d ∈ rs){r:Int}(hm:lX d f=some r) :
    Cf 154 [i,.func (.func 155) #[] #[pt e 0]] w fun v w'=>.int .i64 r=v∧Sep w' (Blk e 9 [.string f]::Fo) (rs):=by
 unfold lX at hm
 refine ent Tryz.func154 rfl Tryz.ntmps154 rfl rfl fun a E=>sq<|pn 1 E rfl fun a E=>wp_seq<|sp 1 E rfl fun a E=>lS E H g U58 rfl fun a E=>pr 1 E rfl fun a E=>nt<|wp_block<|bD (fun c a w=>∃ j,Jn 19 a w [(0,i),(1,.func (.func 155) #[] #[pt e 0]),(7,.int .i64 (d.length:Int)),(8,.int .i64 j)] (Blk e 9 [.string f]::Fo) rs (gB d f c j=some r)) (((d.length:Int) - 0:Int).toNat+1) ?_ ?_
 ·exact ⟨_,_,E.to rfl,H,Y0,hm⟩
 ·clear E H hm
  rintro c a w ⟨j,m,E,H,b,hm⟩
  cases c with
  | zero=>exact (aZ hm rfl).elim
  | succ c=>
   unfold gB at hm
   refine sq<|pn 1 E rfl fun a E=>wp_seq<|wif E hm rfl (fun hm=>?_) fun hm=>?_
   ·refine wp_skip<|aA<|wp_seq<|wp_block<|sp 2 E rfl fun a E=>xp 3 E rfl fun a E=>bd hm fun o k hm=>cN E H (wn rfl) rfl rfl rfl rfl rfl (b _ g) U58 pG k fun q11 a H E=>ldf fB E H rfl rfl rfl rfl rfl m0 U78 rfl pG fun a E=>bd hm fun n l hm=>bM E (wn rfl) rfl rfl (bO E rfl rfl rfl ((cf_ 155) _)) (Jr H l)<|?_
    rintro _ w ⟨rfl,H⟩ a E
    refine nt<|wif E hm rfl (fun hm=>?_) fun hm=>?_
    ·refine sq<|pn 2 E rfl fun a E=>wp_ret<|bF<|aG<|aG<|bF<|aG<|o1 E rfl<|?_
     cases hm
     exact ⟨rfl,H.reads (Y1 b)⟩
    ·exact wp_skip<|bH<|aA<|wp_region_lit<|pn 2 E rfl fun a E=>⟨c,Nat.lt_succ_self c,_,_,E.to rfl,H,(Y1 b),hm⟩
   ·refine wp_exit<|aL<|aL<|cH<|aA<|sq<|pn 1 E rfl fun a E=>wp_ret<|o1 E rfl<|?_
    cases hm
    exact ⟨rfl,H.reads b⟩

def N1(b:List aO)(d:ByteArray):Option a7:=
  (lX b d).bind fun c=>if (decide (c < 0))=true then (some (0,false)) else ((idx b c).bind fun e=>some (e.Txn,true))
theorem Oa{c:Value}{d:List aO}{e:ByteArray}(H:Sep w (Fo) rs)(b:rSl aV c d ∈ rs){r:Int×Bool}(hm:N1 d e=some r) :
    Cf 99 [c,.string e] w fun v w'=>.tuple #[.int .i64 r.1,.bool r.2]=v∧Sep w' (Fo) (rs):=by
 unfold N1 at hm
 refine ent Tryz.func99 rfl Tryz.ntmps99 rfl rfl fun a E=>sq<|bx E H rfl fun j w a H E=>pr 2 E rfl fun a E=>xp 1 E rfl fun a E=>sv2 E rfl (nM E rfl rfl rfl) fun a E=>bd hm fun k f hm=>xk2 E rfl (cf_ 154) (zQ H b f) fun w H a E=>pn 1 E rfl fun a E=>wp_seq<|sq<|pn 2 E rfl fun a E=>wif E hm rfl (fun hm=>?_) fun hm=>?_
 ·refine sq<|pn 2 E rfl fun a E=>wp_ret<|aG<|fW E rfl rfl rfl<|have H:=H.drop 0;?_
  cases hm
  exact ⟨rfl,H.reads Y0⟩
 ·refine wp_skip<|aA<|sp 2 E rfl fun a E=>bd hm fun i g hm=>cN E H (wn rfl) rfl rfl rfl rfl rfl b U58 pG g fun q10 a H E=>have H:=H.derive1 m0 (rAt (kI .i64) (q10.add 1) i.Txn) (fun ok h=>Jh h);pr 1 E rfl fun a E=>sv2 E rfl (pJ E H rfl rfl m0 U2 rfl) fun a E=>pn 2 E rfl fun a E=>wp_ret<|fW E rfl rfl rfl<|have H:=H.drop 0;?_
  cases hm
  exact ⟨rfl,H.reads (Y2 Y0)⟩

def tX(d:ByteArray)(b:List aO):Option Bool:=
  (N1 b d).bind fun c=>some (c.2)
theorem Bc{q:ByteArray}{n c:Nat}{b d e f g i j k l:Value}{m:List aO}(H:Sep w (Blk n 28 [pt c 0]::Blk c 87 [d,e,f,b,g,i,j,k,l]::Fo) rs)(o:rSl aV b m ∈ rs){r:Bool}(hm:tX q m=some r) :
    Cf 98 [.string q,pt n 0] w fun v w'=>.bool r=v∧Sep w' (Blk n 28 [pt c 0]::Blk c 87 [d,e,f,b,g,i,j,k,l]::Fo) (rs):=by
 unfold tX at hm
 refine ent Tryz.func98 rfl Tryz.ntmps98 rfl rfl fun a E=>sp 1 E rfl fun a E=>nx<|lb2 E H 0 U28 rfl fun a E=>pr 2 E rfl fun a E=>lb2 E H 1 U58 rfl fun a E=>pr 1 E rfl fun a E=>bd hm fun s p hm=>xk2 E rfl (cf_ 99) (Oa H o p) fun w H a E=>pr 5 E rfl fun a E=>nx<|pn 2 E rfl fun a E=>wp_ret<|o1 E rfl<|?_
 cases hm
 exact ⟨rfl,H.reads Y0⟩

def dP(d:List ByteArray)(c:List aO):Nat→Int→Option Int
  | 0,_=>none
  | g+1,b=>
    if (decide (b < (d.length:Int)))=true then ((idx d b).bind fun e=>(tX e c).bind fun f=>if f=true then (some (b)) else (dP d c g (IntKind.i64.wrap (b+1)))) else (some ((-1)))
def jM(b:List ByteArray)(c:List aO):Option Int:=
  dP b c (((b.length:Int) - 0:Int).toNat+1) 0
theorem A4{l f m n o p q s t u:Value}{c:List ByteArray}{x g:Nat}{y:List aO}(H:Sep w (Row 9 kS l c::Blk x 28 [pt g 0]::Blk g 87 [m,n,o,f,p,q,s,t,u]::Fo) rs)(B:rSl aV f y ∈ rs){r:Int}(hm:jM c y=some r) :
    Cf 153 [l,.func (.func 98) #[] #[pt x 0]] w fun v w'=>.int .i64 r=v∧Sep w' (Blk x 28 [pt g 0]::Blk g 87 [m,n,o,f,p,q,s,t,u]::Row 9 kS l c::Fo) (rs):=by
 unfold jM at hm
 refine ent Tryz.func153 rfl Tryz.ntmps153 rfl rfl fun a E=>sq<|pn 1 E rfl fun a E=>wp_seq<|sp 1 E rfl fun a E=>sv2 E rfl (iJ (i:=0) E H rfl rfl rfl U33) fun a E=>pr 1 E rfl fun a E=>nt<|wp_block<|bD (fun j a w=>∃ z,Jn 19 a w [(0,l),(1,.func (.func 98) #[] #[pt x 0]),(7,.int .i64 (c.length:Int)),(8,.int .i64 z)] (Row 9 kS l c::Blk x 28 [pt g 0]::Blk g 87 [m,n,o,f,p,q,s,t,u]::Fo) rs (dP c y j z=some r)) (((c.length:Int) - 0:Int).toNat+1) ?_ ?_
 ·exact ⟨_,_,E.to rfl,H,Y0,hm⟩
 ·clear E H hm
  rintro j a w ⟨z,D,E,H,b,hm⟩
  cases j with
  | zero=>exact (aZ hm rfl).elim
  | succ j=>
   unfold dP at hm
   refine sq<|pn 1 E rfl fun a E=>wp_seq<|wif E hm rfl (fun hm=>?_) fun hm=>?_
   ·refine wp_skip<|aA<|wp_seq<|wp_block<|sp 2 E rfl fun a E=>xp 3 E rfl fun a E=>bd hm fun F e hm=>?_
    obtain ⟨G,I,A⟩:=H.rowformNE (i:=0) rfl e
    refine sv2 E rfl (cX (d:=kS) E A rfl rfl rfl rfl U33 sz9 e) fun a E=>sv2 E rfl (mW (d:=kS) (i:=0) (k:=0) E H Qm A rfl rfl rfl e rfl U9 rfl) fun a E=>have H:=H.frs [0,2,2] rfl;bd hm fun J C hm=>bM E (wn rfl) rfl rfl (bO E rfl rfl rfl ((cf_ 98) _)) (Bc H (b _ B) C)<|?_
    rintro _ w ⟨rfl,H⟩ a E
    refine nt<|wif E hm rfl (fun hm=>?_) fun hm=>?_
    ·refine sq<|pn 2 E rfl fun a E=>wp_ret<|bF<|aG<|aG<|bF<|aG<|o1 E rfl<|?_
     cases hm
     exact ⟨rfl,H.reads b⟩
    ·exact wp_skip<|bH<|aA<|wp_region_lit<|pn 2 E rfl fun a E=>have H:=H.frs [1,1,2] rfl;⟨j,Nat.lt_succ_self j,_,_,E.to rfl,H,b,hm⟩
   ·refine wp_exit<|aL<|aL<|cH<|aA<|sq<|pn 1 E rfl fun a E=>wp_ret<|o1 E rfl<|have H:=H.frs [0,2,2] rfl;?_
    cases hm
    exact ⟨rfl,H.reads b⟩

def fF(d:List ByteArray)(b:List aO):Option Bool:=
  (jM d b).bind fun c=>some (decide (c ≥ 0))
theorem s2{n b d e f g i j k l:Value}{o:List ByteArray}{p c:Nat}{m:List aO}(H:Sep w (Row 9 kS n o::Blk p 28 [pt c 0]::Blk c 87 [d,e,f,b,g,i,j,k,l]::Fo) rs)(q:rSl aV b m ∈ rs){r:Bool}(hm:fF o m=some r) :
    Cf 97 [n,.func (.func 98) #[] #[pt p 0]] w fun v w'=>.bool r=v∧Sep w' (Blk p 28 [pt c 0]::Blk c 87 [d,e,f,b,g,i,j,k,l]::Row 9 kS n o::Fo) (rs):=by
 unfold fF at hm
 refine ent Tryz.func97 rfl Tryz.ntmps97 rfl rfl fun a E=>sp 1 E rfl fun a E=>xp 2 E rfl fun a E=>bd hm fun t s hm=>xk2 E rfl (cf_ 153) (A4 H q s) fun w H a E=>pn 2 E rfl fun a E=>wp_ret<|o1 E rfl<|?_
 cases hm
 exact ⟨rfl,H.reads Y0⟩

def pS(f:List aD)(g:List aJ)(c:List aP)(d:List aH)(x20:aS)(e:Int):Option Sg:=
  if (e != 0)=true then ((fC e).bind fun i=>some (i,f,g,c,d)) else ((qB f g c d x20.Pieces).bind fun b=>some (b.1,b.2.1,b.2.2.1,b.2.2.2.1,b.2.2.2.2))
def pT(d:List aD)(e:List aJ)(b:List aP)(c:List aH)(x20:aS)(f:Int)(g:Bool):Option Sg:=
  if g=true then (pS d e b c x20 131) else (pS d e b c x20 f)
def sQ(f:List aD)(g:List aJ)(j:List aI)(k:List aO)(c:List aP)(d:List aH)(x20:aS):Option Sg:=
  (wK x20.Pieces).bind fun e=>(fF e k).bind fun i=>(nF j e).bind fun b=>if (b == 0)=true then (pT f g c d x20 b i) else (pT f g c d x20 b false)
theorem Eh{c:Nat}{J K s t e f g u x y j k l:Value}{L:List aD}{M:List aJ}{Z:List aI}{b0:List aO}{m:List aP}{n:List aH}{x20:aS}(H:Sep w (Blk c 87 [J,K,s,t,e,f,j,k,l]::Fo) rs)(z:rSl aB J L ∈ rs)(A:rSl aC K M ∈ rs)(R:rSl aR s Z ∈ rs)(S:rSl aV t b0 ∈ rs)(B:rSl bB e m ∈ rs)(C:rSl aN f n ∈ rs)(D:rSl bN g x20.Pieces ∈ rs)(T:y7 Tryz.prog ∈ rs){r:aW×cD×cP×oF×iA}(hm:sQ L M Z b0 m n x20=some r) :
    Cf 42 [pt c 0,.agg (aX x20 g u x y).toArray] w fun v w'=>∃ b1 b2 b3 b4 b5 b6 b7 N O P,.agg (bJ r.1 b1 b2 b3 b4 b5 b6).toArray=v∧Sep w' (Blk c 87 [b7,N,s,t,O,P,j,k,l]::Fo) (rSl aU b1 r.1.Results::rSl aB b2 r.1.Store.Nodes::rSl aC b3 r.1.Store.Turns::rSl aT b4 r.1.Events::rSl bU b5 r.1.Mounts::rSl (kI .i64) b6 r.1.Wounded::rSl aB b7 r.2.1::rSl aC N r.2.2.1::rSl bB O r.2.2.2.1::rSl aN P r.2.2.2.2::rs):=by
 unfold sQ at hm
 refine ent Tryz.func42 rfl Tryz.ntmps42 rfl rfl fun a E=>sq<|bx E H rfl fun o w a H E=>bx E H rfl fun p w a H E=>al2 E H rfl tI fun q w a H E=>xp 1 E rfl fun a E=>lb2 E H 1 U26 rfl fun a E=>bd hm fun d4 U hm=>xc2 E rfl (cf_ 96) (Co H D U)<|?_
 rintro _ w ⟨d5,rfl,H⟩ a E
 refine pr 1 E rfl fun a E=>xp 1 E rfl fun a E=>sv2 E rfl (nM E rfl rfl rfl) fun a E=>have H:=H.frs [2,2,4,4,4] rfl;bd hm fun d6 V hm=>xk2 E rfl (cf_ 97) (s2 H S V) fun w H a E=>pr 1 E rfl fun a E=>nx<|lb2 E H 0 U28 rfl fun a E=>pr 1 E rfl fun a E=>have H:=H.thaw (i:=2) rfl;have H:=H.frs [3,3,2,3] rfl;bd hm fun Q W hm=>xk2 E rfl (cf_ 100) (E2 H (t1 R) m0 W) fun w H a E=>pn 1 E rfl fun a E=>aK (fun a w=>∃ F,Jn 30 a w [(2,pt o 0),(3,pt p 0),(4,pt q 0),(7,.int .i64 F)] (Blk o 28 [pt c 0]::Blk p 37 (aX x20 g u x y)::Blk q 48 dC::Blk c 87 [J,K,s,t,e,f,j,k,l]::Fo) rs (pS L M m n x20 F=some r)) ?_ ?_
 ·refine aK (fun a w=>∃ G,Jn 30 a w [(2,pt o 0),(3,pt p 0),(4,pt q 0),(7,.int .i64 Q),(21,.bool G)] (Blk o 28 [pt c 0]::Blk p 37 (aX x20 g u x y)::Blk q 48 dC::Blk c 87 [J,K,s,t,e,f,j,k,l]::Fo) rs (pT L M m n x20 Q G=some r)) ?_ ?_
  ·refine wp_region_lit<|pr 3 E rfl fun a E=>cs hm (fun d hm=>?_) fun d hm=>?_
   ·exact pk 2 E (kc 19 rfl d) rfl fun a E=>nt<|have H:=H.frs [0,2,3,3] rfl;⟨_,_,E.to rfl,H,(Y1 Y0),hm⟩
   ·exact pk 2 E (kc 19 rfl d) rfl fun a E=>nt<|have H:=H.frs [0,2,3,3] rfl;⟨_,_,E.to rfl,H,(Y1 Y0),hm⟩
  ·clear E H hm
   rintro a w ⟨G,d2,E,H,I,hm⟩
   unfold pT at hm
   refine wif E hm rfl (fun hm=>?_) fun hm=>?_
   ·exact wp_region_lit<|pn 1 E rfl fun a E=>⟨_,_,E.to rfl,H,I,hm⟩
   ·exact wp_skip<|aA<|⟨_,_,E.to rfl,H,I,hm⟩
 ·clear E H hm
  rintro a w ⟨F,d3,E,H,b,hm⟩
  unfold pS at hm
  refine wp_seq<|sq<|pn 2 E rfl fun a E=>wif E hm rfl (fun hm=>?_) fun hm=>?_
  ·refine sp 1 E rfl fun a E=>bd hm fun b8 X hm=>xc2 E rfl (cf_ 53) (gP H X)<|?_
   rintro _ w ⟨b9,c0,c1,c2,c3,c4,rfl,H⟩ a E
   refine ss 2 E H rfl cV (bR H m0 mm1 mm2 mm3 mm4 mm5) fun w H=>nt<|wp_ret<|aG<|oB 2 (bJ b8 b9 c0 c1 c2 c3 c4) E H U48 rfl cV<|have H:=H.drs [0,0,0];?_
   cases hm
   exact X10 ⟨rfl,H.rdx [0,1,2,3,4,5] rfl (aE (t6 (b _ z)) (aE (t6 (b _ A)) (aE (t6 (b _ B)) (aE (t6 (b _ C)) (fun r hr=>(t6 (b r hr)))))))⟩
  ·refine wp_skip<|aA<|sq<|lb2 E H 0 U28 rfl fun a E=>pr 1 E rfl fun a E=>lb2 E H 1 U26 rfl fun a E=>have H:=H.frs [2,2,2,3] rfl;bd hm fun c5 Y hm=>xc2 E rfl (cf_ 101) (K2 H (b _ z) (b _ A) (b _ B) (b _ C) (b _ D) (b _ T) Y)<|?_
   rintro _ w ⟨c6,c7,c8,c9,d0,d1,d7,d8,d9,e0,rfl,H⟩ a E
   refine ss 3 E H rfl cV (bR H m0 mm1 mm2 mm3 mm4 mm5) fun w H=>nt<|wp_ret<|oB 3 (bJ c5.1 c6 c7 c8 c9 d0 d1) E H U48 rfl cV<|have H:=H.drs [1,1,1];?_
   cases hm
   exact X10 ⟨rfl,H.rdx [0,1,2,3,4,5,6] rfl (aE (t1 mm6) (aE (t2 mm6) (aE (t3 mm6) (fun r hr=>(t2 (t8 (b r hr)))))))⟩

def oV(b:aW×cD×cP×oF×iA)(c:x6):Option Nv:=
  some (b.1,b.2.1,b.2.2.1,b.2.2.2.1,b.2.2.2.2,c)
def iP(b:aW×cD×cP×oF×iA)(c:List tU)(x20:aS)(d:Bool):Option Nv:=
  if d=true then ((mpt (kyI .i64) c x20.Id b.1).bind fun e=>oV b e) else (oV b c)
def lG(c:List tU)(x20:aS)(f:List aD)(g:List aJ)(d:List aP)(e:List aH)(k:List aI)(l:List aO)(i:Bool):Option Nv:=
  if i=true then ((fC 2).bind fun j=>some (j,f,g,d,e,c)) else ((sQ f g k l d e x20).bind fun b=>if (x20.Id != 0)=true then (if (b.1.Err != 131)=true then (iP b c x20 (b.1.Err != 132)) else (iP b c x20 false)) else (iP b c x20 false))
def sG(b:List tU)(x20:aS)(e:List aD)(f:List aJ)(c:List aP)(d:List aH)(g:List aI)(i:List aO)(j:Bool)(k:Int)(l:Int)(m:Bool)(n:Int)(o:x5)(p:cD)(q:cP)(s:(List cE))(t:(List vD))(u:(List Int)):Option Nv:=
  if j=true then (some ((⟨k,l,m,n,o,(⟨p,q⟩:aF),s,t,u⟩:aW),e,f,c,d,b)) else (if (x20.Id != 0)=true then (lG b x20 e f c d g i ((b.length:Int) == 512)) else (lG b x20 e f c d g i false))
def rX(f:List aD)(g:List aJ)(i:List aI)(j:List aO)(d:List aP)(e:List aH)(c:List tU)(x20:aS):Option Nv:=
  (Fk (kyI .i64) c x20.Id zJ).bind fun b=>sG c x20 f g d e i j b.2 b.1.Err b.1.At b.1.Yes b.1.Epoch b.1.Results b.1.Store.Nodes b.1.Store.Turns b.1.Events b.1.Mounts b.1.Wounded
theorem Cq{o f:Nat}{d2 d3 L M I J p D F G q s:Value}{f6:List aD}{f7:List aJ}{f8:List aI}{f9:List aO}{b9:List aP}{c0:List aH}{t:List tU}{x20:aS}(H:Sep w (Blk o 87 [d2,d3,L,M,I,J,.map (some f),q,s]::cG Tryz.prog 2 (kyI .i64) bY true f t::Fo) rs)(b4:rSl aB d2 f6 ∈ rs)(b5:rSl aC d3 f7 ∈ rs)(g7:rSl aR L f8 ∈ rs)(g8:rSl aV M f9 ∈ rs)(b6:rSl bB I b9 ∈ rs)(b7:rSl aN J c0 ∈ rs)(g9:rSl bN p x20.Pieces ∈ rs)(i0:y7 Tryz.prog ∈ rs){r:aW×cD×cP×oF×iA×x6}(hm:rX f6 f7 f8 f9 b9 c0 t x20=some r) :
    Cf 54 [pt o 0,.agg (aX x20 p D F G).toArray,.func (.func 42) #[] #[]] w fun v w'=>∃ i5 i6 i7 i8 i9 j0 j1 g4 g5 g6,.agg (bJ r.1 i5 i6 i7 i8 i9 j0).toArray=v∧Sep w' (Blk o 87 [j1,g4,L,M,g5,g6,.map (some f),q,s]::cG Tryz.prog 2 (kyI .i64) bY true f r.2.2.2.2.2::Fo) (rSl aU i5 r.1.Results::rSl aB i6 r.1.Store.Nodes::rSl aC i7 r.1.Store.Turns::rSl aT i8 r.1.Events::rSl bU i9 r.1.Mounts::rSl (kI .i64) j0 r.1.Wounded::rSl aB j1 r.2.1::rSl aC g4 r.2.2.1::rSl bB g5 r.2.2.2.1::rSl aN g6 r.2.2.2.2.1::rs):=by
 unfold rX at hm
 refine ent Tryz.func54 rfl Tryz.ntmps54 rfl rfl fun a E=>sq<|bx E H rfl fun l w a H E=>al2 E H rfl tI fun u w a H E=>nt<|wp_seq<|aK (fun a w=>∃ d4 T U V X Y Z d5 b0 b1 b2 b3 d6 d7 d8 d9 e0 e1 g,Env 59 a [(0,pt o 0),(2,.func (.func 42) #[] #[]),(4,pt l 0),(6,pt u 0),(7,pt d4 0),(8,.bool d5)]∧Sep w (Blk o 87 [d2,d3,L,M,I,J,.map (some f),q,s]::Blk l 37 (aX x20 p D F G)::Blk u 48 dC::Blk d4 48 [.int .i64 b0,.int .i64 b1,.bool b2,.int .i64 b3,T,U,V,X,Y,Z]::cG Tryz.prog 2 (kyI .i64) bY true f t::Fo) g∧(∀ r,r ∈ rs→r ∈ g)∧rSl aU T d6 ∈ g∧rSl aB U d7 ∈ g∧rSl aC V d8 ∈ g∧rSl aT X d9 ∈ g∧rSl bU Y e0 ∈ g∧rSl (kI .i64) Z e1 ∈ g∧sG t x20 f6 f7 b9 c0 f8 f9 d5 b0 b1 b2 b3 d6 d7 d8 d9 e0 e1=some r) ?_ ?_
 ·refine bd hm fun j9 c1 hm=>?_
  have hI:dZ [Blk l 37 (aX x20 p D F G),Blk o 87 [d2,d3,L,M,I,J,.map (some f),q,s]] [] { w with drawn:=w.drawn+1 }:=⟨_,_,H.kept (Kp.drawn _ w _),(aM mm1 (aM mm2 (bC))),(bG)⟩
  refine wV _ (.go 0 0 (.go 1 0 (.go 2 0 (.go 3 0 (.go 4 0 (.go 5 0 (.alt 6 (.go 7 0 (.go 8 0 (.go 9 0 (.go 10 1 (.go 11 1 (.go 12 2 .nil)))))) 10 (.go 6 1 (.go 7 0 (.go 8 0 (.go 9 0 (.go 11 1 (.go 12 2 .nil))))))))))))) [12] xZ (by kernel_rfl) (fun _ _ _ h=>False.elim h.2) hI<|have H:=H.kept (Kp.drawn _ w (w.drawn+1));?_
  generalize ({ w with drawn:=w.drawn+1 }:World)=w at H hI ⊢
  replace hI:∃ W,dZ [Blk l 37 (aX x20 p D F G),Blk o 87 [d2,d3,L,M,I,J,.map (some f),q,s]] [] W:=⟨_,hI⟩
  obtain ⟨W0,hI⟩:=hI
  refine om E rfl fun a E=>ov E rfl (fun w hW=>(K4 E rfl rfl)) fun a E=>ov E rfl (fun w hW=>yC E rfl rfl (v:=pt o 6) (Ud _ _)) fun a E=>ol E mm1 U84 rfl fun a E=>ov E rfl (fun w hW=>yC E rfl rfl (v:=pt l 1) (Ua _ _)) fun a E=>ol E m0 U2 rfl fun a E=>uO rfl rfl ?_ ?_
  ·refine zH (i:=3) (K:=(kyI .i64)) E H (wn rfl) rfl rfl rfl rfl rfl rfl (iW U2) U84 Ht Np c1 fun k0 a H E=>?_
   obtain ⟨k1,k2,k3,k4,k5,k6,rfl,h⟩:=zI H;clear H;have H:=h
   refine nt<|⟨sx H [1,2] rfl,om E rfl fun a E=>ox E rfl fun a E=>ox E rfl fun a E=>dK rfl<|al2 E H rfl tI fun k7 w a H E=>nt<|⟨sx H [2,3] rfl,dK rfl<|ss 0 E H rfl cV (bR H mm5 mm4 mm3 mm2 mm1 m0) fun w H=>nt<|⟨sx H [2,3] rfl,eL rfl<|pn 1 E rfl fun a E=>iK<|?_⟩⟩⟩
   clear hI
   exact aA<|have H:=H.frs [4,1,2,3,4] rfl;X19 ⟨E.to rfl,H,(Y7 Y0),mm5,mm4,mm3,mm2,mm1,m0,hm⟩
  ·refine al2 E H rfl tI fun k8 w a H E=>nt<|⟨sx H [2,3] rfl,dK rfl<|zH (i:=4) (K:=(kyI .i64)) E H (wn rfl) rfl rfl rfl rfl rfl rfl (iW U2) U84 Ht Np c1 fun k9 a H E=>?_⟩
   obtain ⟨l0,l1,l2,l3,l4,l5,rfl,h⟩:=zI H;clear H;have H:=h
   refine nt<|⟨sx H [2,3] rfl,om E rfl fun a E=>ox E rfl fun a E=>ox E rfl fun a E=>dK rfl<|ss 0 E H rfl cV (bR H mm5 mm4 mm3 mm2 mm1 m0) fun w H=>nt<|⟨sx H [2,3] rfl,eL rfl<|pn 1 E rfl fun a E=>iK<|?_⟩⟩
   clear hI
   exact aA<|have H:=H.frs [4,1,2,3,4] rfl;X19 ⟨E.to rfl,H,(Y7 Y0),mm5,mm4,mm3,mm2,mm1,m0,hm⟩
 ·clear E H hm
  rintro a w ⟨d4,T,U,V,X,Y,Z,d5,b0,b1,b2,b3,d6,d7,d8,d9,e0,e1,g,E,H,k,e2,e3,e4,e5,e6,e7,hm⟩
  unfold sG at hm
  refine sq<|pn 1 E rfl fun a E=>wif E hm rfl (fun hm=>?_) fun hm=>?_
  ·refine sq<|ln 3 [.int .i64 b0,.int .i64 b1,.bool b2,.int .i64 b3,T,U,V,X,Y,Z] E H U48 rfl cV fun a E=>ss 2 E H rfl cV (bR H e2 e3 e4 e5 e6 e7) fun w H=>nt<|wp_ret<|aG<|oB 2 [.int .i64 b0,.int .i64 b1,.bool b2,.int .i64 b3,T,U,V,X,Y,Z] E H U48 rfl cV<|have H:=H.drs [1,1,1];?_
   cases hm
   exact X10 ⟨rfl,H.reads (aE e2 (aE e3 (aE e4 (aE e5 (aE e6 (aE e7 (aE (k _ b4) (aE (k _ b5) (aE (k _ b6) (aE (k _ b7) (k)))))))))))⟩
  ·refine wp_skip<|aA<|wp_seq<|aK (fun a w=>∃ e8,Jn 59 a w [(0,pt o 0),(2,.func (.func 42) #[] #[]),(4,pt l 0),(6,pt u 0),(32,.bool e8)] (Blk o 87 [d2,d3,L,M,I,J,.map (some f),q,s]::Blk l 37 (aX x20 p D F G)::Blk u 48 dC::cG Tryz.prog 2 (kyI .i64) bY true f t::Fo) rs (lG t x20 f6 f7 b9 c0 f8 f9 e8=some r)) ?_ ?_
   ·refine wp_region_lit<|pr 1 E rfl fun a E=>lb2 E H 1 U2 rfl fun a E=>pr 2 E rfl fun a E=>cs hm (fun j hm=>?_) fun j hm=>?_
    ·exact pk 3 E (kc 25 rfl j) rfl fun a E=>gl 25 E H 0 j U84 rfl fun a E=>gv 25 E j rfl (Bt (i:=4) E H rfl rfl rfl U84) fun a E=>pk 2 E (kc 25 rfl j) rfl fun a E=>nt<|have H:=H.drop 3;⟨_,_,E.to rfl,H,k,hm⟩
    ·exact pk 7 E (kc 25 rfl j) rfl fun a E=>nt<|have H:=H.drop 3;⟨_,_,E.to rfl,H,k,hm⟩
   ·clear E H hm
    rintro a w ⟨e8,l6,E,H,d,hm⟩
    unfold lG at hm
    refine wif E hm rfl (fun hm=>?_) fun hm=>?_
    ·refine sq<|bd hm fun j2 i1 hm=>xc2 E rfl (cf_ 53) (gP H i1)<|?_
     rintro _ w ⟨j3,j4,j5,j6,j7,j8,rfl,H⟩ a E
     refine ss 2 E H rfl cV (bR H m0 mm1 mm2 mm3 mm4 mm5) fun w H=>nt<|wp_ret<|aG<|oB 2 (bJ j2 j3 j4 j5 j6 j7 j8) E H U48 rfl cV<|have H:=H.drs [1,1];?_
     cases hm
     exact X10 ⟨rfl,H.rdx [0,1,2,3,4,5] rfl (aE (t6 (d _ b4)) (aE (t6 (d _ b5)) (aE (t6 (d _ b6)) (aE (t6 (d _ b7)) (fun r hr=>(t6 (d r hr)))))))⟩
    ·refine wp_skip<|aA<|sp 2 E rfl fun a E=>ln 1 (aX x20 p D F G) E H U37 rfl M5 fun a E=>bd hm fun b i2 hm=>bM E (wn rfl) rfl rfl (bO E rfl rfl rfl ((cf_ 42) _)) (Eh H (d _ b4) (d _ b5) (d _ g7) (d _ g8) (d _ b6) (d _ b7) (d _ g9) (d _ i0) i2)<|?_
     rintro _ w ⟨x,y,z,A,B,C,c2,c3,c4,c5,rfl,H⟩ a E
     refine al2 E H rfl tI fun c6 w a H E=>ss 0 E H rfl cV (bR H m0 mm1 mm2 mm3 mm4 mm5) fun w H=>nt<|aK (fun a w=>∃ e9 e,Env 59 a [(6,pt u 0),(9,pt c6 0)]∧Sep w (Blk u 48 dC::Blk c6 48 (bJ b.1 x y z A B C)::Blk o 87 [c2,c3,L,M,c4,c5,.map (some f),q,s]::cG Tryz.prog 2 (kyI .i64) bY true f e9::Fo) e∧(∀ r,r ∈ rs→r ∈ e)∧rSl aU x b.1.Results ∈ e∧rSl aB y b.1.Store.Nodes ∈ e∧rSl aC z b.1.Store.Turns ∈ e∧rSl aT A b.1.Events ∈ e∧rSl bU B b.1.Mounts ∈ e∧rSl (kI .i64) C b.1.Wounded ∈ e∧rSl aB c2 b.2.1 ∈ e∧rSl aC c3 b.2.2.1 ∈ e∧rSl bB c4 b.2.2.2.1 ∈ e∧rSl aN c5 b.2.2.2.2 ∈ e∧oV b e9=some r) ?_ ?_
     ·refine aK (fun a w=>∃ b8 c,Env 59 a [(0,pt o 0),(4,pt l 0),(6,pt u 0),(9,pt c6 0),(50,.bool b8)]∧Sep w (Blk o 87 [c2,c3,L,M,c4,c5,.map (some f),q,s]::Blk l 37 (aX x20 p D F G)::Blk u 48 dC::Blk c6 48 (bJ b.1 x y z A B C)::cG Tryz.prog 2 (kyI .i64) bY true f t::Fo) c∧(∀ r,r ∈ rs→r ∈ c)∧rSl aB c2 b.2.1 ∈ c∧rSl aC c3 b.2.2.1 ∈ c∧rSl bB c4 b.2.2.2.1 ∈ c∧rSl aN c5 b.2.2.2.2 ∈ c∧rSl aU x b.1.Results ∈ c∧rSl aB y b.1.Store.Nodes ∈ c∧rSl aC z b.1.Store.Turns ∈ c∧rSl aT A b.1.Events ∈ c∧rSl bU B b.1.Mounts ∈ c∧rSl (kI .i64) C b.1.Wounded ∈ c∧iP b t x20 b8=some r) ?_ ?_
      ·refine wp_region_lit<|pr 1 E rfl fun a E=>lb2 E H 2 U2 rfl fun a E=>pr 2 E rfl fun a E=>cs hm (fun m hm=>?_) fun m hm=>?_
       ·refine pk 1 E (kc 41 rfl m) rfl fun a E=>gl 41 E H 0 m U41 rfl fun a E=>pk 3 E (kc 41 rfl m) rfl fun a E=>cs hm (fun n hm=>?_) fun n hm=>?_
        ·exact pk 1 E (kc 46 rfl n) rfl fun a E=>gl 46 E H 0 n U41 rfl fun a E=>pk 2 E (kc 46 rfl n) rfl fun a E=>nt<|have H:=H.frs [4,1,4,4,4] rfl;⟨_,_,E.to rfl,H,(Y2 (Y8 d)),mm6,(t1 mm6),(t2 mm6),(t3 mm6),m0,mm1,mm2,mm3,mm4,mm5,hm⟩
        ·exact pk 4 E (kc 46 rfl n) rfl fun a E=>nt<|have H:=H.frs [4,1,4,4,4] rfl;⟨_,_,E.to rfl,H,(Y2 (Y8 d)),mm6,(t1 mm6),(t2 mm6),(t3 mm6),m0,mm1,mm2,mm3,mm4,mm5,hm⟩
       ·exact pk 9 E (kc 41 rfl m) rfl fun a E=>nt<|have H:=H.frs [4,1,4,4,4] rfl;⟨_,_,E.to rfl,H,(Y2 (Y8 d)),mm6,(t1 mm6),(t2 mm6),(t3 mm6),m0,mm1,mm2,mm3,mm4,mm5,hm⟩
      ·clear E H hm
       rintro a w ⟨b8,c,E,H,c7,c8,c9,d0,d1,N,O,P,Q,R,S,hm⟩
       unfold iP at hm
       refine wif E hm rfl (fun hm=>?_) fun hm=>?_
       ·refine dz [0,0,0,0,0,0,0,2] [0,1,3] H fun w W0 hI H=>fn 3 E rfl fun a E=>fb2 E m0 U84 rfl fun a E=>fn 1 E rfl fun a E=>fb2 E mm1 U2 rfl fun a E=>fbn E (bJ b.1 x y z A B C) rfl (wn rfl) rfl rfl rfl rfl mm2 rfl U48 rfl cV fun a E=>bL rfl<|bd hm fun l7 g0 hm=>Dk (i:=4) (K:=(kyI .i64)) (v:=b.1) (cs:=[.int .i64 b.1.Err,.int .i64 b.1.At,.bool b.1.Yes,.int .i64 b.1.Epoch,x,y,z,A,B,C]) E H (wn rfl) rfl rfl rfl rfl rfl rfl (iW U2) U84 g0 (fun ok hr=>(yU (hr _ N) (hr _ O) (hr _ P) (hr _ Q) (hr _ R) (hr _ S))) fun w H=>nt<|aY<|?_
        clear hI
        exact aA<|have H:=H.drop 1;have H:=H.frs [3,1,3,3] rfl;⟨_,_,E.to rfl,H,c7,N,O,P,Q,R,S,c8,c9,d0,d1,hm⟩
       ·exact wp_skip<|aA<|have H:=H.drop 1;have H:=H.frs [3,1,3,3] rfl;⟨_,_,E.to rfl,H,c7,N,O,P,Q,R,S,c8,c9,d0,d1,hm⟩
     ·clear E H hm
      rintro a w ⟨e9,e,E,H,i3,f0,f1,f2,f3,f4,f5,i4,g1,g2,g3,hm⟩
      unfold oV at hm
      refine sq<|ln 1 (bJ b.1 x y z A B C) E H U48 rfl cV fun a E=>ss 0 E H rfl cV (bR H f0 f1 f2 f3 f4 f5) fun w H=>nt<|wp_ret<|oB 0 (bJ b.1 x y z A B C) E H U48 rfl cV<|have H:=H.drs [0,0];?_
      cases hm
      exact X10 ⟨rfl,H.reads (aE f0 (aE f1 (aE f2 (aE f3 (aE f4 (aE f5 (aE i4 (aE g1 (aE g2 (aE g3 (i3)))))))))))⟩

def tE(x1:Int):Option Bool:=
  if (decide (x1 ≥ 0))=true then (some (decide (x1 ≤ 281474976710656))) else (some (false))
theorem s3{x1:Int}(H:Sep w (Fo) rs){r:Bool}(hm:tE x1=some r) :
    Cf 163 [.int .i64 x1] w fun v w'=>.bool r=v∧Sep w' (Fo) (rs):=by
 unfold tE at hm
 refine ent Tryz.func163 rfl Tryz.ntmps163 rfl rfl fun a E=>sp 1 E rfl fun a E=>xp 3 E rfl fun a E=>cs hm (fun b hm=>?_) fun b hm=>?_
 ·refine pk 4 E (kc 5 rfl b) rfl fun a E=>nt<|wp_ret<|o1 E rfl<|?_
  cases hm
  exact ⟨rfl,H.reads Y0⟩
 ·refine pk 4 E (kc 5 rfl b) rfl fun a E=>nt<|wp_ret<|o1 E rfl<|?_
  cases hm
  exact ⟨rfl,H.reads Y0⟩

def hY(rec_1:Int→P5→Option Bool)(e:P5)(b:aO)(f:Int)(c:Bool):Option Bool:=
  if c=true then (some (false)) else ((mpt (kyI .i64) e b.Txn b.Age).bind fun d=>rec_1 (IntKind.i64.wrap (f+1)) d)
def fI(d:List aO):Nat→Int→P5→Option Bool
  | 0,_,_=>none
  | f+1,c,e=>
    if (decide (c < (d.length:Int)))=true then ((idx d c).bind fun b=>(mlk (kyI .i64) e b.Txn).bind fun g=>(dX b.Dir).bind fun i=>if (!i)=true then (hY (fI d f) e b c true) else ((tE b.Txn).bind fun j=>if (!j)=true then (hY (fI d f) e b c true) else ((tE b.Age).bind fun k=>if (!k)=true then (hY (fI d f) e b c true) else (if g.isSome=true then (if ((g.getD 0) != b.Age)=true then (hY (fI d f) e b c true) else (if (decide (c > 0))=true then ((idx d (IntKind.i64.wrap (c - 1))).bind fun l=>hY (fI d f) e b c (!(sLt l.Dir b.Dir))) else (hY (fI d f) e b c false))) else (if (decide (c > 0))=true then ((idx d (IntKind.i64.wrap (c - 1))).bind fun m=>hY (fI d f) e b c (!(sLt m.Dir b.Dir))) else (hY (fI d f) e b c false)))))) else (some (true))
def J7(b:List aO):Option Bool:=
  fI b (((b.length:Int) - 0:Int).toNat+1) 0 []
theorem Lt{q:Value}{o:List aO}(H:Sep w (Fo) rs)(s:rSl aV q o ∈ rs){r:Bool}(hm:J7 o=some r) :
    Cf 162 [q] w fun v w'=>.bool r=v∧Sep w' (Fo) (rs):=by
 unfold J7 at hm
 refine ent Tryz.func162 rfl Tryz.ntmps162 rfl rfl fun a E=>sp 1 E rfl fun a E=>nx<|xY (k:=2) (K:=(kyI .i64)) (d:=(kI .i64)) (g:=false) E H (wn rfl) rfl rfl rfl fun A w a H E=>pn 1 E rfl fun a E=>wp_seq<|sq<|pr 1 E rfl fun a E=>lS E H s U58 rfl fun a E=>pn 1 E rfl fun a E=>wp_block<|bD (fun p a w=>∃ t x,Jn 69 a w [(0,q),(3,.map (some A)),(9,q),(10,.int .i64 (o.length:Int)),(11,.int .i64 t)] (cG Tryz.prog 2 (kyI .i64) (kI .i64) false A x::Fo) rs (fI o p t x=some r)) (((o.length:Int) - 0:Int).toNat+1) ?_ ?_
 ·exact X3 ⟨E.to rfl,H,Y0,hm⟩
 ·clear E H hm
  rintro p a w ⟨t,x,X,E,H,e,hm⟩
  cases p with
  | zero=>exact (aZ hm rfl).elim
  | succ p=>
   unfold fI at hm
   refine sq<|pn 1 E rfl fun a E=>wp_seq<|wif E hm rfl (fun hm=>?_) fun hm=>?_
   ·refine wp_skip<|aA<|wp_seq<|wp_block<|sp 1 E rfl fun a E=>bd hm fun C D hm=>cN E H (wn rfl) rfl rfl rfl rfl rfl (e _ s) U58 pG D fun q11 a H E=>ldf fB E H rfl rfl rfl rfl rfl m0 U78 rfl pG fun a E=>al2 E H rfl Wr fun B w a H E=>pr 1 E rfl fun a E=>ss 0 E H rfl pG rfl fun w H=>xp 2 E rfl fun a E=>lb2 E H 0 U2 rfl fun a E=>bd hm fun V F hm=>sv2 E rfl (Yv (i:=1) (K:=(kyI .i64)) (z0:=0) (u:=V) E H rfl rfl rfl rfl (iW U2) EF HO F) fun a E=>pr 5 E rfl fun a E=>nt<|wp_seq<|aK (fun a w=>∃ y,Jn 69 a w [(0,q),(3,.map (some A)),(5,pt B 0),(9,q),(10,.int .i64 (o.length:Int)),(11,.int .i64 t),(62,.bool y)] (cG Tryz.prog 2 (kyI .i64) (kI .i64) false A x::Blk B 78 (sT C)::Fo) rs (hY (fI o p) x C t y=some r)) ?_ ?_
    ·obtain ⟨Y,H⟩:=H.raw (t1 (e _ s))
     refine dw [(0,0),(1,0),(2,1),(3,0),(4,0),(5,0),(6,0),(7,1),(8,0),(9,0),(10,0),(11,0),(12,0),(13,1),(14,0),(15,0),(16,0),(17,0),(18,0),(19,0),(20,0),(21,0),(22,0),(23,0),(24,0),(25,0),(26,0),(27,0),(28,0),(29,0),(30,0),(31,0),(32,0),(33,0),(34,0),(35,0),(36,0),(37,0),(38,0),(39,0)] [0] [0] H (by kernel_rfl) (fun _ _ _ h=>False.elim h.2) fun w W0 hI H=>fn 1 E rfl fun a E=>fb2 E m0 U9 rfl fun a E=>bI rfl<|bd hm fun Z G hm=>xk2 E rfl (cf_ 83) (iL H G) fun w H a E=>nt<|⟨⟨_,_,H,(aM m0 (bC)),(aE m0 (bG))⟩,fn 2 E rfl fun a E=>cs hm (fun f hm=>?_) fun f hm=>?_⟩
     ·refine fk 2 E (kc 27 rfl f) rfl fun a E=>bI rfl<|pk 1 E (kc 27 rfl f) rfl fun a E=>nt<|⟨⟨_,_,H,(aM m0 (bC)),(aE m0 (bG))⟩,fk 5 E (kc 27 rfl f) rfl fun a E=>bI rfl<|pn 1 E rfl fun a E=>⟨⟨_,_,H,(aM m0 (bC)),(aE m0 (bG))⟩,fn 26 E rfl fun a E=>aY<|?_⟩⟩
      clear hI
      exact aA<|have H:=H.frs [0,1] rfl;⟨_,_,E.to rfl,H,(Y2 e),hm⟩
     ·refine fk 1 E (kc 27 rfl f) rfl fun a E=>fb E rfl (ws' (d:=27) E rfl rfl rfl rfl f) rfl rfl rfl rfl m0 rfl U2 rfl fun a E=>bI rfl<|bd hm fun b0 I hm=>gc 27 E f rfl (cf_ 163) (s3 H I)<|?_
      rintro _ w ⟨rfl,H⟩ a E
      refine nt<|⟨⟨_,_,H,(aM m0 (bC)),(aE m0 (bG))⟩,fk 3 E (kc 27 rfl f) rfl fun a E=>cs hm (fun j hm=>?_) fun j hm=>?_⟩
      ·refine fk 2 E (kc 33 rfl j) rfl fun a E=>bI rfl<|pk 1 E (kc 33 rfl j) rfl fun a E=>nt<|⟨⟨_,_,H,(aM m0 (bC)),(aE m0 (bG))⟩,fk 26 E (kc 33 rfl j) rfl fun a E=>aY<|?_⟩
       clear hI
       exact aA<|have H:=H.frs [0,1] rfl;⟨_,_,E.to rfl,H,(Y2 e),hm⟩
      ·refine fk 1 E (kc 33 rfl j) rfl fun a E=>fb E rfl (ws' (d:=33) E rfl rfl rfl rfl j) rfl rfl rfl rfl m0 rfl U2 rfl fun a E=>bI rfl<|bd hm fun b1 J hm=>gc 33 E j rfl (cf_ 163) (s3 H J)<|?_
       rintro _ w ⟨rfl,H⟩ a E
       refine nt<|⟨⟨_,_,H,(aM m0 (bC)),(aE m0 (bG))⟩,fk 3 E (kc 33 rfl j) rfl fun a E=>cs hm (fun l hm=>?_) fun l hm=>?_⟩
       ·refine fk 23 E (kc 39 rfl l) rfl fun a E=>aY<|?_
        clear hI
        exact aA<|have H:=H.frs [0,1] rfl;⟨_,_,E.to rfl,H,(Y2 e),hm⟩
       ·refine fk 2 E (kc 39 rfl l) rfl fun a E=>cs hm (fun m hm=>?_) fun m hm=>?_
        ·refine fk 2 E (kc 41 rfl m) rfl fun a E=>fb E rfl (ws' (d:=41) E rfl rfl rfl rfl m) rfl rfl rfl rfl m0 rfl U2 rfl fun a E=>fk 4 E (kc' (kc 41 rfl m) 39 rfl l) rfl fun a E=>cs hm (fun n hm=>?_) fun n hm=>?_
         ·refine fk 14 E (kc 48 rfl n) rfl fun a E=>aY<|?_
          clear hI
          exact aA<|have H:=H.frs [0,1] rfl;⟨_,_,E.to rfl,H,(Y2 e),hm⟩
         ·refine fk 3 E (kc 48 rfl n) rfl fun a E=>cs hm (fun b hm=>?_) fun b hm=>?_
          ·refine fk 3 E (kc 51 rfl b) rfl fun a E=>bd hm fun b2 L hm=>?_
           obtain ⟨q35,b3,M,N⟩:=gK (P:=Tryz.prog) (k:=.i64) hI (gD (.head _)) U58 pG L
           refine cZ E rfl (ws' (d:=51) E rfl rfl rfl rfl b) rfl rfl (fun w hW=>jQ E rfl rfl rfl (M w)) fun a E=>?_
           have O:=rO N (fun _ _ _ h=>V2 h)
           refine fk 1 E (kc 51 rfl b) rfl fun a E=>fa E rfl (ws' (d:=51) E rfl rfl rfl rfl b) rfl rfl rfl rfl O U9 rfl fun a E=>fk 1 E (kc 51 rfl b) rfl fun a E=>fb E rfl (ws' (d:=51) E rfl rfl rfl rfl b) rfl rfl rfl rfl m0 rfl U9 rfl fun a E=>fk 3 E (kc' (kc 51 rfl b) 48 rfl n) rfl fun a E=>aY<|?_
           clear hI
           exact aA<|have H:=H.frs [0,1] rfl;⟨_,_,E.to rfl,H,(Y2 e),hm⟩
          ·refine fk 11 E (kc' (kc 51 rfl b) 48 rfl n) rfl fun a E=>aY<|?_
           clear hI
           exact aA<|have H:=H.frs [0,1] rfl;⟨_,_,E.to rfl,H,(Y2 e),hm⟩
        ·refine fk 10 E (kc' (kc 41 rfl m) 39 rfl l) rfl fun a E=>cs hm (fun c hm=>?_) fun c hm=>?_
         ·refine fk 3 E (kc 51 rfl c) rfl fun a E=>bd hm fun b4 Q hm=>?_
          obtain ⟨q43,b5,R,S⟩:=gK (P:=Tryz.prog) (k:=.i64) hI (gD (.head _)) U58 pG Q
          refine cZ E rfl (ws' (d:=51) E rfl rfl rfl rfl c) rfl rfl (fun w hW=>jQ E rfl rfl rfl (R w)) fun a E=>?_
          have T:=rO S (fun _ _ _ h=>V2 h)
          refine fk 1 E (kc 51 rfl c) rfl fun a E=>fa E rfl (ws' (d:=51) E rfl rfl rfl rfl c) rfl rfl rfl rfl T U9 rfl fun a E=>fk 1 E (kc 51 rfl c) rfl fun a E=>fb E rfl (ws' (d:=51) E rfl rfl rfl rfl c) rfl rfl rfl rfl m0 rfl U9 rfl fun a E=>fk 3 E (kc 51 rfl c) rfl fun a E=>aY<|?_
          clear hI
          exact aA<|have H:=H.frs [0,1] rfl;⟨_,_,E.to rfl,H,(Y2 e),hm⟩
         ·refine fk 11 E (kc 51 rfl c) rfl fun a E=>aY<|?_
          clear hI
          exact aA<|have H:=H.frs [0,1] rfl;⟨_,_,E.to rfl,H,(Y2 e),hm⟩
    ·clear E H hm
     rintro a w ⟨y,W,E,H,z,hm⟩
     unfold hY at hm
     refine wif E hm rfl (fun hm=>?_) fun hm=>?_
     ·refine sq<|pn 1 E rfl fun a E=>wp_ret<|aG<|bF<|aG<|aG<|bF<|aG<|o1 E rfl<|have H:=H.drs [0,0];?_
      cases hm
      exact ⟨rfl,H.reads z⟩
     ·exact wp_skip<|aA<|wp_region_lit<|pr 2 E rfl fun a E=>lb2 E H 1 U2 rfl fun a E=>pr 1 E rfl fun a E=>lb2 E H 1 U2 rfl fun a E=>bd hm fun b6 U hm=>Qi (i:=0) (K:=(kyI .i64)) (v:=C.Age) E H (wn rfl) rfl rfl rfl rfl rfl rfl (iW U2) EF U fun w H=>wpList_nil<|bH<|aA<|wp_region_lit<|pn 2 E rfl fun a E=>have H:=H.drop 1;⟨p,Nat.lt_succ_self p,X3 ⟨E.to rfl,H,z,hm⟩⟩
   ·refine wp_exit<|aL<|aL<|cH<|aA<|sq<|pn 1 E rfl fun a E=>wp_ret<|o1 E rfl<|have H:=H.drop 0;?_
    cases hm
    exact ⟨rfl,H.reads e⟩

def mJ(b:List ((Int)×Int)):Option Unit:=
  some ()
theorem s4{c:Nat}{d:List ((Int)×Int)}(H:Sep w (cG Tryz.prog 2 (kyI .i64) (kI .i64) false c d::Fo) rs){r:Unit}(hm:mJ d=some r) :
    Cf 167 [.map (some c)] w fun v w'=>∃ b,.func (.func 238) #[] #[pt b 0]=v∧Sep w' (Blk b 209 [.map (some c)]::cG Tryz.prog 2 (kyI .i64) (kI .i64) false c d::Fo) (rs):=by
 unfold mJ at hm
 refine ent Tryz.func167 rfl Tryz.ntmps167 rfl rfl fun a E=>sq<|bx E H rfl fun e w a H E=>pr 1 E rfl fun a E=>nx<|sv2 E rfl (nM E rfl rfl rfl) fun a E=>pn 1 E rfl fun a E=>wp_ret<|o1 E rfl<|?_
 cases hm
 exact ⟨_,rfl,H.reads Y0⟩

def s5(x1:aO)(b:ByteArray):Option Int:=
  (qA x1.Dir b).bind fun c=>some (c)
theorem W3{x1:aO}{b:ByteArray}(H:Sep w (Fo) rs){r:Int}(hm:s5 x1 b=some r) :
    Cf 169 [.agg (sT x1).toArray,.string b] w fun v w'=>.int .i64 r=v∧Sep w' (Fo) (rs):=by
 unfold s5 at hm
 refine ent Tryz.func169 rfl Tryz.ntmps169 rfl rfl fun a E=>sq<|bx E H rfl fun d w a H E=>pr 1 E rfl fun a E=>xp 1 E rfl fun a E=>lb2 E H 0 U9 rfl fun a E=>pr 1 E rfl fun a E=>bd hm fun e c hm=>xk2 E rfl (cf_ 113) (vO H c) fun w H a E=>pn 1 E rfl fun a E=>wp_ret<|o1 E rfl<|have H:=H.drop 0;?_
 cases hm
 exact ⟨rfl,H.reads Y0⟩

def dA(c:List aO)(e:ByteArray):Nat→Int→Int→Option a7
  | 0,_,_=>none
  | f+1,b,d=>
    if (decide (b < d))=true then ((idx c (IntKind.i64.wrap (wT .u64 (IntKind.u64.wrap (IntKind.i64.wrap (b+d))) 1))).bind fun k=>(s5 k e).bind fun g=>if (decide (g < 0))=true then (dA c e f (IntKind.i64.wrap ((IntKind.i64.wrap (wT .u64 (IntKind.u64.wrap (IntKind.i64.wrap (b+d))) 1))+1)) d) else (dA c e f b (IntKind.i64.wrap (wT .u64 (IntKind.u64.wrap (IntKind.i64.wrap (b+d))) 1)))) else (if (decide (b < (c.length:Int)))=true then ((idx c b).bind fun i=>(s5 i e).bind fun j=>some (b,j == 0)) else (some (b,false)))
def fQ(b:List aO)(c:ByteArray):Option a7:=
  dA b c (((b.length:Int) - 0:Int).toNat+1) 0 (b.length:Int)
theorem sY{j:Value}{e:List aO}{o:ByteArray}(H:Sep w (Row 78 aV j e::Fo) rs){r:Int×Bool}(hm:fQ e o=some r) :
    Cf 168 [j,.string o,.func (.func 169) #[] #[]] w fun v w'=>.tuple #[.int .i64 r.1,.bool r.2]=v∧Sep w' (Row 78 aV j e::Fo) (rs):=by
 unfold fQ at hm
 refine ent Tryz.func168 rfl Tryz.ntmps168 rfl rfl fun a E=>sp 2 E rfl fun a E=>xp 1 E rfl fun a E=>sv2 E rfl (iJ (i:=0) E H rfl rfl rfl U58) fun a E=>pr 1 E rfl fun a E=>xp 3 E rfl fun a E=>nt<|wp_seq<|wp_block<|bD (fun c a w=>∃ p q,Jn 49 a w [(0,j),(1,.string o),(2,.func (.func 169) #[] #[]),(8,.int .i64 (e.length:Int)),(9,.int .i64 p),(10,.int .i64 q)] (Row 78 aV j e::Fo) rs (dA e o c p q=some r)) (((e.length:Int) - 0:Int).toNat+1) ?_ ?_
 ·exact X3 ⟨E.to rfl,H,Y0,hm⟩
 ·clear E H hm
  rintro c a w ⟨p,q,x,E,H,g,hm⟩
  cases c with
  | zero=>exact (aZ hm rfl).elim
  | succ c=>
   unfold dA at hm
   refine wp_seq<|sq<|pn 3 E rfl fun a E=>wif E hm rfl (fun hm=>?_) fun hm=>?_
   ·refine wp_skip<|aA<|wp_block<|sp 4 E rfl fun a E=>sv2 E rfl (Gv E rfl rfl rfl (by decide)) fun a E=>pr 2 E rfl fun a E=>xp 3 E rfl fun a E=>bd hm fun s k hm=>?_
    obtain ⟨y,z,l⟩:=H.rowformNE (i:=0) rfl k
    refine sv2 E rfl (cX (d:=aV) E l rfl rfl rfl rfl U58 pG k) fun a E=>sv2 E rfl (lP (i:=0) E H fB l rfl rfl rfl k (us:=[.string s.Dir,.int .i64 s.Txn,.int .i64 s.Age]) rfl U78 rfl pG) fun a E=>pr 1 E rfl fun a E=>bd hm fun A t hm=>bM E (wn rfl) rfl rfl (bO E rfl rfl rfl ((cf_ 169) _)) (W3 H t)<|?_
    rintro _ w ⟨rfl,H⟩ a E
    refine pn 1 E rfl fun a E=>wif E hm rfl (fun hm=>?_) fun hm=>?_
    ·exact wp_region_lit<|pr 3 E rfl fun a E=>wpList_nil<|bH<|aA<|⟨c,Nat.lt_succ_self c,X3 ⟨E.to rfl,H,g,hm⟩⟩
    ·exact wp_region_lit<|pr 2 E rfl fun a E=>wpList_nil<|bH<|aA<|⟨c,Nat.lt_succ_self c,X3 ⟨E.to rfl,H,g,hm⟩⟩
   ·refine wp_exit<|aL<|aL<|cH<|aA<|sp 5 E rfl fun a E=>cs hm (fun b hm=>?_) fun b hm=>?_
    ·refine pk 3 E (kc 39 rfl b) rfl fun a E=>bd hm fun m f hm=>?_
     obtain ⟨B,C,n⟩:=H.rowformNE (i:=0) rfl f
     refine gv 39 E b rfl (cX (d:=aV) E n rfl rfl rfl rfl U58 pG f) fun a E=>gv 39 E b rfl (lP (i:=0) E H fB n rfl rfl rfl f (us:=[.string m.Dir,.int .i64 m.Txn,.int .i64 m.Age]) rfl U78 rfl pG) fun a E=>pk 1 E (kc 39 rfl b) rfl fun a E=>bd hm fun D u hm=>bM E (ws' (d:=39) E rfl rfl rfl rfl b) rfl rfl (bO E rfl rfl rfl ((cf_ 169) _)) (W3 H u)<|?_
     rintro _ w ⟨rfl,H⟩ a E
     refine pk 4 E (kc 39 rfl b) rfl fun a E=>nt<|wp_ret<|fW E rfl rfl rfl<|?_
     cases hm
     exact ⟨rfl,H.reads g⟩
    ·refine pk 11 E (kc 39 rfl b) rfl fun a E=>nt<|wp_ret<|fW E rfl rfl rfl<|?_
     cases hm
     exact ⟨rfl,H.reads g⟩

def F4(x1:aO)(x3:Int)(b:Int):Option Bool:=
  if (x1.Txn == x3)=true then (some (x1.Age != b)) else (some (false))
theorem Js{x1:aO}{c d:Nat}{x3 e:Int}(H:Sep w (Blk c 2 [.int .i64 x3]::Blk d 2 [.int .i64 e]::Fo) rs){r:Bool}(hm:F4 x1 x3 e=some r) :
    Cf 161 [.agg (sT x1).toArray,pt c 0,pt d 0] w fun v w'=>.bool r=v∧Sep w' (Blk c 2 [.int .i64 x3]::Blk d 2 [.int .i64 e]::Fo) (rs):=by
 unfold F4 at hm
 refine ent Tryz.func161 rfl Tryz.ntmps161 rfl rfl fun a E=>sq<|bx E H rfl fun f w a H E=>pr 1 E rfl fun a E=>xp 1 E rfl fun a E=>lb2 E H 0 U2 rfl fun a E=>lb2 E H 1 U2 rfl fun a E=>pr 2 E rfl fun a E=>cs hm (fun b hm=>?_) fun b hm=>?_
 ·refine pk 1 E (kc 9 rfl b) rfl fun a E=>gl 9 E H 0 b U2 rfl fun a E=>gl 9 E H 2 b U2 rfl fun a E=>pk 3 E (kc 9 rfl b) rfl fun a E=>nt<|wp_ret<|o1 E rfl<|have H:=H.drop 0;?_
  cases hm
  exact ⟨rfl,H.reads Y0⟩
 ·refine pk 6 E (kc 9 rfl b) rfl fun a E=>nt<|wp_ret<|o1 E rfl<|have H:=H.drop 0;?_
  cases hm
  exact ⟨rfl,H.reads Y0⟩

def fN(c:List aO)(d:Int)(e:Int):Nat→Int→Option Int
  | 0,_=>none
  | i+1,b=>
    if (decide (b < (c.length:Int)))=true then ((idx c b).bind fun f=>(F4 f d e).bind fun g=>if g=true then (some (b)) else (fN c d e i (IntKind.i64.wrap (b+1)))) else (some ((-1)))
def kH(b:List aO)(c:Int)(d:Int):Option Int:=
  fN b c d (((b.length:Int) - 0:Int).toNat+1) 0
theorem yO{k:Value}{d:List aO}{e f:Nat}{g i:Int}(H:Sep w (Blk e 2 [.int .i64 g]::Blk f 2 [.int .i64 i]::Fo) rs)(j:rSl aV k d ∈ rs){r:Int}(hm:kH d g i=some r) :
    Cf 154 [k,.func (.func 161) #[] #[pt e 0,pt f 0]] w fun v w'=>.int .i64 r=v∧Sep w' (Blk e 2 [.int .i64 g]::Blk f 2 [.int .i64 i]::Fo) (rs):=by
 unfold kH at hm
 refine ent Tryz.func154 rfl Tryz.ntmps154 rfl rfl fun a E=>sq<|pn 1 E rfl fun a E=>wp_seq<|sp 1 E rfl fun a E=>lS E H j U58 rfl fun a E=>pr 1 E rfl fun a E=>nt<|wp_block<|bD (fun c a w=>∃ l,Jn 19 a w [(0,k),(1,.func (.func 161) #[] #[pt e 0,pt f 0]),(7,.int .i64 (d.length:Int)),(8,.int .i64 l)] (Blk e 2 [.int .i64 g]::Blk f 2 [.int .i64 i]::Fo) rs (fN d g i c l=some r)) (((d.length:Int) - 0:Int).toNat+1) ?_ ?_
 ·exact ⟨_,_,E.to rfl,H,Y0,hm⟩
 ·clear E H hm
  rintro c a w ⟨l,o,E,H,b,hm⟩
  cases c with
  | zero=>exact (aZ hm rfl).elim
  | succ c=>
   unfold fN at hm
   refine sq<|pn 1 E rfl fun a E=>wp_seq<|wif E hm rfl (fun hm=>?_) fun hm=>?_
   ·refine wp_skip<|aA<|wp_seq<|wp_block<|sp 2 E rfl fun a E=>xp 3 E rfl fun a E=>bd hm fun p m hm=>cN E H (wn rfl) rfl rfl rfl rfl rfl (b _ j) U58 pG m fun q13 a H E=>ldf fB E H rfl rfl rfl rfl rfl m0 U78 rfl pG fun a E=>bd hm fun q n hm=>bM E (wn rfl) rfl rfl (bO E rfl rfl rfl ((cf_ 161) _)) (Js H n)<|?_
    rintro _ w ⟨rfl,H⟩ a E
    refine nt<|wif E hm rfl (fun hm=>?_) fun hm=>?_
    ·refine sq<|pn 2 E rfl fun a E=>wp_ret<|bF<|aG<|aG<|bF<|aG<|o1 E rfl<|?_
     cases hm
     exact ⟨rfl,H.reads (Y1 b)⟩
    ·exact wp_skip<|bH<|aA<|wp_region_lit<|pn 2 E rfl fun a E=>⟨c,Nat.lt_succ_self c,_,_,E.to rfl,H,(Y1 b),hm⟩
   ·refine wp_exit<|aL<|aL<|cH<|aA<|sq<|pn 1 E rfl fun a E=>wp_ret<|o1 E rfl<|?_
    cases hm
    exact ⟨rfl,H.reads b⟩

def iU(b:List aO)(c:Int)(d:Int):Option Bool:=
  (kH b c d).bind fun e=>some (decide (e ≥ 0))
theorem wQ{f:Value}{g:List aO}{b c:Nat}{d e:Int}(H:Sep w (Blk b 2 [.int .i64 d]::Blk c 2 [.int .i64 e]::Fo) rs)(i:rSl aV f g ∈ rs){r:Bool}(hm:iU g d e=some r) :
    Cf 160 [f,.func (.func 161) #[] #[pt b 0,pt c 0]] w fun v w'=>.bool r=v∧Sep w' (Blk b 2 [.int .i64 d]::Blk c 2 [.int .i64 e]::Fo) (rs):=by
 unfold iU at hm
 refine ent Tryz.func160 rfl Tryz.ntmps160 rfl rfl fun a E=>sp 1 E rfl fun a E=>xp 2 E rfl fun a E=>bd hm fun k j hm=>xk2 E rfl (cf_ 154) (yO H i j) fun w H a E=>pn 2 E rfl fun a E=>wp_ret<|o1 E rfl<|?_
 cases hm
 exact ⟨rfl,H.reads Y0⟩

def F5(b:ByteArray):Option Bool:=
  (dX b).bind fun c=>some (!c)
theorem Jt{b:ByteArray}(H:Sep w (Fo) rs){r:Bool}(hm:F5 b=some r) :
    Cf 159 [.string b] w fun v w'=>.bool r=v∧Sep w' (Fo) (rs):=by
 unfold F5 at hm
 refine ent Tryz.func159 rfl Tryz.ntmps159 rfl rfl fun a E=>sp 1 E rfl fun a E=>xp 1 E rfl fun a E=>bd hm fun d c hm=>xk2 E rfl (cf_ 83) (iL H c) fun w H a E=>pn 2 E rfl fun a E=>wp_ret<|o1 E rfl<|?_
 cases hm
 exact ⟨rfl,H.reads Y0⟩

def gN(c:List ByteArray):Nat→Int→Option Int
  | 0,_=>none
  | e+1,b=>
    if (decide (b < (c.length:Int)))=true then ((idx c b).bind fun f=>(F5 f).bind fun d=>if d=true then (some (b)) else (gN c e (IntKind.i64.wrap (b+1)))) else (some ((-1)))
def mX(b:List ByteArray):Option Int:=
  gN b (((b.length:Int) - 0:Int).toNat+1) 0
theorem u7{f:Value}{d:List ByteArray}(H:Sep w (Fo) rs)(e:rSl kS f d ∈ rs){r:Int}(hm:mX d=some r) :
    Cf 153 [f,.func (.func 159) #[] #[]] w fun v w'=>.int .i64 r=v∧Sep w' (Fo) (rs):=by
 unfold mX at hm
 refine ent Tryz.func153 rfl Tryz.ntmps153 rfl rfl fun a E=>sq<|pn 1 E rfl fun a E=>wp_seq<|sp 1 E rfl fun a E=>lS E H e U33 rfl fun a E=>pr 1 E rfl fun a E=>nt<|wp_block<|bD (fun c a w=>∃ g,Jn 19 a w [(0,f),(1,.func (.func 159) #[] #[]),(7,.int .i64 (d.length:Int)),(8,.int .i64 g)] (Fo) rs (gN d c g=some r)) (((d.length:Int) - 0:Int).toNat+1) ?_ ?_
 ·exact ⟨_,_,E.to rfl,H,Y0,hm⟩
 ·clear E H hm
  rintro c a w ⟨g,k,E,H,b,hm⟩
  cases c with
  | zero=>exact (aZ hm rfl).elim
  | succ c=>
   unfold gN at hm
   refine sq<|pn 1 E rfl fun a E=>wp_seq<|wif E hm rfl (fun hm=>?_) fun hm=>?_
   ·refine wp_skip<|aA<|wp_seq<|wp_block<|sp 2 E rfl fun a E=>xp 3 E rfl fun a E=>bd hm fun m j hm=>cN E H (wn rfl) rfl rfl rfl rfl rfl (b _ e) U33 sz9 j fun q9 a H E=>sv2 E rfl (pJ E H rfl rfl m0 U9 rfl) fun a E=>bd hm fun l i hm=>bM E (wn rfl) rfl rfl (bO E rfl rfl rfl ((cf_ 159) _)) (Jt H i)<|?_
    rintro _ w ⟨rfl,H⟩ a E
    refine nt<|wif E hm rfl (fun hm=>?_) fun hm=>?_
    ·refine sq<|pn 2 E rfl fun a E=>wp_ret<|bF<|aG<|aG<|bF<|aG<|o1 E rfl<|?_
     cases hm
     exact ⟨rfl,H.reads (Y1 b)⟩
    ·exact wp_skip<|bH<|aA<|wp_region_lit<|pn 2 E rfl fun a E=>⟨c,Nat.lt_succ_self c,_,_,E.to rfl,H,(Y1 b),hm⟩
   ·refine wp_exit<|aL<|aL<|cH<|aA<|sq<|pn 1 E rfl fun a E=>wp_ret<|o1 E rfl<|?_
    cases hm
    exact ⟨rfl,H.reads b⟩

def lB(b:List ByteArray):Option Bool:=
  (mX b).bind fun c=>some (decide (c ≥ 0))
theorem zF{b:Value}{c:List ByteArray}(H:Sep w (Fo) rs)(d:rSl kS b c ∈ rs){r:Bool}(hm:lB c=some r) :
    Cf 97 [b,.func (.func 159) #[] #[]] w fun v w'=>.bool r=v∧Sep w' (Fo) (rs):=by
 unfold lB at hm
 refine ent Tryz.func97 rfl Tryz.ntmps97 rfl rfl fun a E=>sp 1 E rfl fun a E=>xp 2 E rfl fun a E=>bd hm fun f e hm=>xk2 E rfl (cf_ 153) (u7 H d e) fun w H a E=>pn 2 E rfl fun a E=>wp_ret<|o1 E rfl<|?_
 cases hm
 exact ⟨rfl,H.reads Y0⟩

def jR(c:List ByteArray)(d:ByteArray):Nat→Int→Option Int
  | 0,_=>none
  | e+1,b=>
    if (decide (b < (c.length:Int)))=true then ((idx c b).bind fun f=>if (sEq d f)=true then (some (b)) else (jR c d e (IntKind.i64.wrap (b+1)))) else (some ((-1)))
def rB(b:List ByteArray)(c:ByteArray):Option Int:=
  jR b c (((b.length:Int) - 0:Int).toNat+1) 0
theorem F6{g:Value}{d:List ByteArray}{e:ByteArray}(H:Sep w (Fo) rs)(f:rSl kS g d ∈ rs){r:Int}(hm:rB d e=some r) :
    Cf 234 [g,.string e] w fun v w'=>.int .i64 r=v∧Sep w' (Fo) (rs):=by
 unfold rB at hm
 refine ent Tryz.func234 rfl Tryz.ntmps234 rfl rfl fun a E=>sq<|pn 1 E rfl fun a E=>wp_seq<|sp 1 E rfl fun a E=>lS E H f U33 rfl fun a E=>pr 1 E rfl fun a E=>nt<|wp_block<|bD (fun c a w=>∃ i,Jn 19 a w [(0,g),(1,.string e),(7,.int .i64 (d.length:Int)),(8,.int .i64 i)] (Fo) rs (jR d e c i=some r)) (((d.length:Int) - 0:Int).toNat+1) ?_ ?_
 ·exact ⟨_,_,E.to rfl,H,Y0,hm⟩
 ·clear E H hm
  rintro c a w ⟨i,k,E,H,b,hm⟩
  cases c with
  | zero=>exact (aZ hm rfl).elim
  | succ c=>
   unfold jR at hm
   refine sq<|pn 1 E rfl fun a E=>wp_seq<|wif E hm rfl (fun hm=>?_) fun hm=>?_
   ·refine wp_skip<|aA<|wp_seq<|wp_block<|sp 2 E rfl fun a E=>xp 3 E rfl fun a E=>bd hm fun l j hm=>cN E H (wn rfl) rfl rfl rfl rfl rfl (b _ f) U33 sz9 j fun q10 a H E=>sv2 E rfl (pJ E H rfl rfl m0 U9 rfl) fun a E=>pn 1 E rfl fun a E=>wif E hm rfl (fun hm=>?_) fun hm=>?_
    ·refine sq<|pn 2 E rfl fun a E=>wp_ret<|bF<|aG<|aG<|bF<|aG<|o1 E rfl<|?_
     cases hm
     exact ⟨rfl,H.reads (Y1 b)⟩
    ·exact wp_skip<|bH<|aA<|wp_region_lit<|pn 2 E rfl fun a E=>⟨c,Nat.lt_succ_self c,_,_,E.to rfl,H,(Y1 b),hm⟩
   ·refine wp_exit<|aL<|aL<|cH<|aA<|sq<|pn 1 E rfl fun a E=>wp_ret<|o1 E rfl<|?_
    cases hm
    exact ⟨rfl,H.reads b⟩

def pH(b:List ByteArray)(c:ByteArray):Option Bool:=
  (rB b c).bind fun d=>some (decide (d ≥ 0))
theorem B6{b:Value}{c:List ByteArray}{d:ByteArray}(H:Sep w (Fo) rs)(e:rSl kS b c ∈ rs){r:Bool}(hm:pH c d=some r) :
    Cf 164 [b,.string d] w fun v w'=>.bool r=v∧Sep w' (Fo) (rs):=by
 unfold pH at hm
 refine ent Tryz.func164 rfl Tryz.ntmps164 rfl rfl fun a E=>sp 1 E rfl fun a E=>xp 2 E rfl fun a E=>bd hm fun g f hm=>xk2 E rfl (cf_ 234) (F6 H e f) fun w H a E=>pn 2 E rfl fun a E=>wp_ret<|o1 E rfl<|?_
 cases hm
 exact ⟨rfl,H.reads Y0⟩

def uZ(rec_1:Bool→Int→P5→Option G4)(x20:Int)(b:Bool)(c:P5):Option G4:=
  rec_1 b (IntKind.i64.wrap (x20+1)) c
def zA(rec_1:Bool→Int→P5→Option G4)(x20:Int)(b:aO)(d:Int)(x3:Int)(c:P5)(e:Bool)(f:Bool):Option G4:=
  if f=true then ((ck (Ry b.Age b.Txn d x3)).bind fun j=>if (Hh b.Age b.Txn d x3)=true then ((mlk (kyI .i64) c b.Txn).bind fun g=>(mpt (kyI .i64) c b.Txn (IntKind.i64.wrap ((g.getD 0)+1))).bind fun i=>uZ rec_1 x20 false i) else (uZ rec_1 x20 false c)) else (uZ rec_1 x20 e c)
def zB(rec_2:mH→Int→Option G4)(b:Int)(c:mH):Option G4:=
  rec_2 c (IntKind.i64.wrap (b+1))
def sH(e:List ByteArray)(x3:Int)(g:Int):Nat→mH→Int→Option G4
  | 0,_,_=>none
  | i+1,b,d=>
    if (decide (d < (e.length:Int)))=true then ((idx e d).bind fun f=>(fQ b f).bind fun c=>if (!c.2)=true then ((ck (0 ≤ c.1∧c.1 ≤ b.length∧b.length ≤ 1000000)).bind fun j=>zB (sH e x3 g i) d (b.take c.1.toNat ++ (⟨f,x3,g⟩:aO)::b.drop c.1.toNat)) else (zB (sH e x3 g i) d b)) else (some (b,[],true))
def pU(e:Int)(x3:Int)(f:List ByteArray)(c:List aO):Nat→Bool→Int→P5→Option G4
  | 0,_,_,_=>none
  | i+1,g,x20,b=>
    if (decide (x20 < (c.length:Int)))=true then ((idx c x20).bind fun d=>if (d.Txn != x3)=true then ((pH f d.Dir).bind fun j=>zA (pU e x3 f c i) x20 d e x3 b g j) else (zA (pU e x3 f c i) x20 d e x3 b g false)) else (if (!g)=true then ((mJ b).bind fun k=>(ck (b.length ≤ 1000000)).bind fun l=>some (c,Mc (b.map (·.1)),false)) else ((ck (c.length ≤ LIM)).bind fun m=>sH f x3 e (((f.length:Int) - 0:Int).toNat+1) c 0))
def pV(d:Int)(x3:Int)(e:List ByteArray)(b:List aO)(c:Bool):Option G4:=
  if c=true then (some (([]:List aO),[],false)) else (pU d x3 e b (((b.length:Int) - 0:Int).toNat+1) true 0 [])
def N2(b:List aO)(x3:Int)(c:Int)(d:List ByteArray):Option G4:=
  (lB d).bind fun e=>(iU b x3 c).bind fun f=>(J7 b).bind fun g=>if (!g)=true then (pV c x3 d b true) else ((tE x3).bind fun i=>if (!i)=true then (pV c x3 d b true) else ((tE c).bind fun j=>if (!j)=true then (pV c x3 d b true) else (if e=true then (pV c x3 d b true) else (pV c x3 d b f))))
theorem Oc{t z:Value}{p:List aO}{x3 b:Int}{m:List ByteArray}(H:Sep w (Fo) rs)(q:rSl aV t p ∈ rs)(N:rSl kS z m ∈ rs){r:mH×(List Int)×Bool}(hm:N2 p x3 b m=some r) :
    Cf 102 [t,.int .i64 x3,.int .i64 b,z] w fun v w'=>∃ c7 c8,.tuple #[c7,c8,.bool r.2.2]=v∧Sep w' (Row 2 (kI .i64) c8 r.2.1::Fo) (rSl aV c7 r.1::rs):=by
 unfold N2 at hm
 refine ent Tryz.func102 rfl Tryz.ntmps102 rfl rfl fun a E=>sq<|bx E H rfl fun l w a H E=>bx E H rfl fun f w a H E=>pr 3 E rfl fun a E=>xp 1 E rfl fun a E=>bd hm fun d5 Z hm=>xk2 E rfl (cf_ 97) (zF H N Z) fun w H a E=>pr 1 E rfl fun a E=>xp 1 E rfl fun a E=>sv2 E rfl (nM E rfl rfl rfl) fun a E=>have H:=H.frs [0,1] rfl;bd hm fun d6 b0 hm=>xk2 E rfl (cf_ 160) (wQ H q b0) fun w H a E=>pn 1 E rfl fun a E=>wp_seq<|aK (fun a w=>∃ O,Jn 108 a w [(0,t),(3,z),(5,pt l 0),(6,pt f 0),(45,.bool O)] (Blk l 2 [.int .i64 x3]::Blk f 2 [.int .i64 b]::Fo) rs (pV b x3 m p O=some r)) ?_ ?_
 ·refine wp_region_lit<|pr 1 E rfl fun a E=>bd hm fun d7 b1 hm=>xk2 E rfl (cf_ 162) (Lt H q b1) fun w H a E=>pr 2 E rfl fun a E=>cs hm (fun n hm=>?_) fun n hm=>?_
  ·exact pk 15 E (kc 30 rfl n) rfl fun a E=>nt<|⟨_,_,E.to rfl,H,Y0,hm⟩
  ·refine gl 30 E H 0 n U2 rfl fun a E=>bd hm fun d8 b2 hm=>gc 30 E n rfl (cf_ 163) (s3 H b2)<|?_
   rintro _ w ⟨rfl,H⟩ a E
   refine pk 3 E (kc 30 rfl n) rfl fun a E=>cs hm (fun o hm=>?_) fun o hm=>?_
   ·exact pk 10 E (kc 35 rfl o) rfl fun a E=>nt<|⟨_,_,E.to rfl,H,Y0,hm⟩
   ·refine gl 35 E H 1 o U2 rfl fun a E=>bd hm fun d9 b3 hm=>gc 35 E o rfl (cf_ 163) (s3 H b3)<|?_
    rintro _ w ⟨rfl,H⟩ a E
    refine pk 3 E (kc 35 rfl o) rfl fun a E=>cs hm (fun G hm=>?_) fun G hm=>?_
    ·exact pk 5 E (kc 40 rfl G) rfl fun a E=>nt<|⟨_,_,E.to rfl,H,Y0,hm⟩
    ·refine pk 3 E (kc 40 rfl G) rfl fun a E=>cs hm (fun I hm=>?_) fun I hm=>?_
     ·exact pk 2 E (kc 43 rfl I) rfl fun a E=>nt<|⟨_,_,E.to rfl,H,Y0,hm⟩
     ·exact pk 2 E (kc 43 rfl I) rfl fun a E=>nt<|⟨_,_,E.to rfl,H,Y0,hm⟩
 ·clear E H hm
  rintro a w ⟨O,c9,E,H,J,hm⟩
  unfold pV at hm
  refine wif E hm rfl (fun hm=>?_) fun hm=>?_
  ·refine sq<|pn 3 E rfl fun a E=>wp_ret<|aG<|Mm E rfl rfl rfl rfl<|have H:=H.nilSl aV;have H:=H.nilRow 2 (kI .i64);have H:=H.drs [1,1];?_
   cases hm
   exact ⟨_,_,rfl,H.reads (aE m0 (fun r hr=>(t1 (J r hr))))⟩
  ·refine wp_skip<|aA<|sq<|xY (k:=2) (K:=(kyI .i64)) (d:=(kI .i64)) (g:=false) E H (wn rfl) rfl rfl rfl fun s w a H E=>pr 1 E rfl fun a E=>nx<|pn 1 E rfl fun a E=>wp_seq<|sp 1 E rfl fun a E=>lS E H (J _ q) U58 rfl fun a E=>pn 1 E rfl fun a E=>wp_block<|bD (fun A a w=>∃ B x20 C,Jn 108 a w [(0,t),(3,z),(5,pt l 0),(6,pt f 0),(13,.map (some s)),(14,.bool B),(47,t),(48,.int .i64 (p.length:Int)),(49,.int .i64 x20)] (Blk l 2 [.int .i64 x3]::Blk f 2 [.int .i64 b]::cG Tryz.prog 2 (kyI .i64) (kI .i64) false s C::Fo) rs (pU b x3 m p A B x20 C=some r)) (((p.length:Int) - 0:Int).toNat+1) ?_ ?_
   ·exact have H:=H.frs [0,2,2] rfl;X4 ⟨E.to rfl,H,J,hm⟩
   ·clear E H hm
    rintro A a w ⟨B,x20,C,d0,E,H,c,hm⟩
    cases A with
    | zero=>exact (aZ hm rfl).elim
    | succ A=>
     unfold pU at hm
     refine sq<|pn 1 E rfl fun a E=>wp_seq<|wif E hm rfl (fun hm=>?_) fun hm=>?_
     ·refine wp_skip<|aA<|aK (fun a w=>∃ P Q,Jn 108 a w [(0,t),(3,z),(5,pt l 0),(6,pt f 0),(13,.map (some s)),(14,.bool P),(47,t),(48,.int .i64 (p.length:Int)),(49,.int .i64 x20)] (Blk l 2 [.int .i64 x3]::Blk f 2 [.int .i64 b]::cG Tryz.prog 2 (kyI .i64) (kI .i64) false s Q::Fo) rs (uZ (pU b x3 m p A) x20 P Q=some r)) ?_ ?_
      ·refine wp_block<|sq<|bd hm fun W b4 hm=>cN E H (wn rfl) rfl rfl rfl rfl rfl (c _ q) U58 pG b4 fun q30 a H E=>ldf fB E H rfl rfl rfl rfl rfl m0 U78 rfl pG fun a E=>al2 E H rfl Wr fun X w a H E=>ss 0 E H rfl pG rfl fun w H=>nt<|aK (fun a w=>∃ R,Jn 108 a w [(0,t),(3,z),(5,pt l 0),(6,pt f 0),(13,.map (some s)),(14,.bool B),(16,pt X 0),(47,t),(48,.int .i64 (p.length:Int)),(49,.int .i64 x20),(62,.bool R)] (Blk l 2 [.int .i64 x3]::Blk f 2 [.int .i64 b]::cG Tryz.prog 2 (kyI .i64) (kI .i64) false s C::Blk X 78 (sT W)::Fo) rs (zA (pU b x3 m p A) x20 W b x3 C B R=some r)) ?_ ?_
       ·refine wp_region_lit<|pr 1 E rfl fun a E=>lb2 E H 0 U2 rfl fun a E=>lb2 E H 1 U2 rfl fun a E=>pr 2 E rfl fun a E=>cs hm (fun j hm=>?_) fun j hm=>?_
        ·refine pk 2 E (kc 57 rfl j) rfl fun a E=>gl 57 E H 0 j U9 rfl fun a E=>bd hm fun e0 b5 hm=>gc 57 E j rfl (cf_ 164) (B6 H (t1 (c _ N)) b5)<|?_
         rintro _ w ⟨rfl,H⟩ a E
         exact pk 1 E (kc 57 rfl j) rfl fun a E=>nt<|have H:=H.frs [0,3,3,3] rfl;⟨_,_,E.to rfl,H,(Y1 c),hm⟩
        ·exact pk 5 E (kc 57 rfl j) rfl fun a E=>nt<|have H:=H.frs [0,3,3,3] rfl;⟨_,_,E.to rfl,H,(Y1 c),hm⟩
       ·clear E H hm
        rintro a w ⟨R,d1,E,H,L,hm⟩
        unfold zA at hm
        refine wif E hm rfl (fun hm=>?_) fun hm=>?_
        ·refine sp 1 E rfl fun a E=>xp 1 E rfl fun a E=>lb2 E H 3 U2 rfl fun a E=>pr 1 E rfl fun a E=>lb2 E H 3 U2 rfl fun a E=>lb2 E H 1 U2 rfl fun a E=>lb2 E H 0 U2 rfl fun a E=>bk hm fun b6 hm=>xc2 E rfl (cf_ 165) (AJ H b6)<|?_
         rintro _ w ⟨rfl,H⟩ a E
         refine nt<|wif E hm rfl (fun hm=>?_) fun hm=>?_
         ·exact wp_region_lit<|pr 2 E rfl fun a E=>lb2 E H 3 U2 rfl fun a E=>bd hm fun Y b7 hm=>sv2 E rfl (Nb (i:=2) (K:=(kyI .i64)) (z0:=0) (u:=Y) E H rfl rfl rfl rfl (iW U2) EG Nq b7) fun a E=>pr 1 E rfl fun a E=>bd hm fun e1 b8 hm=>Qi (i:=2) (K:=(kyI .i64)) (v:=IntKind.i64.wrap ((Y.getD 0)+1)) E H (wn rfl) rfl rfl rfl rfl rfl rfl (iW U2) EG b8 fun w H=>wpList_nil<|bH<|aA<|have H:=H.drop 3;X3 ⟨E.to rfl,H,L,hm⟩
         ·exact wp_skip<|bH<|aA<|have H:=H.drop 3;X3 ⟨E.to rfl,H,L,hm⟩
        ·exact wp_skip<|bH<|aA<|have H:=H.drop 3;X3 ⟨E.to rfl,H,L,hm⟩
      ·clear E H hm
       rintro a w ⟨P,Q,d2,E,H,b9,hm⟩
       unfold uZ at hm
       exact wp_region_lit<|pn 2 E rfl fun a E=>⟨A,Nat.lt_succ_self A,X4 ⟨E.to rfl,H,b9,hm⟩⟩
     ·refine wp_exit<|aL<|aL<|cH<|aA<|wp_seq<|sq<|pn 2 E rfl fun a E=>wif E hm rfl (fun hm=>?_) fun hm=>?_
      ·refine sp 2 E rfl fun a E=>have H:=H.frs [1,1,2] rfl;bd hm fun e2 c0 hm=>xc2 E rfl (cf_ 167) (s4 H c0)<|?_
       rintro _ w ⟨e3,rfl,H⟩ a E
       refine bk hm fun c1 hm=>xc2 E rfl (cf_ 166) (Wz (ip:=0) (im:=1) H rfl rfl c1) fun e4 w H a E=>pn 3 E rfl fun a E=>wp_ret<|aG<|Mm E rfl rfl rfl rfl<|have H:=H.drs [1,1,1,1];?_
       cases hm
       exact ⟨_,_,rfl,H.reads (aE (c _ q) (c))⟩
      ·refine wp_skip<|aA<|sp 1 E rfl fun a E=>bk hm fun c2 hm=>xc2 E rfl (cf_ 60) (kZ H (c _ q) c2) fun e5 w H a E=>pn 1 E rfl fun a E=>wp_seq<|sp 1 E rfl fun a E=>lS E H (c _ N) U33 rfl fun a E=>pn 1 E rfl fun a E=>wp_block<|bD (fun M a w=>∃ S T D,Jn 108 a w [(5,pt l 0),(6,pt f 0),(17,S),(84,z),(85,.int .i64 (m.length:Int)),(86,.int .i64 D)] (Blk l 2 [.int .i64 x3]::Blk f 2 [.int .i64 b]::Row 78 aV S T::Fo) rs (sH m x3 b M T D=some r)) (((m.length:Int) - 0:Int).toNat+1) ?_ ?_
       ·exact have H:=H.drop 3;have H:=H.frs [0,2,2] rfl;X4 ⟨E.to rfl,H,c,hm⟩
       ·clear E H hm
        rintro M a w ⟨S,T,D,d3,E,H,y,hm⟩
        cases M with
        | zero=>exact (aZ hm rfl).elim
        | succ M=>
         unfold sH at hm
         refine sq<|pn 1 E rfl fun a E=>wp_seq<|wif E hm rfl (fun hm=>?_) fun hm=>?_
         ·refine wp_skip<|aA<|aK (fun a w=>∃ U V,Jn 108 a w [(5,pt l 0),(6,pt f 0),(17,U),(84,z),(85,.int .i64 (m.length:Int)),(86,.int .i64 D)] (Blk l 2 [.int .i64 x3]::Blk f 2 [.int .i64 b]::Row 78 aV U V::Fo) rs (zB (sH m x3 b M) D V=some r)) ?_ ?_
          ·refine wp_block<|sq<|bd hm fun F c3 hm=>cN E H (wn rfl) rfl rfl rfl rfl rfl (y _ N) U33 sz9 c3 fun q64 a H E=>sv2 E rfl (pJ E H rfl rfl m0 U9 rfl) fun a E=>pr 1 E rfl fun a E=>xp 2 E rfl fun a E=>have H:=H.frs [1,1,2] rfl;bd hm fun e6 c4 hm=>xk2 E rfl (cf_ 168) (sY H c4) fun w H a E=>pr 5 E rfl fun a E=>nx<|pn 2 E rfl fun a E=>wif E hm rfl (fun hm=>?_) fun hm=>?_
           ·exact wp_region_lit<|pr 3 E rfl fun a E=>lb2 E H 1 U2 rfl fun a E=>lb2 E H 2 U2 rfl fun a E=>sv2 E rfl (bP E rfl (E.evs rfl) (v:=.agg #[.string F,.int .i64 x3,.int .i64 b]) (by kernel_rfl)) fun a E=>gU (e:=78) (d:=aV) (cs:=[.string F,.int .i64 x3,.int .i64 b]) (xs:=[(⟨F,x3,b⟩:aO)]) E H (wn rfl) rfl rfl rfl (E.evs rfl) (by kernel_rfl) rfl rfl (fun ok hr=>(Rows.single (d:=aV) (cs:=[.string F,.int .i64 x3,.int .i64 b]) (x:=(⟨F,x3,b⟩:aO)) Ar)) fun e7 w a H E=>bk hm fun c5 hm=>xc2 E rfl (cf_ 170) (Ho.insert_a (ix:=1) (iu:=0) H rfl rfl (by decide) c5) fun e8 w H a E=>pr 1 E rfl fun a E=>wpList_nil<|bH<|aA<|have H:=H.drop 0;have H:=H.frs [0,2,2] rfl;X3 ⟨E.to rfl,H,(Y1 y),hm⟩
           ·exact wp_skip<|bH<|aA<|have H:=H.frs [0,2,2] rfl;X3 ⟨E.to rfl,H,(Y1 y),hm⟩
          ·clear E H hm
           rintro a w ⟨U,V,d4,E,H,c6,hm⟩
           unfold zB at hm
           exact wp_region_lit<|pn 2 E rfl fun a E=>⟨M,Nat.lt_succ_self M,X4 ⟨E.to rfl,H,c6,hm⟩⟩
         ·refine wp_exit<|aL<|aL<|cH<|aA<|sq<|pn 4 E rfl fun a E=>wp_ret<|Mm E rfl rfl rfl rfl<|have H:=H.thaw (i:=2) rfl;have H:=H.nilRow 2 (kI .i64);have H:=H.drs [1,1];?_
          cases hm
          exact ⟨_,_,rfl,H.reads (aE m0 (fun r hr=>(t1 (y r hr))))⟩

def tO(f:List sU)(x20:aS)(g:mH×(List Int)×Bool)(b:Int)(c:x5)(d:Int):Option Nu:=
  (mpt (kyI .i64) f x20.Txn (⟨false,x20.Pieces,(⟨b,d,b == 0,0,c,(⟨[],[]⟩:aF),[],[],[]⟩:aW)⟩:eR)).bind fun e=>some ((⟨b,d,b == 0,0,c,(⟨[],[]⟩:aF),[],[],[]⟩:aW),g.1,e)
def pW(c:List sU)(x20:aS)(f:List aO)(g:cR)(j:List aD)(k:List aJ)(e:Int):Option Nu:=
  if (e != 0)=true then ((fC e).bind fun i=>some (i,f,c)) else ((N2 f x20.Txn x20.Age g).bind fun d=>if (!d.2.2)=true then (some ((⟨131,0,false,0,[],(⟨[],[]⟩:aF),[],[],d.2.1⟩:aW),f,c)) else ((vJ (⟨j,k⟩:aF) x20.Pieces).bind fun b=>tO c x20 d b.2.2.1 b.2.1 b.2.2.2))
def pX(b:List sU)(x20:aS)(e:List aO)(c:cR)(f:List aD)(g:List aJ)(i:Int)(d:Bool):Option Nu:=
  if d=true then (pW b x20 e c f g 2) else (pW b x20 e c f g i)
def tP(b:List sU)(x20:aS)(e:List aO)(f:List aD)(g:List aJ)(x:List aI)(i:Bool)(j:Bool)(y:xB)(k:Int)(l:Int)(m:Bool)(n:Int)(o:x5)(p:cD)(q:cP)(s:(List cE))(t:(List vD))(u:(List Int)):Option Nu:=
  if i=true then (if j=true then ((fC 133).bind fun v=>some (v,e,b)) else (some ((⟨k,l,m,n,o,(⟨p,q⟩:aF),s,t,u⟩:aW),e,b))) else ((wK x20.Pieces).bind fun c=>(nF x c).bind fun d=>if (d == 0)=true then (pX b x20 e c f g d ((b.length:Int) == 128)) else (pX b x20 e c f g d false))
def wL(d:List aD)(e:List aJ)(f:List aI)(g:List aO)(c:List sU)(x20:aS):Option Nu:=
  (Fk (kyI .i64) c x20.Txn Q6).bind fun b=>tP c x20 g d e f b.2 b.1.over_ b.1.pieces_ b.1.a_.Err b.1.a_.At b.1.a_.Yes b.1.a_.Epoch b.1.a_.Results b.1.a_.Store.Nodes b.1.a_.Store.Turns b.1.a_.Events b.1.a_.Mounts b.1.a_.Wounded
theorem W4{k d:Nat}{B C G L n u x y o p q s:Value}{Z:List aD}{b0:List aJ}{e8:List aI}{c1:List aO}{t:List sU}{x20:aS}(H:Sep w (Blk k 87 [B,C,G,L,o,p,q,.map (some d),s]::cG Tryz.prog 2 (kyI .i64) cY true d t::Fo) rs)(c2:rSl aB B Z ∈ rs)(c3:rSl aC C b0 ∈ rs)(e9:rSl aR G e8 ∈ rs)(I:rSl aV L c1 ∈ rs)(J:rSl bN n x20.Pieces ∈ rs)(c4:y7 Tryz.prog ∈ rs){r:aW×mH×Z8}(hm:wL Z b0 e8 c1 t x20=some r) :
    Cf 43 [pt k 0,.agg (aX x20 n u x y).toArray] w fun v w'=>∃ f6 f7 f8 f9 g0 g1 g2,.agg (bJ r.1 f6 f7 f8 f9 g0 g1).toArray=v∧Sep w' (Blk k 87 [B,C,G,g2,o,p,q,.map (some d),s]::cG Tryz.prog 2 (kyI .i64) cY true d r.2.2::Fo) (rSl aU f6 r.1.Results::rSl aB f7 r.1.Store.Nodes::rSl aC f8 r.1.Store.Turns::rSl aT f9 r.1.Events::rSl bU g0 r.1.Mounts::rSl (kI .i64) g1 r.1.Wounded::rSl aV g2 r.2.1::rs):=by
 unfold wL at hm
 refine ent Tryz.func43 rfl Tryz.ntmps43 rfl rfl fun a E=>sq<|bx E H rfl fun e w a H E=>al2 E H rfl tI fun A w a H E=>nt<|wp_seq<|aK (fun a w=>∃ c5 e4 O P Q R S T c6 c7 e5 U V X Y c8 c9 d0 d1 d2 d3 j,Env 103 a [(0,pt k 0),(3,pt e 0),(4,pt A 0),(5,pt c5 0),(6,.bool c6)]∧Sep w (Blk k 87 [B,C,G,L,o,p,q,.map (some d),s]::Blk e 37 (aX x20 n u x y)::Blk A 48 dC::Blk c5 154 [.bool c7,e4,.int .i64 U,.int .i64 V,.bool X,.int .i64 Y,O,P,Q,R,S,T]::cG Tryz.prog 2 (kyI .i64) cY true d t::Fo) j∧(∀ r,r ∈ rs→r ∈ j)∧rSl aU O c8 ∈ j∧rSl aB P c9 ∈ j∧rSl aC Q d0 ∈ j∧rSl aT R d1 ∈ j∧rSl bU S d2 ∈ j∧rSl (kI .i64) T d3 ∈ j∧tP t x20 c1 Z b0 e8 c6 c7 e5 U V X Y c8 c9 d0 d1 d2 d3=some r) ?_ ?_
 ·refine bd hm fun i7 b3 hm=>?_
  have hI:dZ [Blk e 37 (aX x20 n u x y),Blk k 87 [B,C,G,L,o,p,q,.map (some d),s]] [] { w with drawn:=w.drawn+1 }:=⟨_,_,H.kept (Kp.drawn _ w _),(aM mm1 (aM mm2 (bC))),(bG)⟩
  refine wV _ (.go 0 0 (.go 1 0 (.go 2 0 (.go 3 0 (.go 4 0 (.go 5 0 (.alt 6 (.go 7 0 (.go 8 0 (.go 9 0 (.go 10 1 (.go 11 1 (.go 12 2 .nil)))))) 10 (.go 6 1 (.go 7 0 (.go 8 0 (.go 9 0 (.go 11 1 (.go 12 2 .nil))))))))))))) [12] xZ (by kernel_rfl) (fun _ _ _ h=>False.elim h.2) hI<|have H:=H.kept (Kp.drawn _ w (w.drawn+1));?_
  generalize ({ w with drawn:=w.drawn+1 }:World)=w at H hI ⊢
  replace hI:∃ W,dZ [Blk e 37 (aX x20 n u x y),Blk k 87 [B,C,G,L,o,p,q,.map (some d),s]] [] W:=⟨_,hI⟩
  obtain ⟨W0,hI⟩:=hI
  refine om E rfl fun a E=>ov E rfl (fun w hW=>(K4 E rfl rfl)) fun a E=>ov E rfl (fun w hW=>yC E rfl rfl (v:=pt k 7) (Ns _ _)) fun a E=>ol E mm1 U85 rfl fun a E=>ov E rfl (fun w hW=>yC E rfl rfl (v:=pt e 2) (Hr _ _)) fun a E=>ol E m0 U2 rfl fun a E=>uO rfl rfl ?_ ?_
  ·refine zH (i:=3) (K:=(kyI .i64)) E H (wn rfl) rfl rfl rfl rfl rfl rfl (iW U2) U85 Hy Md b3 fun i8 a H E=>?_
   obtain ⟨i9,j0,j1,j2,j3,j4,j5,rfl,h⟩:=G1 H;clear H;have H:=h
   refine nt<|⟨sx H [1,2] rfl,om E rfl fun a E=>ox E rfl fun a E=>ox E rfl fun a E=>dK rfl<|al2 E H rfl Me fun j6 w a H E=>nt<|⟨sx H [2,3] rfl,dK rfl<|ss 0 E H rfl Mf (x4 H mm6 mm5 mm4 mm3 mm2 mm1 m0) fun w H=>nt<|⟨sx H [2,3] rfl,eL rfl<|pn 1 E rfl fun a E=>iK<|?_⟩⟩⟩
   clear hI
   exact aA<|have H:=H.frs [4,1,2,3,4] rfl;X22 ⟨E.to rfl,H,(Y8 Y0),mm5,mm4,mm3,mm2,mm1,m0,hm⟩
  ·refine al2 E H rfl Me fun j7 w a H E=>nt<|⟨sx H [2,3] rfl,dK rfl<|zH (i:=4) (K:=(kyI .i64)) E H (wn rfl) rfl rfl rfl rfl rfl rfl (iW U2) U85 Hy Md b3 fun j8 a H E=>?_⟩
   obtain ⟨j9,k0,k1,k2,k3,k4,k5,rfl,h⟩:=G1 H;clear H;have H:=h
   refine nt<|⟨sx H [2,3] rfl,om E rfl fun a E=>ox E rfl fun a E=>ox E rfl fun a E=>dK rfl<|ss 0 E H rfl Mf (x4 H mm6 mm5 mm4 mm3 mm2 mm1 m0) fun w H=>nt<|⟨sx H [2,3] rfl,eL rfl<|pn 1 E rfl fun a E=>iK<|?_⟩⟩
   clear hI
   exact aA<|have H:=H.frs [4,1,2,3,4] rfl;X22 ⟨E.to rfl,H,(Y8 Y0),mm5,mm4,mm3,mm2,mm1,m0,hm⟩
 ·clear E H hm
  rintro a w ⟨c5,e4,O,P,Q,R,S,T,c6,c7,e5,U,V,X,Y,c8,c9,d0,d1,d2,d3,j,E,H,l,d4,d5,d6,d7,d8,d9,hm⟩
  unfold tP at hm
  refine sq<|pn 1 E rfl fun a E=>wif E hm rfl (fun hm=>?_) fun hm=>?_
  ·refine wp_seq<|sp 1 E rfl fun a E=>lb2 E H 3 U4 rfl fun a E=>nt<|wif E hm rfl (fun hm=>?_) fun hm=>?_
   ·refine sq<|bd hm fun g3 f0 hm=>xc2 E rfl (cf_ 53) (gP H f0)<|?_
    rintro _ w ⟨g4,g5,g6,g7,g8,g9,rfl,H⟩ a E
    refine ss 2 E H rfl cV (bR H m0 mm1 mm2 mm3 mm4 mm5) fun w H=>nt<|wp_ret<|aG<|aG<|oB 2 (bJ g3 g4 g5 g6 g7 g8 g9) E H U48 rfl cV<|have H:=H.drs [1,1,1];?_
    cases hm
    exact X7 ⟨rfl,H.rdx [0,1,2,3,4,5] rfl (aE (t6 (l _ I)) (fun r hr=>(t6 (l r hr))))⟩
   ·refine wp_skip<|aA<|sp 1 E rfl fun a E=>ln 3 [.int .i64 U,.int .i64 V,.bool X,.int .i64 Y,O,P,Q,R,S,T] E H U48 rfl cV fun a E=>ss 2 E H rfl cV (bR H d4 d5 d6 d7 d8 d9) fun w H=>nt<|wp_ret<|aG<|oB 2 [.int .i64 U,.int .i64 V,.bool X,.int .i64 Y,O,P,Q,R,S,T] E H U48 rfl cV<|have H:=H.drs [1,1,1];?_
    cases hm
    exact X7 ⟨rfl,H.reads (aE d4 (aE d5 (aE d6 (aE d7 (aE d8 (aE d9 (aE (l _ I) (l))))))))⟩
  ·refine wp_skip<|aA<|sp 1 E rfl fun a E=>lb2 E H 1 U26 rfl fun a E=>bd hm fun b4 f1 hm=>xc2 E rfl (cf_ 96) (Co H (l _ J) f1)<|?_
   rintro _ w ⟨b5,rfl,H⟩ a E
   refine pr 1 E rfl fun a E=>xp 2 E rfl fun a E=>have H:=H.thaw (i:=0) rfl;bd hm fun e6 f2 hm=>xk2 E rfl (cf_ 100) (E2 H (t1 (l _ e9)) m0 f2) fun w H a E=>pn 1 E rfl fun a E=>aK (fun a w=>∃ e0 M,Env 103 a [(0,pt k 0),(3,pt e 0),(4,pt A 0),(7,b5),(8,.int .i64 e0)]∧Sep w (Blk k 87 [B,C,G,L,o,p,q,.map (some d),s]::Blk e 37 (aX x20 n u x y)::Blk A 48 dC::cG Tryz.prog 2 (kyI .i64) cY true d t::Fo) M∧(∀ r,r ∈ rs→r ∈ M)∧rSl kS b5 b4 ∈ M∧pW t x20 c1 b4 Z b0 e0=some r) ?_ ?_
   ·refine aK (fun a w=>∃ b1 D,Env 103 a [(0,pt k 0),(3,pt e 0),(4,pt A 0),(7,b5),(8,.int .i64 e6),(47,.bool b1)]∧Sep w (Blk k 87 [B,C,G,L,o,p,q,.map (some d),s]::Blk e 37 (aX x20 n u x y)::Blk A 48 dC::cG Tryz.prog 2 (kyI .i64) cY true d t::Fo) D∧(∀ r,r ∈ rs→r ∈ D)∧rSl kS b5 b4 ∈ D∧pX t x20 c1 b4 Z b0 e6 b1=some r) ?_ ?_
    ·refine wp_region_lit<|pr 3 E rfl fun a E=>cs hm (fun m hm=>?_) fun m hm=>?_
     ·exact pk 3 E (kc 40 rfl m) rfl fun a E=>gl 40 E H 0 m U85 rfl fun a E=>gv 40 E m rfl (Bt (i:=4) E H rfl rfl rfl U85) fun a E=>pk 2 E (kc 40 rfl m) rfl fun a E=>nt<|have H:=H.drop 3;⟨_,_,E.to rfl,H,(Y1 l),m0,hm⟩
     ·exact pk 7 E (kc 40 rfl m) rfl fun a E=>nt<|have H:=H.drop 3;⟨_,_,E.to rfl,H,(Y1 l),m0,hm⟩
    ·clear E H hm
     rintro a w ⟨b1,D,E,H,b6,b7,hm⟩
     unfold pX at hm
     refine wif E hm rfl (fun hm=>?_) fun hm=>?_
     ·exact wp_region_lit<|pn 1 E rfl fun a E=>⟨_,_,E.to rfl,H,b6,b7,hm⟩
     ·exact wp_skip<|aA<|⟨_,_,E.to rfl,H,b6,b7,hm⟩
   ·clear E H hm
    rintro a w ⟨e0,M,E,H,c,f3,hm⟩
    unfold pW at hm
    refine wp_seq<|sq<|pn 2 E rfl fun a E=>wif E hm rfl (fun hm=>?_) fun hm=>?_
    ·refine sp 1 E rfl fun a E=>bd hm fun i0 f4 hm=>xc2 E rfl (cf_ 53) (gP H f4)<|?_
     rintro _ w ⟨i1,i2,i3,i4,i5,i6,rfl,H⟩ a E
     refine ss 2 E H rfl cV (bR H m0 mm1 mm2 mm3 mm4 mm5) fun w H=>nt<|wp_ret<|aG<|oB 2 (bJ i0 i1 i2 i3 i4 i5 i6) E H U48 rfl cV<|have H:=H.drs [1,1];?_
     cases hm
     exact X7 ⟨rfl,H.rdx [0,1,2,3,4,5] rfl (aE (t6 (c _ I)) (fun r hr=>(t6 (c r hr))))⟩
    ·refine wp_skip<|aA<|wp_seq<|dz [0,0,0,0,0,0,0,0,0,1,0,0,0,0,1,1,2] [0,1] H fun w W0 hI H=>fn 3 E rfl fun a E=>fb2 E m0 U58 rfl fun a E=>fn 1 E rfl fun a E=>fb2 E mm1 U2 rfl fun a E=>fn 1 E rfl fun a E=>fb2 E mm1 U2 rfl fun a E=>fn 1 E rfl fun a E=>bI rfl<|bd hm fun b8 f5 hm=>xc2 E rfl (cf_ 102) (Oc H (c _ I) f3 f5)<|?_
     rintro _ w ⟨e7,l8,rfl,H⟩ a E
     refine nt<|⟨sx H [1,2] rfl,fn 4 E rfl fun a E=>bI rfl<|pn 1 E rfl fun a E=>⟨sx H [1,2] rfl,bI rfl<|pn 1 E rfl fun a E=>⟨sx H [1,2] rfl,bL rfl<|pn 1 E rfl fun a E=>aY<|?_⟩⟩⟩
     clear hI
     refine aA<|wp_seq<|sq<|pn 2 E rfl fun a E=>wif E hm rfl (fun hm=>?_) fun hm=>?_
     ·refine sp 1 E rfl fun a E=>?_
      obtain ⟨q99,e1,rfl⟩:=H.rowform (i:=0) rfl
      refine sv2 E rfl (bP E rfl (E.evs rfl) (v:=.agg #[.int .i64 131,.int .i64 0,.bool false,.int .i64 0,nS,nS,nS,nS,nS,(.slice q99 b8.2.1.length e1)]) (by kernel_rfl)) fun a E=>ss 3 E H rfl cV rfl fun w H=>nt<|wp_ret<|aG<|oB 3 [.int .i64 131,.int .i64 0,.bool false,.int .i64 0,nS,nS,nS,nS,nS,(.slice q99 b8.2.1.length e1)] E H U48 rfl cV<|have H:=H.thaw (i:=0) rfl;have H:=H.nilSl aU;have H:=H.nilSl aB;have H:=H.nilSl aC;have H:=H.nilSl aT;have H:=H.nilSl bU;have H:=H.drs [1,1];?_
      cases hm
      exact X7 ⟨rfl,H.rdx [4,3,2,1,0,5] rfl (aE (t7 (c _ I)) (fun r hr=>(t7 (c r hr))))⟩
     ·refine wp_skip<|aA<|aK (fun a w=>∃ b2 b f g F,Env 103 a [(0,pt k 0),(3,pt e 0),(4,pt A 0),(8,.int .i64 b),(9,e7),(13,b2),(14,.int .i64 g)]∧Sep w (Blk k 87 [B,C,G,L,o,p,q,.map (some d),s]::Blk e 37 (aX x20 n u x y)::Blk A 48 dC::Row 93 aU b2 f::cG Tryz.prog 2 (kyI .i64) cY true d t::Fo) F∧(∀ r,r ∈ rs→r ∈ F)∧rSl aV e7 b8.1 ∈ F∧tO t x20 b8 b f g=some r) ?_ ?_
      ·refine bd hm fun k6 b9 hm=>?_
       have hI:dZ [Blk k 87 [B,C,G,L,o,p,q,.map (some d),s],Blk e 37 (aX x20 n u x y)] [] { w with drawn:=w.drawn+1 }:=⟨_,_,H.kept (Kp.drawn _ w _),(aM mm1 (aM mm2 (bC))),(bG)⟩
       refine wV _ (.go 0 0 (.go 1 0 (.go 2 0 (.go 3 0 (.go 4 0 (.go 5 0 (.alt 6 (.go 7 0 (.go 8 0 (.go 9 0 (.go 10 0 (.go 11 0 (.go 12 1 (.go 13 1 (.go 14 1 (.go 15 1 (.go 16 2 .nil)))))))))) 12 (.go 6 1 (.go 7 0 (.go 8 0 (.go 9 0 (.go 10 0 (.go 11 0 (.go 13 1 (.go 14 1 (.go 15 1 (.go 16 2 .nil))))))))))))))))) [16] xZ (by kernel_rfl) (fun _ _ _ h=>False.elim h.2) hI<|have H:=H.kept (Kp.drawn _ w (w.drawn+1));?_
       generalize ({ w with drawn:=w.drawn+1 }:World)=w at H hI ⊢
       replace hI:∃ W,dZ [Blk k 87 [B,C,G,L,o,p,q,.map (some d),s],Blk e 37 (aX x20 n u x y)] [] W:=⟨_,hI⟩
       obtain ⟨W0,hI⟩:=hI
       refine om E rfl fun a E=>ov E rfl (fun w hW=>(K4 E rfl rfl)) fun a E=>ov E rfl (fun w hW=>yC E rfl rfl (v:=pt k 0) (Nr _ _)) fun a E=>ov E rfl (fun w hW=>pE E rfl rfl (Bn (us:=[B,C]) m0 rfl U25 rfl bK w hW)) fun a E=>ov E rfl (fun w hW=>yC E rfl rfl (v:=pt e 5) (Tx _ _)) fun a E=>ol E mm1 U26 rfl fun a E=>uO rfl rfl ?_ ?_
       ·refine xc2 E rfl (cf_ 23) (S4 (x1:=(⟨Z,b0⟩:aF)) H (t1 (c _ c2)) (t1 (c _ c3)) (t1 (c _ J)) (t1 (c _ c4)) b9)<|?_
        rintro _ w ⟨k7,k8,k9,rfl,H⟩ a E
        refine nt<|⟨sx H [2,3] rfl,om E rfl fun a E=>ox E rfl fun a E=>ox E rfl fun a E=>ox E rfl fun a E=>ox E rfl fun a E=>dK rfl<|al2 E H rfl lT fun l0 w a H E=>nt<|⟨sx H [3,4] rfl,dK rfl<|ss 0 E H rfl bK (bQ H m0 mm1) fun w H=>nt<|⟨sx H [3,4] rfl,dK rfl<|pn 1 E rfl fun a E=>⟨sx H [3,4] rfl,dK rfl<|pn 1 E rfl fun a E=>⟨sx H [3,4] rfl,eL rfl<|pn 1 E rfl fun a E=>iK<|?_⟩⟩⟩⟩⟩
        clear hI
        exact aA<|have H:=H.drs [0,1];have H:=H.frs [4,1,4,4,4] rfl;X5 ⟨E.to rfl,H,(Y3 c),mm2,hm⟩
       ·refine al2 E H rfl lT fun l1 w a H E=>nt<|⟨sx H [2,3] rfl,dK rfl<|xc2 E rfl (cf_ 23) (S4 (x1:=(⟨Z,b0⟩:aF)) H (t1 (c _ c2)) (t1 (c _ c3)) (t1 (c _ J)) (t1 (c _ c4)) b9)<|?_⟩
        rintro _ w ⟨l2,l3,l4,rfl,H⟩ a E
        refine nt<|⟨sx H [3,4] rfl,om E rfl fun a E=>ox E rfl fun a E=>ox E rfl fun a E=>ox E rfl fun a E=>ox E rfl fun a E=>dK rfl<|ss 1 E H rfl bK (bQ H m0 mm1) fun w H=>nt<|⟨sx H [3,4] rfl,dK rfl<|pn 1 E rfl fun a E=>⟨sx H [3,4] rfl,dK rfl<|pn 1 E rfl fun a E=>⟨sx H [3,4] rfl,eL rfl<|pn 1 E rfl fun a E=>iK<|?_⟩⟩⟩⟩
        clear hI
        exact aA<|have H:=H.drs [1,1];have H:=H.frs [4,1,4,4,4] rfl;X5 ⟨E.to rfl,H,(Y3 c),mm2,hm⟩
      ·clear E H hm
       rintro a w ⟨b2,b,f,g,F,E,H,N,c0,hm⟩
       unfold tO at hm
       refine sp 5 E rfl fun a E=>?_
       obtain ⟨q108,z,rfl⟩:=H.rowform (i:=3) rfl
       refine sv2 E rfl (bP E rfl (E.evs rfl) (v:=.agg #[.int .i64 b,.int .i64 g,.bool (b == 0),.int .i64 0,(.slice q108 f.length z),nS,nS,nS,nS,nS]) (by kernel_rfl)) fun a E=>al2 E H rfl tI fun l5 w a H E=>ss 0 E H rfl cV rfl fun w H=>xp 4 E rfl fun a E=>?_
       obtain ⟨q111,l6,rfl⟩:=H.slform c0
       refine ss 1 E H rfl EC rfl fun w H=>nt<|wp_seq<|dz [0,0,0,0,0,0,0,0,0,0,2] [0,1,2] H fun w W0 hI H=>fn 3 E rfl fun a E=>fb2 E mm1 U85 rfl fun a E=>fn 1 E rfl fun a E=>fb2 E mm2 U2 rfl fun a E=>fn 1 E rfl fun a E=>fb2 E mm2 U26 rfl fun a E=>fbn E [.int .i64 b,.int .i64 g,.bool (b == 0),.int .i64 0,(.slice q108 f.length z),nS,nS,nS,nS,nS] rfl (wn rfl) rfl rfl rfl rfl m0 rfl U48 rfl cV fun a E=>?_
       obtain ⟨q113,e2,rfl⟩:=H.slform (N _ J)
       refine fv E rfl (fun w hW=>(bP E rfl (E.evs rfl) (v:=.agg #[.bool false,(.slice q113 x20.Pieces.length e2),.int .i64 b,.int .i64 g,.bool (b == 0),.int .i64 0,(.slice q108 f.length z),nS,nS,nS,nS,nS]) (by kernel_rfl))) fun a E=>bL rfl<|have H:=H.thaw (i:=4) rfl;bd hm fun l7 e3 hm=>Dk (i:=4) (K:=(kyI .i64)) (v:=(⟨false,x20.Pieces,(⟨b,g,b == 0,0,f,(⟨[],[]⟩:aF),[],[],[]⟩:aW)⟩:eR)) (cs:=[.bool false,(.slice q113 x20.Pieces.length e2),.int .i64 b,.int .i64 g,.bool (b == 0),.int .i64 0,(.slice q108 f.length z),nS,nS,nS,nS,nS]) E H (wn rfl) rfl rfl rfl rfl rfl rfl (iW U2) U85 e3 (fun ok hr=>(E9 (hr _ (t1 (N _ J))) (hr _ m0) (Sl.nil _ _ _) (Sl.nil _ _ _) (Sl.nil _ _ _) (Sl.nil _ _ _) (Sl.nil _ _ _))) fun w H=>nt<|aY<|?_
       clear hI
       refine aA<|sq<|ln 0 [.int .i64 b,.int .i64 g,.bool (b == 0),.int .i64 0,(.slice q108 f.length z),nS,nS,nS,nS,nS] E H U48 rfl cV fun a E=>ss 3 E H rfl cV rfl fun w H=>nt<|wp_ret<|oB 3 [.int .i64 b,.int .i64 g,.bool (b == 0),.int .i64 0,(.slice q108 f.length z),nS,nS,nS,nS,nS] E H U48 rfl cV<|have H:=H.nilSl aB;have H:=H.nilSl aC;have H:=H.nilSl aT;have H:=H.nilSl bU;have H:=H.nilSl (kI .i64);have H:=H.drs [0,1,1];?_
       cases hm
       exact X7 ⟨rfl,H.rdx [5,4,3,2,1,0] rfl (aE (t6 c0) (fun r hr=>(t6 (N r hr))))⟩

def tY(i:List aD)(j:List aJ)(l:List aI)(m:List aO)(c:List aP)(d:List aH)(e:List tU)(f:List sU)(g:List tU)(x20:aS)(p:Bool):Option Sh:=
  if p=true then ((fC 1).bind fun q=>some (q,i,j,l,m,c,d,e,f,g)) else (if (x20.Kind == 2)=true then ((wL i j l m f x20).bind fun k=>some (k.1,i,j,l,k.2.1,c,d,e,k.2.2,g)) else (if (x20.Kind == 3)=true then ((xF i j m c d f x20).bind fun b=>some (b.1,b.2.1,b.2.2.1,l,b.2.2.2.1,b.2.2.2.2.1,b.2.2.2.2.2.1,e,b.2.2.2.2.2.2,g)) else (if (x20.Kind == 4)=true then ((xC g x20).bind fun n=>some (n.1,i,j,l,m,c,d,e,f,n.2)) else (if (x20.Kind == 5)=true then ((xJ i j l m x20).bind fun o=>some (o.1,i,j,o.2,m,c,d,e,f,g)) else none))))
def qS(k:List aD)(l:List aJ)(i:List aI)(j:List aO)(c:List aP)(d:List aH)(e:List tU)(f:List sU)(g:List tU)(x20:aS)(m:Bool):Option Sh:=
  if m=true then (if (x20.Kind == 1)=true then ((rX k l i j c d e x20).bind fun b=>some (b.1,b.2.1,b.2.2.1,i,j,b.2.2.2.1,b.2.2.2.2.1,b.2.2.2.2.2,f,g)) else none) else (if (decide (x20.Kind ≥ 5))=true then (tY k l i j c d e f g x20 (sEq x20.Prefix (ByteArray.mk #[]))) else (tY k l i j c d e f g x20 false))
def nG(g:List aD)(i:List aJ)(j:List aI)(k:List aO)(b:List aP)(c:List aH)(d:List tU)(e:List sU)(f:List tU)(x20:aS)(l:Bool):Option Sh:=
  if l=true then ((fC 1).bind fun m=>some (m,g,i,j,k,b,c,d,e,f)) else (if (x20.Kind == 1)=true then (qS g i j k b c d e f x20 (x20.Kind == 1)) else (qS g i j k b c d e f x20 (decide (x20.Kind ≥ 8))))
def dW(i:List aD)(j:List aJ)(k:List aI)(l:List aO)(c:List aP)(d:List aH)(e:List tU)(f:List sU)(g:List tU)(x20:aS):Option Sh:=
  (uS x20).bind fun b=>if (!b)=true then (nG i j k l c d e f g x20 (!b)) else (nG i j k l c d e f g x20 (decide (x20.Kind > 10)))
theorem lY{D o p q:Nat}{N O P Q F G k l m n:Value}{R:List aD}{S:List aJ}{T:List aI}{U:List aO}{I:List aP}{J:List aH}{x y:List tU}{z:List sU}{x20:aS}(H:Sep w (Blk D 87 [N,O,P,Q,F,G,.map (some o),.map (some p),.map (some q)]::cG Tryz.prog 2 (kyI .i64) bY true o x::cG Tryz.prog 2 (kyI .i64) cY true p z::cG Tryz.prog 2 (kyI .i64) bY true q y::Fo) rs)(d:rSl aB N R ∈ rs)(e:rSl aC O S ∈ rs)(f:rSl aR P T ∈ rs)(g:rSl aV Q U ∈ rs)(s:rSl bB F I ∈ rs)(t:rSl aN G J ∈ rs)(K:rSl bN k x20.Pieces ∈ rs)(b9:rSl aB l x20.Store.Nodes ∈ rs)(c0:rSl aC m x20.Store.Turns ∈ rs)(c1:rSl kS n x20.Gone ∈ rs)(L:y7 Tryz.prog ∈ rs){r:aW×cD×cP×xA×mH×oF×iA×x6×Z8×x6}(hm:dW R S T U I J x z y x20=some r) :
    Cf 13 [pt D 0,.agg (aX x20 k l m n).toArray] w fun v w'=>∃ e0 e1 e2 e3 e4 e5 e6 b4 b5 b6 b7 b8,.agg (bJ r.1 e0 e1 e2 e3 e4 e5).toArray=v∧Sep w' (Blk D 87 [e6,b4,b5,b6,b7,b8,.map (some o),.map (some p),.map (some q)]::cG Tryz.prog 2 (kyI .i64) bY true o r.2.2.2.2.2.2.2.1::cG Tryz.prog 2 (kyI .i64) cY true p r.2.2.2.2.2.2.2.2.1::cG Tryz.prog 2 (kyI .i64) bY true q r.2.2.2.2.2.2.2.2.2::Fo) (rSl aU e0 r.1.Results::rSl aB e1 r.1.Store.Nodes::rSl aC e2 r.1.Store.Turns::rSl aT e3 r.1.Events::rSl bU e4 r.1.Mounts::rSl (kI .i64) e5 r.1.Wounded::rSl aB e6 r.2.1::rSl aC b4 r.2.2.1::rSl aR b5 r.2.2.2.1::rSl aV b6 r.2.2.2.2.1::rSl bB b7 r.2.2.2.2.2.1::rSl aN b8 r.2.2.2.2.2.2.1::rs):=by
 unfold dW at hm
 refine ent Tryz.func13 rfl Tryz.ntmps13 rfl rfl fun a E=>sq<|bx E H rfl fun A w a H E=>al2 E H rfl tI fun B w a H E=>nx<|sv2 E rfl (bP E rfl (E.evs rfl) (v:=.agg #[.nilFunc,.func (.func 42) #[] #[],.func (.func 43) #[] #[],.func (.func 44) #[] #[],.func (.func 45) #[] #[],.func (.func 46) #[] #[],.func (.func 47) #[] #[],.func (.func 48) #[] #[],.func (.func 49) #[] #[],.func (.func 50) #[] #[],.func (.func 51) #[] #[]]) (by kernel_rfl)) fun a E=>al2 E H rfl GH fun C w a H E=>ss 0 E H rfl GI rfl fun w H=>nt<|wp_seq<|wp_block<|aK (fun a w=>∃ V,Jn 46 a w [(0,pt D 0),(3,pt A 0),(4,pt B 0),(5,pt C 0),(7,.bool V)] (Blk D 87 [N,O,P,Q,F,G,.map (some o),.map (some p),.map (some q)]::Blk A 37 (aX x20 k l m n)::Blk B 48 dC::Blk C 101 [.nilFunc,.func (.func 42) #[] #[],.func (.func 43) #[] #[],.func (.func 44) #[] #[],.func (.func 45) #[] #[],.func (.func 46) #[] #[],.func (.func 47) #[] #[],.func (.func 48) #[] #[],.func (.func 49) #[] #[],.func (.func 50) #[] #[],.func (.func 51) #[] #[]]::cG Tryz.prog 2 (kyI .i64) bY true o x::cG Tryz.prog 2 (kyI .i64) cY true p z::cG Tryz.prog 2 (kyI .i64) bY true q y::Fo) rs (nG R S T U I J x z y x20 V=some r)) ?_ ?_
 ·refine sq<|ln 2 (aX x20 k l m n) E H U37 rfl M5 fun a E=>bd hm fun j4 b2 hm=>xk2 E rfl (cf_ 52) (Ii H K b9 c0 c1 b2) fun w H a E=>pn 2 E rfl fun a E=>wif E hm rfl (fun hm=>?_) fun hm=>?_
  ·exact wp_skip<|aA<|have H:=H.frs [6,6,6,3,4,5,6] rfl;⟨_,_,E.to rfl,H,Y0,hm⟩
  ·exact wp_region_lit<|pr 1 E rfl fun a E=>lb2 E H 2 U3 rfl fun a E=>pn 2 E rfl fun a E=>have H:=H.frs [6,6,6,3,4,5,6] rfl;⟨_,_,E.to rfl,H,Y0,hm⟩
 ·clear E H hm
  rintro a w ⟨V,j5,E,H,i,hm⟩
  unfold nG at hm
  refine wif E hm rfl (fun hm=>?_) fun hm=>?_
  ·refine sq<|bd hm fun e7 c2 hm=>xc2 E rfl (cf_ 53) (gP H c2)<|?_
   rintro _ w ⟨e8,e9,f0,f1,f2,f3,rfl,H⟩ a E
   refine ss 2 E H rfl cV (bR H m0 mm1 mm2 mm3 mm4 mm5) fun w H=>nt<|wp_ret<|bF<|aG<|oB 2 (bJ e7 e8 e9 f0 f1 f2 f3) E H U48 rfl cV<|have H:=H.drs [1,1,1];?_
   cases hm
   exact X12 ⟨rfl,H.rdx [0,1,2,3,4,5] rfl (aE (t6 (i _ d)) (aE (t6 (i _ e)) (aE (t6 (i _ f)) (aE (t6 (i _ g)) (aE (t6 (i _ s)) (aE (t6 (i _ t)) (fun r hr=>(t6 (i r hr)))))))))⟩
  ·refine aK (fun a w=>∃ W,Jn 46 a w [(0,pt D 0),(3,pt A 0),(4,pt B 0),(5,pt C 0),(15,.bool W)] (Blk D 87 [N,O,P,Q,F,G,.map (some o),.map (some p),.map (some q)]::Blk A 37 (aX x20 k l m n)::Blk B 48 dC::Blk C 101 [.nilFunc,.func (.func 42) #[] #[],.func (.func 43) #[] #[],.func (.func 44) #[] #[],.func (.func 45) #[] #[],.func (.func 46) #[] #[],.func (.func 47) #[] #[],.func (.func 48) #[] #[],.func (.func 49) #[] #[],.func (.func 50) #[] #[],.func (.func 51) #[] #[]]::cG Tryz.prog 2 (kyI .i64) bY true o x::cG Tryz.prog 2 (kyI .i64) cY true p z::cG Tryz.prog 2 (kyI .i64) bY true q y::Fo) rs (qS R S T U I J x z y x20 W=some r)) ?_ ?_
   ·refine sp 1 E rfl fun a E=>lb2 E H 1 U3 rfl fun a E=>pn 2 E rfl fun a E=>wif E hm rfl (fun hm=>?_) fun hm=>?_
    ·exact wp_skip<|aA<|⟨_,_,E.to rfl,H,i,hm⟩
    ·exact wp_region_lit<|pr 1 E rfl fun a E=>lb2 E H 1 U3 rfl fun a E=>pn 2 E rfl fun a E=>⟨_,_,E.to rfl,H,i,hm⟩
   ·clear E H hm
    rintro a w ⟨W,j6,E,H,c,hm⟩
    unfold qS at hm
    refine wif E hm rfl (fun hm=>?_) fun hm=>?_
    ·refine wp_seq<|dz [0,0,0,0,0,0,1,2] [1,3] H fun w W0 hI H=>fn 1 E rfl fun a E=>fbn E (aX x20 k l m n) rfl (wn rfl) rfl rfl rfl rfl m0 rfl U37 rfl M5 fun a E=>fn 1 E rfl fun a E=>fb2 E m0 U3 rfl fun a E=>cs hm (fun X hm=>?_) fun X hm=>?_
     ·refine fv E rfl (fun w hW=>wW (j:=1) E rfl rfl rfl X rfl Nm Hs) fun a E=>fb2 E mm1 Nn rfl fun a E=>bI rfl<|have H:=H.frs [6,6,5,5,5,6,6] rfl;bd hm fun f4 c3 hm=>xc2 E rfl (cf_ 54) (Cq H (c _ d) (c _ e) (c _ f) (c _ g) (c _ s) (c _ t) (c _ K) (c _ L) c3)<|?_
      rintro _ w ⟨f5,f6,f7,f8,f9,g0,k4,k5,k6,k7,rfl,H⟩ a E
      refine nt<|⟨sx H [2,4] rfl,bL rfl<|ss 3 E H rfl cV (bR H m0 mm1 mm2 mm3 mm4 mm5) fun w H=>nt<|aY<|?_⟩
      clear hI
      refine aA<|wp_ret<|bF<|aG<|oB 3 (bJ f4.1 f5 f6 f7 f8 f9 g0) E H U48 rfl cV<|have H:=H.drs [2,2,2];?_
      cases hm
      exact X12 ⟨rfl,H.rdx [0,1,2,3,4,5,6] rfl (aE (t1 mm6) (aE (t2 (t8 (c _ f))) (aE (t2 (t8 (c _ g))) (aE (t2 mm6) (aE (t3 mm6) (fun r hr=>(t2 (t8 (c r hr)))))))))⟩
     ·exact (aZ hm rfl).elim
    ·refine aK (fun a w=>∃ Y,Jn 46 a w [(0,pt D 0),(3,pt A 0),(4,pt B 0),(5,pt C 0),(29,.bool Y)] (Blk D 87 [N,O,P,Q,F,G,.map (some o),.map (some p),.map (some q)]::Blk A 37 (aX x20 k l m n)::Blk B 48 dC::Blk C 101 [.nilFunc,.func (.func 42) #[] #[],.func (.func 43) #[] #[],.func (.func 44) #[] #[],.func (.func 45) #[] #[],.func (.func 46) #[] #[],.func (.func 47) #[] #[],.func (.func 48) #[] #[],.func (.func 49) #[] #[],.func (.func 50) #[] #[],.func (.func 51) #[] #[]]::cG Tryz.prog 2 (kyI .i64) bY true o x::cG Tryz.prog 2 (kyI .i64) cY true p z::cG Tryz.prog 2 (kyI .i64) bY true q y::Fo) rs (tY R S T U I J x z y x20 Y=some r)) ?_ ?_
     ·refine wp_region_lit<|pr 1 E rfl fun a E=>lb2 E H 1 U3 rfl fun a E=>pr 2 E rfl fun a E=>cs hm (fun u hm=>?_) fun u hm=>?_
      ·exact pk 1 E (kc 33 rfl u) rfl fun a E=>gl 33 E H 1 u U9 rfl fun a E=>pk 3 E (kc 33 rfl u) rfl fun a E=>nt<|⟨_,_,E.to rfl,H,c,hm⟩
      ·exact pk 5 E (kc 33 rfl u) rfl fun a E=>nt<|⟨_,_,E.to rfl,H,c,hm⟩
     ·clear E H hm
      rintro a w ⟨Y,j7,E,H,b,hm⟩
      unfold tY at hm
      refine wif E hm rfl (fun hm=>?_) fun hm=>?_
      ·refine sq<|bd hm fun g1 c4 hm=>xc2 E rfl (cf_ 53) (gP H c4)<|?_
       rintro _ w ⟨g2,g3,g4,g5,g6,g7,rfl,H⟩ a E
       refine ss 2 E H rfl cV (bR H m0 mm1 mm2 mm3 mm4 mm5) fun w H=>nt<|wp_ret<|bF<|aG<|oB 2 (bJ g1 g2 g3 g4 g5 g6 g7) E H U48 rfl cV<|have H:=H.drs [1,1,1];?_
       cases hm
       exact X12 ⟨rfl,H.rdx [0,1,2,3,4,5] rfl (aE (t6 (b _ d)) (aE (t6 (b _ e)) (aE (t6 (b _ f)) (aE (t6 (b _ g)) (aE (t6 (b _ s)) (aE (t6 (b _ t)) (fun r hr=>(t6 (b r hr)))))))))⟩
      ·refine wp_skip<|bH<|aA<|wp_seq<|dz [0,0,0,0,0,0,1,2] [1,3] H fun w W0 hI H=>fn 1 E rfl fun a E=>fb2 E m0 U3 rfl fun a E=>cs hm (fun M hm=>?_) fun M hm=>?_
       ·refine fv E rfl (fun w hW=>wW (j:=2) E rfl rfl rfl M rfl Nm Hs) fun a E=>fb2 E mm1 Nn rfl fun a E=>fn 1 E rfl fun a E=>fbn E (aX x20 k l m n) rfl (wn rfl) rfl rfl rfl rfl m0 rfl U37 rfl M5 fun a E=>bI rfl<|have H:=H.frs [6,5,5,5,5,6,6] rfl;bd hm fun c5 b3 hm=>bM E (wn rfl) rfl rfl (bO E rfl rfl rfl ((cf_ 43) _)) (W4 H (b _ d) (b _ e) (b _ f) (b _ g) (b _ K) (b _ L) b3)<|?_
        rintro _ w ⟨c6,c7,c8,c9,d0,d1,j8,rfl,H⟩ a E
        refine nt<|⟨sx H [2,4] rfl,bL rfl<|ss 3 E H rfl cV (bR H m0 mm1 mm2 mm3 mm4 mm5) fun w H=>nt<|aY<|?_⟩
        clear hI
        refine aA<|wp_ret<|oB 3 (bJ c5.1 c6 c7 c8 c9 d0 d1) E H U48 rfl cV<|have H:=H.drs [2,2,2];have H:=H.frs [3,2,3,3] rfl;?_
        cases hm
        exact X12 ⟨rfl,H.rdx [0,1,2,3,4,5] rfl (aE (t7 (b _ d)) (aE (t7 (b _ e)) (aE (t7 (b _ f)) (aE mm6 (aE (t7 (b _ s)) (aE (t7 (b _ t)) (fun r hr=>(t7 (b r hr)))))))))⟩
       ·refine cs hm (fun Z hm=>?_) fun Z hm=>?_
        ·refine fv E rfl (fun w hW=>wW (j:=3) E rfl rfl rfl Z rfl Nm Hs) fun a E=>fb2 E mm1 Nn rfl fun a E=>fn 1 E rfl fun a E=>fbn E (aX x20 k l m n) rfl (wn rfl) rfl rfl rfl rfl m0 rfl U37 rfl M5 fun a E=>bI rfl<|have H:=H.frs [6,5,5,5,5,6,6] rfl;bd hm fun g8 d2 hm=>bM E (wn rfl) rfl rfl (bO E rfl rfl rfl ((cf_ 44) _)) (Ac H (b _ d) (b _ e) (b _ g) (b _ s) (b _ t) (b _ L) d2)<|?_
         rintro _ w ⟨g9,d3,d4,d5,d6,d7,j9,k0,k1,k2,k3,rfl,H⟩ a E
         refine nt<|⟨sx H [2,4] rfl,bL rfl<|ss 3 E H rfl cV (bR H m0 mm1 mm2 mm3 mm4 mm5) fun w H=>nt<|aY<|?_⟩
         clear hI
         refine aA<|wp_ret<|oB 3 (bJ g8.1 g9 d3 d4 d5 d6 d7) E H U48 rfl cV<|have H:=H.drs [2,2,2];have H:=H.frs [3,2,3,3] rfl;?_
         cases hm
         exact X12 ⟨rfl,H.rdx [0,1,2,3,4,5,6] rfl (aE (t1 mm6) (aE (t3 (t8 (b _ f))) (aE (t2 mm6) (aE (t3 mm6) (aE (t4 mm6) (fun r hr=>(t3 (t8 (b r hr)))))))))⟩
        ·refine cs hm (fun b0 hm=>?_) fun b0 hm=>?_
         ·refine fv E rfl (fun w hW=>wW (j:=4) E rfl rfl rfl b0 rfl Nm Hs) fun a E=>fb2 E mm1 Nn rfl fun a E=>fn 1 E rfl fun a E=>fbn E (aX x20 k l m n) rfl (wn rfl) rfl rfl rfl rfl m0 rfl U37 rfl M5 fun a E=>bI rfl<|have H:=H.frs [5,5,5,5,5,6,6] rfl;bd hm fun i0 d8 hm=>bM E (wn rfl) rfl rfl (bO E rfl rfl rfl ((cf_ 45) _)) (Ab H d8)<|?_
          rintro _ w ⟨i1,i2,i3,i4,i5,i6,rfl,H⟩ a E
          refine nt<|⟨sx H [2,4] rfl,bL rfl<|ss 3 E H rfl cV (bR H m0 mm1 mm2 mm3 mm4 mm5) fun w H=>nt<|aY<|?_⟩
          clear hI
          refine aA<|wp_ret<|oB 3 (bJ i0.1 i1 i2 i3 i4 i5 i6) E H U48 rfl cV<|have H:=H.drs [2,2,2];have H:=H.frs [1,3,3,3] rfl;?_
          cases hm
          exact X12 ⟨rfl,H.rdx [0,1,2,3,4,5] rfl (aE (t6 (b _ d)) (aE (t6 (b _ e)) (aE (t6 (b _ f)) (aE (t6 (b _ g)) (aE (t6 (b _ s)) (aE (t6 (b _ t)) (fun r hr=>(t6 (b r hr)))))))))⟩
         ·refine cs hm (fun b1 hm=>?_) fun b1 hm=>?_
          ·refine fv E rfl (fun w hW=>wW (j:=5) E rfl rfl rfl b1 rfl Nm Hs) fun a E=>fb2 E mm1 Nn rfl fun a E=>fn 1 E rfl fun a E=>fbn E (aX x20 k l m n) rfl (wn rfl) rfl rfl rfl rfl m0 rfl U37 rfl M5 fun a E=>bI rfl<|bd hm fun i7 d9 hm=>bM E (wn rfl) rfl rfl (bO E rfl rfl rfl ((cf_ 46) _)) (Af H (b _ d) (b _ e) (b _ f) (b _ g) d9)<|?_
           rintro _ w ⟨i8,i9,j0,j1,j2,j3,k8,rfl,H⟩ a E
           refine nt<|⟨sx H [1,3] rfl,bL rfl<|ss 2 E H rfl cV (bR H m0 mm1 mm2 mm3 mm4 mm5) fun w H=>nt<|aY<|?_⟩
           clear hI
           refine aA<|wp_ret<|oB 2 (bJ i7.1 i8 i9 j0 j1 j2 j3) E H U48 rfl cV<|have H:=H.drs [1,1,1];?_
           cases hm
           exact X12 ⟨rfl,H.rdx [0,1,2,3,4,5] rfl (aE (t7 (b _ d)) (aE (t7 (b _ e)) (aE mm6 (aE (t7 (b _ g)) (aE (t7 (b _ s)) (aE (t7 (b _ t)) (fun r hr=>(t7 (b r hr)))))))))⟩
          ·exact (aZ hm rfl).elim

def yP(b:List aO):Option mH:=
  (ck (b.length ≤ LIM)).bind fun c=>some (b)
theorem Bd{k:Nat}{l b c d e f g i j:Value}{o:List aO}(H:Sep w (Blk k 87 [b,c,d,l,e,f,g,i,j]::Fo) rs)(m:rSl aV l o ∈ rs){r:mH}(hm:yP o=some r) :
    Cf 20 [pt k 0] w fun v w'=>∃ p,p=v∧Sep w' (Row 78 aV p r::Blk k 87 [b,c,d,l,e,f,g,i,j]::Fo) (rs):=by
 unfold yP at hm
 refine ent Tryz.func20 rfl Tryz.ntmps20 rfl rfl fun a E=>sp 1 E rfl fun a E=>xp 3 E rfl fun a E=>lb2 E H 0 U58 rfl fun a E=>bk hm fun n hm=>xc2 E rfl (cf_ 60) (kZ H m n) fun q w H a E=>pr 1 E rfl fun a E=>nt<|wp_ret<|o1 E rfl<|?_
 cases hm
 exact ⟨_,rfl,H.reads Y0⟩

def xK(b:List aI):Option xA:=
  (ck (b.length ≤ LIM)).bind fun c=>some (b)
theorem Ag{k:Nat}{l b c d e f g i j:Value}{o:List aI}(H:Sep w (Blk k 87 [b,c,l,d,e,f,g,i,j]::Fo) rs)(m:rSl aR l o ∈ rs){r:xA}(hm:xK o=some r) :
    Cf 25 [pt k 0] w fun v w'=>∃ p,p=v∧Sep w' (Row 31 aR p r::Blk k 87 [b,c,l,d,e,f,g,i,j]::Fo) (rs):=by
 unfold xK at hm
 refine ent Tryz.func25 rfl Tryz.ntmps25 rfl rfl fun a E=>sp 1 E rfl fun a E=>xp 3 E rfl fun a E=>lb2 E H 0 U32 rfl fun a E=>bk hm fun n hm=>xc2 E rfl (cf_ 66) (qC H m n) fun q w H a E=>pr 1 E rfl fun a E=>nt<|wp_ret<|o1 E rfl<|?_
 cases hm
 exact ⟨_,rfl,H.reads Y0⟩

def iG(b:List aD)(c:List aJ):Option aF:=
  (ck (b.length ≤ LIM)).bind fun d=>(ck (c.length ≤ LIM)).bind fun e=>some ((⟨b,c⟩:aF))
theorem tZ{o:Nat}{p q d e f g j k l:Value}{b:List aD}{c:List aJ}(H:Sep w (Blk o 87 [p,q,d,e,f,g,j,k,l]::Fo) rs)(s:rSl aB p b ∈ rs)(t:rSl aC q c ∈ rs){r:aF}(hm:iG b c=some r) :
    Cf 15 [pt o 0] w fun v w'=>∃ y z,.agg #[y,z]=v∧Sep w' (Blk o 87 [p,q,d,e,f,g,j,k,l]::Fo) (rSl aB y r.Nodes::rSl aC z r.Turns::rs):=by
 unfold iG at hm
 refine ent Tryz.func15 rfl Tryz.ntmps15 rfl rfl fun a E=>sq<|al2 E H rfl lT fun A w a H E=>nt<|wp_seq<|dw [(0,0),(1,0),(2,0),(3,0),(4,0),(6,0),(7,0),(8,0),(9,0),(10,0),(5,1),(11,1),(12,0),(13,2)] [1] [] H (by kernel_rfl) (fun _ _ _ h=>False.elim h.2) fun w W0 hI H=>fn 4 E rfl fun a E=>fb2 E m0 U22 rfl fun a E=>fn 4 E rfl fun a E=>fb2 E m0 U23 rfl fun a E=>bI rfl<|bk hm fun u hm=>xc2 E rfl (cf_ 56) (rD H s u) fun B w H a E=>nt<|⟨sx H [2] rfl,bI rfl<|bk hm fun x hm=>xc2 E rfl (cf_ 57) (rE H t x) fun C w H a E=>nt<|⟨sx H [3] rfl,?_⟩⟩
 obtain ⟨q36,m,rfl⟩:=H.rowform (i:=1) rfl
 obtain ⟨q38,n,rfl⟩:=H.rowform (i:=0) rfl
 refine fv E rfl (fun w hW=>(bP E rfl (E.evs rfl) (v:=.agg #[(.slice q36 b.length m),(.slice q38 c.length n)]) (by kernel_rfl))) fun a E=>bL rfl<|ss 2 E H rfl bK rfl fun w H=>nt<|aY<|?_
 clear hI
 refine aA<|wp_ret<|oB 2 [(.slice q36 b.length m),(.slice q38 c.length n)] E H U25 rfl bK<|have H:=H.thaw (i:=1) rfl;have H:=H.thaw (i:=0) rfl;have H:=H.drop 0;?_
 cases hm
 exact ⟨_,_,rfl,H.rdx [1,0] rfl (fun r hr=>(t2 hr))⟩

def zR:Option Bool:=
  I2.bind fun u=>Fi u (some (false)) fun j=>(jJ (ByteArray.mk #[47,97])).bind fun p=>(dW j.1 j.2.1 j.2.2 ([]:List aO) ([]:List aP) ([]:List aH) [] [] [] (⟨1,1,0,0,false,p,(ByteArray.mk #[]),0,0,(⟨[],[]⟩:aF),[],(⟨0,0,(ByteArray.mk #[]),false⟩:aP)⟩:aS)).bind fun d=>(jJ (ByteArray.mk #[47,97])).bind fun q=>(dW d.2.1 d.2.2.1 d.2.2.2.1 d.2.2.2.2.1 d.2.2.2.2.2.1 d.2.2.2.2.2.2.1 d.2.2.2.2.2.2.2.1 d.2.2.2.2.2.2.2.2.1 d.2.2.2.2.2.2.2.2.2 (⟨1,1,0,0,false,q,(ByteArray.mk #[]),0,0,(⟨[],[]⟩:aF),[],(⟨0,0,(ByteArray.mk #[]),false⟩:aP)⟩:aS)).bind fun c=>(jJ (ByteArray.mk #[47,97,47,98])).bind fun s=>(dW c.2.1 c.2.2.1 c.2.2.2.1 c.2.2.2.2.1 c.2.2.2.2.2.1 c.2.2.2.2.2.2.1 c.2.2.2.2.2.2.2.1 c.2.2.2.2.2.2.2.2.1 c.2.2.2.2.2.2.2.2.2 (⟨2,0,5,1,false,s,(ByteArray.mk #[]),0,0,(⟨[],[]⟩:aF),[],(⟨0,0,(ByteArray.mk #[]),false⟩:aP)⟩:aS)).bind fun e=>(jJ (ByteArray.mk #[47,97,47,99])).bind fun t=>(dW e.2.1 e.2.2.1 e.2.2.2.1 e.2.2.2.2.1 e.2.2.2.2.2.1 e.2.2.2.2.2.2.1 e.2.2.2.2.2.2.2.1 e.2.2.2.2.2.2.2.2.1 e.2.2.2.2.2.2.2.2.2 (⟨1,2,0,0,false,t,(ByteArray.mk #[]),0,0,(⟨[],[]⟩:aF),[],(⟨0,0,(ByteArray.mk #[]),false⟩:aP)⟩:aS)).bind fun f=>(dW f.2.1 f.2.2.1 f.2.2.2.1 f.2.2.2.2.1 f.2.2.2.2.2.1 f.2.2.2.2.2.2.1 f.2.2.2.2.2.2.2.1 f.2.2.2.2.2.2.2.2.1 f.2.2.2.2.2.2.2.2.2 (⟨3,0,5,0,true,[],(ByteArray.mk #[]),0,0,(⟨[],[]⟩:aF),[],(⟨0,0,(ByteArray.mk #[]),false⟩:aP)⟩:aS)).bind fun g=>(dW g.2.1 g.2.2.1 g.2.2.2.1 g.2.2.2.2.1 g.2.2.2.2.2.1 g.2.2.2.2.2.2.1 g.2.2.2.2.2.2.2.1 g.2.2.2.2.2.2.2.2.1 g.2.2.2.2.2.2.2.2.2 (⟨5,0,0,0,false,[],(ByteArray.mk #[47,97]),1,0,(⟨[],[]⟩:aF),[],(⟨0,0,(ByteArray.mk #[]),false⟩:aP)⟩:aS)).bind fun b=>(jJ (ByteArray.mk #[47,97,47,100])).bind fun k=>(dW b.2.1 b.2.2.1 b.2.2.2.1 b.2.2.2.2.1 b.2.2.2.2.2.1 b.2.2.2.2.2.2.1 b.2.2.2.2.2.2.2.1 b.2.2.2.2.2.2.2.2.1 b.2.2.2.2.2.2.2.2.2 (⟨1,3,0,0,false,k,(ByteArray.mk #[]),0,0,(⟨[],[]⟩:aF),[],(⟨0,0,(ByteArray.mk #[]),false⟩:aP)⟩:aS)).bind fun i=>if (d.1.Err == 0)=true then (if (c.1.Err == 0)=true then (if ((c.1.Results.length:Int) == 2)=true then (if e.1.Yes=true then (if (f.1.Err == 131)=true then (if (g.1.Err == 0)=true then ((iG i.2.1 i.2.2.1).bind fun l=>if ((l.Nodes.length:Int) == 3)=true then (if (b.1.Epoch == 1)=true then (if ((b.1.Store.Nodes.length:Int) == 1)=true then (if (i.1.Err == 131)=true then ((xK i.2.2.2.1).bind fun m=>if ((m.length:Int) == 2)=true then ((yP i.2.2.2.2.1).bind fun n=>if ((n.length:Int) == 0)=true then ((yA (⟨[],[]⟩:aF) ([(⟨(ByteArray.mk #[]),0,0⟩:aI)]:List aI)).bind fun o=>Fi o (some (true)) fun v=>some (false)) else (some (false))) else (some (false))) else (some (false))) else (some (false))) else (some (false))) else (some (false))) else (some (false))) else (some (false))) else (some (false))) else (some (false))) else (some (false))) else (some (false))
theorem Cr(H:Sep w (Fo) rs)(C:y7 Tryz.prog ∈ rs){r:Bool}(hm:zR=some r) :
    Cf 8 [] w fun v w'=>.bool r=v∧Sep w' (Fo) (rs):=by
 unfold zR at hm
 refine ent Tryz.func8 rfl Tryz.ntmps8 rfl rfl fun a E=>sp 1 E rfl fun a E=>nx<|bd hm fun o9 l0 hm=>xc2 E rfl (cf_ 35) (Ce H l0)<|?_
 rintro _ w (⟨rfl,rfl,H⟩ | ⟨D,rfl,j1,l1,l2,l3,Y,Z,F,rfl,H⟩) a E
 ·replace hm:=Hc hm
  refine pn 1 E rfl fun a E=>wp_seq<|sp 1 E rfl fun a E=>sv2 E rfl (zG E rfl rfl rfl (v:=.bool true) (by kernel_rfl)) fun a E=>nt<|wp_cond_true (E.eval rfl)<|sq<|pn 1 E rfl fun a E=>wp_ret<|aG<|o1 E rfl<|?_
  cases hm
  exact ⟨rfl,H.reads Y0⟩
 ·replace hm:=Hd hm
  refine pn 1 E rfl fun a E=>wp_seq<|sp 1 E rfl fun a E=>sv2 E rfl (zG E rfl rfl rfl (v:=.bool false) (by kernel_rfl)) fun a E=>nt<|wp_cond_false (E.eval rfl)<|wp_skip<|aA<|sp 1 E rfl fun a E=>bd hm fun G j2 hm=>xc2 E rfl (cf_ 36) (pO H j2)<|?_
  rintro _ w ⟨o5,rfl,H⟩ a E
  obtain ⟨q15,b0,rfl⟩:=H.rowform (i:=0) rfl
  refine sv2 E rfl (bP E rfl (E.evs rfl) (v:=.agg #[.int .i64 1,.int .i64 1,.int .i64 0,.int .i64 0,.bool false,(.slice q15 G.length b0),.string (ByteArray.mk #[]),.int .i64 0,.int .i64 0,nS,nS,nS,.int .i64 0,.int .i64 0,.string (ByteArray.mk #[]),.bool false]) (by kernel_rfl)) fun a E=>have H:=H.thaw (i:=0) rfl;have H:=H.nilSl aB;have H:=H.nilSl aC;have H:=H.nilSl kS;have H:=H.nilSl aV;have H:=H.nilSl bB;have H:=H.nilSl aN;bd hm fun c j3 hm=>xc2 E rfl (cf_ 13) (lY (x20:=(⟨1,1,0,0,false,G,(ByteArray.mk #[]),0,0,(⟨[],[]⟩:aF),[],(⟨0,0,(ByteArray.mk #[]),false⟩:aP)⟩:aS)) H (t1 mm6) (t2 mm6) (t3 mm6) mm2 mm1 m0 mm6 mm5 mm4 mm3 (t2 (t8 C)) j3)<|?_
  rintro _ w ⟨L,M,N,O,P,Q,i2,i3,i4,i5,i6,i7,rfl,H⟩ a E
  refine al2 E H rfl tI fun b1 w a H E=>ss 0 E H rfl cV (bR H m0 mm1 mm2 mm3 mm4 mm5) fun w H=>xp 1 E rfl fun a E=>bd hm fun I j4 hm=>xc2 E rfl (cf_ 36) (pO H j4)<|?_
  rintro _ w ⟨o6,rfl,H⟩ a E
  obtain ⟨q35,b2,rfl⟩:=H.rowform (i:=0) rfl
  refine sv2 E rfl (bP E rfl (E.evs rfl) (v:=.agg #[.int .i64 1,.int .i64 1,.int .i64 0,.int .i64 0,.bool false,(.slice q35 I.length b2),.string (ByteArray.mk #[]),.int .i64 0,.int .i64 0,nS,nS,nS,.int .i64 0,.int .i64 0,.string (ByteArray.mk #[]),.bool false]) (by kernel_rfl)) fun a E=>have H:=H.thaw (i:=0) rfl;have H:=H.nilSl aB;have H:=H.nilSl aC;have H:=H.nilSl kS;have H:=H.frs [0,4,4,4,4] rfl;bd hm fun b j5 hm=>xc2 E rfl (cf_ 13) (lY (x20:=(⟨1,1,0,0,false,I,(ByteArray.mk #[]),0,0,(⟨[],[]⟩:aF),[],(⟨0,0,(ByteArray.mk #[]),false⟩:aP)⟩:aS)) H (t4 mm6) (t5 mm6) (t6 mm6) (t7 mm6) (t8 mm6) (t1 (t8 mm6)) mm3 mm2 mm1 m0 (t2 (t8 (t8 (t8 C)))) j5)<|?_
  rintro _ w ⟨R,S,T,U,V,W,b3,b4,b5,b6,b7,b8,rfl,H⟩ a E
  refine al2 E H rfl tI fun b9 w a H E=>ss 0 E H rfl cV (bR H m0 mm1 mm2 mm3 mm4 mm5) fun w H=>xp 1 E rfl fun a E=>bd hm fun J j6 hm=>xc2 E rfl (cf_ 36) (pO H j6)<|?_
  rintro _ w ⟨o7,rfl,H⟩ a E
  obtain ⟨q55,c0,rfl⟩:=H.rowform (i:=0) rfl
  refine sv2 E rfl (bP E rfl (E.evs rfl) (v:=.agg #[.int .i64 2,.int .i64 0,.int .i64 5,.int .i64 1,.bool false,(.slice q55 J.length c0),.string (ByteArray.mk #[]),.int .i64 0,.int .i64 0,nS,nS,nS,.int .i64 0,.int .i64 0,.string (ByteArray.mk #[]),.bool false]) (by kernel_rfl)) fun a E=>have H:=H.thaw (i:=0) rfl;have H:=H.nilSl aB;have H:=H.nilSl aC;have H:=H.nilSl kS;have H:=H.frs [5,1,5,5,5,5] rfl;?_
  replace H:Sep w (Blk j1 87 [b3,b4,b5,b6,b7,b8,.map (some Y),.map (some Z),.map (some F)]::cG Tryz.prog 2 (kyI .i64) bY true Y b.2.2.2.2.2.2.2.1::cG Tryz.prog 2 (kyI .i64) cY true Z b.2.2.2.2.2.2.2.2.1::cG Tryz.prog 2 (kyI .i64) bY true F b.2.2.2.2.2.2.2.2.2::Blk b9 48 (bJ b.1 R S T U V W)::Blk b1 48 (bJ c.1 L M N O P Q)::Fo) (rSl kS (nS) ([]:List ByteArray)::rSl aC (nS) ([]:List aJ)::rSl aB (nS) ([]:List aD)::rSl bN (.slice q55 J.length c0) J::rSl aU R b.1.Results::rSl aB S b.1.Store.Nodes::rSl aC T b.1.Store.Turns::rSl aT U b.1.Events::rSl bU V b.1.Mounts::rSl (kI .i64) W b.1.Wounded::rSl aB b3 b.2.1::rSl aC b4 b.2.2.1::rSl aR b5 b.2.2.2.1::rSl aV b6 b.2.2.2.2.1::rSl bB b7 b.2.2.2.2.2.1::rSl aN b8 b.2.2.2.2.2.2.1::rSl kS (nS) ([]:List ByteArray)::rSl aC (nS) ([]:List aJ)::rSl aB (nS) ([]:List aD)::rSl bN (.slice q35 I.length b2) I::rSl aU L c.1.Results::rSl aB M c.1.Store.Nodes::rSl aC N c.1.Store.Turns::rSl aT O c.1.Events::rSl bU P c.1.Mounts::rSl (kI .i64) Q c.1.Wounded::rSl aB i2 c.2.1::rSl aC i3 c.2.2.1::rSl aR i4 c.2.2.2.1::rSl aV i5 c.2.2.2.2.1::rSl bB i6 c.2.2.2.2.2.1::rSl aN i7 c.2.2.2.2.2.2.1::rSl aN (nS) ([]:List aH)::rSl bB (nS) ([]:List aP)::rSl aV (nS) ([]:List aO)::rSl kS (nS) ([]:List ByteArray)::rSl aC (nS) ([]:List aJ)::rSl aB (nS) ([]:List aD)::rSl bN (.slice q15 G.length b0) G::rSl aB l1 D.1::rSl aC l2 D.2.1::rSl aR l3 D.2.2::rs):=H
  refine bd hm fun l j7 hm=>xc2 E rfl (cf_ 13) (lY (x20:=(⟨2,0,5,1,false,J,(ByteArray.mk #[]),0,0,(⟨[],[]⟩:aF),[],(⟨0,0,(ByteArray.mk #[]),false⟩:aP)⟩:aS)) H (t4 mm6) (t5 mm6) (t6 mm6) (t7 mm6) (t8 mm6) (t1 (t8 mm6)) mm3 mm2 mm1 m0 (t2 (t8 (t8 (t8 (t8 (t8 C)))))) j7)<|?_
  rintro _ w ⟨c1,c2,c3,c4,c5,c6,l4,l5,l6,l7,l8,l9,rfl,H⟩ a E
  refine al2 E H rfl tI fun i8 w a H E=>ss 0 E H rfl cV (bR H m0 mm1 mm2 mm3 mm4 mm5) fun w H=>xp 1 E rfl fun a E=>bd hm fun X j8 hm=>xc2 E rfl (cf_ 36) (pO H j8)<|?_
  rintro _ w ⟨o8,rfl,H⟩ a E
  obtain ⟨q75,i9,rfl⟩:=H.rowform (i:=0) rfl
  refine sv2 E rfl (bP E rfl (E.evs rfl) (v:=.agg #[.int .i64 1,.int .i64 2,.int .i64 0,.int .i64 0,.bool false,(.slice q75 X.length i9),.string (ByteArray.mk #[]),.int .i64 0,.int .i64 0,nS,nS,nS,.int .i64 0,.int .i64 0,.string (ByteArray.mk #[]),.bool false]) (by kernel_rfl)) fun a E=>have H:=H.thaw (i:=0) rfl;have H:=H.nilSl aB;have H:=H.nilSl aC;have H:=H.nilSl kS;have H:=H.frs [6,6,2,6,6,6,6] rfl;bd hm fun m j9 hm=>xc2 E rfl (cf_ 13) (lY (x20:=(⟨1,2,0,0,false,X,(ByteArray.mk #[]),0,0,(⟨[],[]⟩:aF),[],(⟨0,0,(ByteArray.mk #[]),false⟩:aP)⟩:aS)) H (t4 mm6) (t5 mm6) (t6 mm6) (t7 mm6) (t8 mm6) (t1 (t8 mm6)) mm3 mm2 mm1 m0 (t2 (t8 (t8 (t8 (t8 (t8 (t8 (t8 C)))))))) j9)<|?_
  rintro _ w ⟨c7,c8,c9,d0,d1,d2,m1,m2,m3,m4,m5,m6,rfl,H⟩ a E
  refine al2 E H rfl tI fun j0 w a H E=>ss 0 E H rfl cV (bR H m0 mm1 mm2 mm3 mm4 mm5) fun w H=>xp 1 E rfl fun a E=>sv2 E rfl (bP E rfl (E.evs rfl) (v:=.agg #[.int .i64 3,.int .i64 0,.int .i64 5,.int .i64 0,.bool true,nS,.string (ByteArray.mk #[]),.int .i64 0,.int .i64 0,nS,nS,nS,.int .i64 0,.int .i64 0,.string (ByteArray.mk #[]),.bool false]) (by kernel_rfl)) fun a E=>have H:=H.nilSl bN;have H:=H.nilSl aB;have H:=H.nilSl aC;have H:=H.nilSl kS;have H:=H.frs [7,7,7,3,7,7,7,7] rfl;bd hm fun k k0 hm=>xc2 E rfl (cf_ 13) (lY (x20:=(⟨3,0,5,0,true,[],(ByteArray.mk #[]),0,0,(⟨[],[]⟩:aF),[],(⟨0,0,(ByteArray.mk #[]),false⟩:aP)⟩:aS)) H (t4 mm6) (t5 mm6) (t6 mm6) (t7 mm6) (t8 mm6) (t1 (t8 mm6)) mm3 mm2 mm1 m0 (t2 (t8 (t8 (t8 (t8 (t8 (t8 (t8 (t8 (t8 C)))))))))) k0)<|?_
  rintro _ w ⟨d3,d4,d5,d6,d7,d8,d9,e0,e1,e2,e3,e4,rfl,H⟩ a E
  refine al2 E H rfl tI fun e5 w a H E=>ss 0 E H rfl cV (bR H m0 mm1 mm2 mm3 mm4 mm5) fun w H=>?_
  replace H:Sep w (Blk e5 48 (bJ k.1 d3 d4 d5 d6 d7 d8)::Blk j1 87 [d9,e0,e1,e2,e3,e4,.map (some Y),.map (some Z),.map (some F)]::cG Tryz.prog 2 (kyI .i64) bY true Y k.2.2.2.2.2.2.2.1::cG Tryz.prog 2 (kyI .i64) cY true Z k.2.2.2.2.2.2.2.2.1::cG Tryz.prog 2 (kyI .i64) bY true F k.2.2.2.2.2.2.2.2.2::Blk j0 48 (bJ m.1 c7 c8 c9 d0 d1 d2)::Blk i8 48 (bJ l.1 c1 c2 c3 c4 c5 c6)::Blk b9 48 (bJ b.1 R S T U V W)::Blk b1 48 (bJ c.1 L M N O P Q)::Fo) _:=H
  refine xp 1 E rfl fun a E=>sv2 E rfl (bP E rfl (E.evs rfl) (v:=.agg #[.int .i64 5,.int .i64 0,.int .i64 0,.int .i64 0,.bool false,nS,.string (ByteArray.mk #[47,97]),.int .i64 1,.int .i64 0,nS,nS,nS,.int .i64 0,.int .i64 0,.string (ByteArray.mk #[]),.bool false]) (by kernel_rfl)) fun a E=>have H:=H.nilSl bN;have H:=H.nilSl aB;have H:=H.nilSl aC;have H:=H.nilSl kS;have H:=H.frs [8,8,8,8,4,8,8,8,8] rfl;bd hm fun g g5 hm=>xc2 E rfl (cf_ 13) (lY (x20:=(⟨5,0,0,0,false,[],(ByteArray.mk #[47,97]),1,0,(⟨[],[]⟩:aF),[],(⟨0,0,(ByteArray.mk #[]),false⟩:aP)⟩:aS)) H (t4 mm6) (t5 mm6) (t6 mm6) (t7 mm6) (t8 mm6) (t1 (t8 mm6)) mm3 mm2 mm1 m0 (t2 (t8 (t8 (t8 (t8 (t8 (t8 (t8 (t8 (t8 (t8 (t8 C)))))))))))) g5)<|?_
  rintro _ w ⟨e6,e7,e8,e9,f0,f1,k1,k2,k3,k4,k5,k6,rfl,H⟩ a E
  refine al2 E H rfl tI fun k7 w a H E=>ss 0 E H rfl cV (bR H m0 mm1 mm2 mm3 mm4 mm5) fun w H=>xp 1 E rfl fun a E=>bd hm fun K g6 hm=>xc2 E rfl (cf_ 36) (pO H g6)<|?_
  rintro _ w ⟨m7,rfl,H⟩ a E
  obtain ⟨q125,f2,rfl⟩:=H.rowform (i:=0) rfl
  refine sv2 E rfl (bP E rfl (E.evs rfl) (v:=.agg #[.int .i64 1,.int .i64 3,.int .i64 0,.int .i64 0,.bool false,(.slice q125 K.length f2),.string (ByteArray.mk #[]),.int .i64 0,.int .i64 0,nS,nS,nS,.int .i64 0,.int .i64 0,.string (ByteArray.mk #[]),.bool false]) (by kernel_rfl)) fun a E=>have H:=H.thaw (i:=0) rfl;have H:=H.nilSl aB;have H:=H.nilSl aC;have H:=H.nilSl kS;have H:=H.frs [9,9,9,9,9,5,9,9,9,9] rfl;bd hm fun f g7 hm=>xc2 E rfl (cf_ 13) (lY (x20:=(⟨1,3,0,0,false,K,(ByteArray.mk #[]),0,0,(⟨[],[]⟩:aF),[],(⟨0,0,(ByteArray.mk #[]),false⟩:aP)⟩:aS)) H (t4 mm6) (t5 mm6) (t6 mm6) (t7 mm6) (t8 mm6) (t1 (t8 mm6)) mm3 mm2 mm1 m0 (t2 (t8 (t8 (t8 (t8 (t8 (t8 (t8 (t8 (t8 (t8 (t8 (t8 (t8 C)))))))))))))) g7)<|?_
  rintro _ w ⟨f3,f4,f5,f6,f7,f8,f9,g0,g1,g2,g3,g4,rfl,H⟩ a E
  refine al2 E H rfl tI fun k8 w a H E=>ss 0 E H rfl cV (bR H m0 mm1 mm2 mm3 mm4 mm5) fun w H=>xp 1 E rfl fun a E=>lb2 E H 10 U41 rfl fun a E=>pr 2 E rfl fun a E=>cs hm (fun t hm=>?_) fun t hm=>?_
  ·refine pk 1 E (kc 41 rfl t) rfl fun a E=>gl 41 E H 9 t U41 rfl fun a E=>pk 3 E (kc 41 rfl t) rfl fun a E=>cs hm (fun o hm=>?_) fun o hm=>?_
   ·refine pk 1 E (kc 46 rfl o) rfl fun a E=>gl 46 E H 9 o U40 rfl fun a E=>gv 46 E o rfl (uN E H rfl rfl (t2 (t8 (t8 (t8 (t8 (t8 (t8 (t8 (t8 (t8 mm6)))))))))) U40) fun a E=>pk 3 E (kc 46 rfl o) rfl fun a E=>cs hm (fun u hm=>?_) fun u hm=>?_
    ·refine pk 1 E (kc 52 rfl u) rfl fun a E=>gl 52 E H 8 u U4 rfl fun a E=>pk 2 E (kc 52 rfl u) rfl fun a E=>cs hm (fun y hm=>?_) fun y hm=>?_
     ·refine pk 1 E (kc 56 rfl y) rfl fun a E=>gl 56 E H 7 y U41 rfl fun a E=>pk 3 E (kc 56 rfl y) rfl fun a E=>cs hm (fun z hm=>?_) fun z hm=>?_
      ·refine pk 1 E (kc 61 rfl z) rfl fun a E=>gl 61 E H 6 z U41 rfl fun a E=>pk 3 E (kc 61 rfl z) rfl fun a E=>cs hm (fun n hm=>?_) fun n hm=>?_
       ·refine pk 1 E (kc 66 rfl n) rfl fun a E=>have H:=H.frs [10,10,10,10,10,10,10,10,10,9,10] rfl;?_
        replace H:Sep w (Blk j1 87 [f9,g0,g1,g2,g3,g4,.map (some Y),.map (some Z),.map (some F)]::Blk k8 48 (bJ f.1 f3 f4 f5 f6 f7 f8)::cG Tryz.prog 2 (kyI .i64) bY true Y f.2.2.2.2.2.2.2.1::cG Tryz.prog 2 (kyI .i64) cY true Z f.2.2.2.2.2.2.2.2.1::cG Tryz.prog 2 (kyI .i64) bY true F f.2.2.2.2.2.2.2.2.2::Blk k7 48 (bJ g.1 e6 e7 e8 e9 f0 f1)::Blk e5 48 (bJ k.1 d3 d4 d5 d6 d7 d8)::Blk j0 48 (bJ m.1 c7 c8 c9 d0 d1 d2)::Blk i8 48 (bJ l.1 c1 c2 c3 c4 c5 c6)::Blk b9 48 (bJ b.1 R S T U V W)::Blk b1 48 (bJ c.1 L M N O P Q)::Fo) (rSl aU f3 f.1.Results::rSl aB f4 f.1.Store.Nodes::rSl aC f5 f.1.Store.Turns::rSl aT f6 f.1.Events::rSl bU f7 f.1.Mounts::rSl (kI .i64) f8 f.1.Wounded::rSl aB f9 f.2.1::rSl aC g0 f.2.2.1::rSl aR g1 f.2.2.2.1::rSl aV g2 f.2.2.2.2.1::rSl bB g3 f.2.2.2.2.2.1::rSl aN g4 f.2.2.2.2.2.2.1::rSl kS (nS) ([]:List ByteArray)::rSl aC (nS) ([]:List aJ)::rSl aB (nS) ([]:List aD)::rSl bN (.slice q125 K.length f2) K::rSl aU e6 g.1.Results::rSl aB e7 g.1.Store.Nodes::rSl aC e8 g.1.Store.Turns::rSl aT e9 g.1.Events::rSl bU f0 g.1.Mounts::rSl (kI .i64) f1 g.1.Wounded::rSl aB k1 g.2.1::rSl aC k2 g.2.2.1::rSl aR k3 g.2.2.2.1::rSl aV k4 g.2.2.2.2.1::rSl bB k5 g.2.2.2.2.2.1::rSl aN k6 g.2.2.2.2.2.2.1::rSl kS (nS) ([]:List ByteArray)::rSl aC (nS) ([]:List aJ)::rSl aB (nS) ([]:List aD)::rSl bN (nS) ([]:List bV)::rSl aU d3 k.1.Results::rSl aB d4 k.1.Store.Nodes::rSl aC d5 k.1.Store.Turns::rSl aT d6 k.1.Events::rSl bU d7 k.1.Mounts::rSl (kI .i64) d8 k.1.Wounded::rSl aB d9 k.2.1::rSl aC e0 k.2.2.1::rSl aR e1 k.2.2.2.1::rSl aV e2 k.2.2.2.2.1::rSl bB e3 k.2.2.2.2.2.1::rSl aN e4 k.2.2.2.2.2.2.1::rSl kS (nS) ([]:List ByteArray)::rSl aC (nS) ([]:List aJ)::rSl aB (nS) ([]:List aD)::rSl bN (nS) ([]:List bV)::rSl aU c7 m.1.Results::rSl aB c8 m.1.Store.Nodes::rSl aC c9 m.1.Store.Turns::rSl aT d0 m.1.Events::rSl bU d1 m.1.Mounts::rSl (kI .i64) d2 m.1.Wounded::rSl aB m1 m.2.1::rSl aC m2 m.2.2.1::rSl aR m3 m.2.2.2.1::rSl aV m4 m.2.2.2.2.1::rSl bB m5 m.2.2.2.2.2.1::rSl aN m6 m.2.2.2.2.2.2.1::rSl kS (nS) ([]:List ByteArray)::rSl aC (nS) ([]:List aJ)::rSl aB (nS) ([]:List aD)::rSl bN (.slice q75 X.length i9) X::rSl aU c1 l.1.Results::rSl aB c2 l.1.Store.Nodes::rSl aC c3 l.1.Store.Turns::rSl aT c4 l.1.Events::rSl bU c5 l.1.Mounts::rSl (kI .i64) c6 l.1.Wounded::rSl aB l4 l.2.1::rSl aC l5 l.2.2.1::rSl aR l6 l.2.2.2.1::rSl aV l7 l.2.2.2.2.1::rSl bB l8 l.2.2.2.2.2.1::rSl aN l9 l.2.2.2.2.2.2.1::rSl kS (nS) ([]:List ByteArray)::rSl aC (nS) ([]:List aJ)::rSl aB (nS) ([]:List aD)::rSl bN (.slice q55 J.length c0) J::rSl aU R b.1.Results::rSl aB S b.1.Store.Nodes::rSl aC T b.1.Store.Turns::rSl aT U b.1.Events::rSl bU V b.1.Mounts::rSl (kI .i64) W b.1.Wounded::rSl aB b3 b.2.1::rSl aC b4 b.2.2.1::rSl aR b5 b.2.2.2.1::rSl aV b6 b.2.2.2.2.1::rSl bB b7 b.2.2.2.2.2.1::rSl aN b8 b.2.2.2.2.2.2.1::rSl kS (nS) ([]:List ByteArray)::rSl aC (nS) ([]:List aJ)::rSl aB (nS) ([]:List aD)::rSl bN (.slice q35 I.length b2) I::rSl aU L c.1.Results::rSl aB M c.1.Store.Nodes::rSl aC N c.1.Store.Turns::rSl aT O c.1.Events::rSl bU P c.1.Mounts::rSl (kI .i64) Q c.1.Wounded::rSl aB i2 c.2.1::rSl aC i3 c.2.2.1::rSl aR i4 c.2.2.2.1::rSl aV i5 c.2.2.2.2.1::rSl bB i6 c.2.2.2.2.2.1::rSl aN i7 c.2.2.2.2.2.2.1::rSl aN (nS) ([]:List aH)::rSl bB (nS) ([]:List aP)::rSl aV (nS) ([]:List aO)::rSl kS (nS) ([]:List ByteArray)::rSl aC (nS) ([]:List aJ)::rSl aB (nS) ([]:List aD)::rSl bN (.slice q15 G.length b0) G::rSl aB l1 D.1::rSl aC l2 D.2.1::rSl aR l3 D.2.2::rs):=H
        refine bd hm fun m8 g8 hm=>gc 66 E n rfl (cf_ 15) (tZ H mm6 (t1 mm6) g8)<|?_
        rintro _ w ⟨k9,m9,rfl,H⟩ a E
        refine gv 66 E n rfl (Yj E rfl rfl (v:=k9) (by kernel_rfl)) fun a E=>gv 66 E n rfl (uN E H rfl rfl m0 U22) fun a E=>pk 3 E (kc 66 rfl n) rfl fun a E=>cs hm (fun A hm=>?_) fun A hm=>?_
        ·refine pk 1 E (kc 73 rfl A) rfl fun a E=>gl 73 E H 5 A U2 rfl fun a E=>pk 3 E (kc 73 rfl A) rfl fun a E=>cs hm (fun p hm=>?_) fun p hm=>?_
         ·refine pk 2 E (kc 78 rfl p) rfl fun a E=>gl 78 E H 5 p U22 rfl fun a E=>gv 78 E p rfl (uN E H rfl rfl (t5 (t8 mm6)) U22) fun a E=>pk 3 E (kc 78 rfl p) rfl fun a E=>cs hm (fun B hm=>?_) fun B hm=>?_
          ·refine pk 1 E (kc 85 rfl B) rfl fun a E=>gl 85 E H 1 B U41 rfl fun a E=>pk 3 E (kc 85 rfl B) rfl fun a E=>cs hm (fun q hm=>?_) fun q hm=>?_
           ·refine pk 1 E (kc 90 rfl q) rfl fun a E=>bd hm fun n0 g9 hm=>gc 90 E q rfl (cf_ 25) (Ag H (t4 mm6) g9)<|?_
            rintro _ w ⟨n1,rfl,H⟩ a E
            refine gv 90 E q rfl (iJ (i:=0) E H rfl rfl rfl U32) fun a E=>pk 3 E (kc 90 rfl q) rfl fun a E=>cs hm (fun s hm=>?_) fun s hm=>?_
            ·refine pk 1 E (kc 96 rfl s) rfl fun a E=>have H:=H.frs [11,11,11,11,11,11,11,11,11,11,10,11] rfl;bd hm fun n2 i0 hm=>gc 96 E s rfl (cf_ 20) (Bd H (t5 mm6) i0)<|?_
             rintro _ w ⟨n3,rfl,H⟩ a E
             refine gv 96 E s rfl (iJ (i:=0) E H rfl rfl rfl U58) fun a E=>pk 3 E (kc 96 rfl s) rfl fun a E=>cs hm (fun j hm=>?_) fun j hm=>?_
             ·refine gv 102 E j rfl (bP E rfl (E.evs rfl) (v:=.agg #[nS,nS]) (by kernel_rfl)) fun a E=>gv 102 E j rfl (bP E rfl (E.evs rfl) (v:=.agg Pm.toArray) (by kernel_rfl)) fun a E=>gU (e:=31) (d:=aR) (cs:=[.string (ByteArray.mk #[]),.int .i64 0,.int .i64 0]) (xs:=[(⟨(ByteArray.mk #[]),0,0⟩:aI)]) E H (ws' (d:=102) E rfl rfl rfl rfl j) rfl rfl rfl (E.evs rfl) (by kernel_rfl) rfl rfl (fun ok hr=>(Rows.single (d:=aR) (cs:=[.string (ByteArray.mk #[]),.int .i64 0,.int .i64 0]) (x:=(⟨(ByteArray.mk #[]),0,0⟩:aI)) wA)) fun n4 w a H E=>have H:=H.nilSl aB;have H:=H.nilSl aC;have H:=H.thaw (i:=0) rfl;bd hm fun n5 i1 hm=>gc 102 E j rfl (cf_ 9) (S1 (x1:=(⟨[],[]⟩:aF)) H mm2 mm1 m0 i1)<|?_
              rintro _ w (⟨rfl,rfl,H⟩ | ⟨n6,rfl,n7,n8,n9,o0,o2,o3,o4,rfl,H⟩) a E
              ·replace hm:=Hc hm
               refine gv 102 E j rfl (zG E rfl rfl rfl (v:=.bool true) (by kernel_rfl)) fun a E=>pk 2 E (kc 102 rfl j) rfl fun a E=>nt<|wp_ret<|o1 E rfl<|have H:=H.drs [0,0,0,0,0,0,0,0,0,0,0,0,0];?_
               cases hm
               exact ⟨rfl,H.reads (Y3 (Y8 (Y8 (Y8 (Y8 (Y8 (Y8 (Y8 (Y8 (Y8 (Y8 (Y8 (Y8 (Y8 (Y8 (Y8 Y0))))))))))))))))⟩
              ·replace hm:=Hd hm
               refine gv 102 E j rfl (zG E rfl rfl rfl (v:=.bool false) (by kernel_rfl)) fun a E=>pk 2 E (kc 102 rfl j) rfl fun a E=>nt<|wp_ret<|o1 E rfl<|have H:=H.drs [0,0,0,0,0,0,0,0,0,0,0,0,0,0,0,0,0];?_
               cases hm
               exact ⟨rfl,H.reads (Y6 (Y8 (Y8 (Y8 (Y8 (Y8 (Y8 (Y8 (Y8 (Y8 (Y8 (Y8 (Y8 (Y8 (Y8 (Y8 Y0))))))))))))))))⟩
             ·refine pk 7 E (kc 102 rfl j) rfl fun a E=>nt<|wp_ret<|o1 E rfl<|have H:=H.drs [0,0,0,0,0,0,0,0,0,0,0,0,0];?_
              cases hm
              exact ⟨rfl,H.reads (Y8 (Y8 (Y8 (Y8 (Y8 (Y8 (Y8 (Y8 (Y8 (Y8 (Y8 (Y8 (Y8 (Y8 (Y8 Y0)))))))))))))))⟩
            ·refine pk 13 E (kc 96 rfl s) rfl fun a E=>nt<|wp_ret<|o1 E rfl<|have H:=H.drs [0,0,0,0,0,0,0,0,0,0,0,0];?_
             cases hm
             exact ⟨rfl,H.reads (Y8 (Y8 (Y8 (Y8 (Y8 (Y8 (Y8 (Y8 (Y8 (Y8 (Y8 (Y8 (Y8 (Y8 (Y8 Y0)))))))))))))))⟩
           ·refine pk 19 E (kc 90 rfl q) rfl fun a E=>nt<|wp_ret<|o1 E rfl<|have H:=H.drs [0,0,0,0,0,0,0,0,0,0,0];?_
            cases hm
            exact ⟨rfl,H.reads (Y8 (Y8 (Y8 (Y8 (Y8 (Y8 (Y8 (Y8 (Y8 (Y8 (Y8 (Y8 (Y8 (Y8 (Y8 Y0)))))))))))))))⟩
          ·refine pk 24 E (kc 85 rfl B) rfl fun a E=>nt<|wp_ret<|o1 E rfl<|have H:=H.drs [0,0,0,0,0,0,0,0,0,0,0];?_
           cases hm
           exact ⟨rfl,H.reads (Y8 (Y8 (Y8 (Y8 (Y8 (Y8 (Y8 (Y8 (Y8 (Y8 (Y8 (Y8 (Y8 (Y8 (Y8 Y0)))))))))))))))⟩
         ·refine pk 31 E (kc 78 rfl p) rfl fun a E=>nt<|wp_ret<|o1 E rfl<|have H:=H.drs [0,0,0,0,0,0,0,0,0,0,0];?_
          cases hm
          exact ⟨rfl,H.reads (Y8 (Y8 (Y8 (Y8 (Y8 (Y8 (Y8 (Y8 (Y8 (Y8 (Y8 (Y8 (Y8 (Y8 (Y8 Y0)))))))))))))))⟩
        ·refine pk 36 E (kc 73 rfl A) rfl fun a E=>nt<|wp_ret<|o1 E rfl<|have H:=H.drs [0,0,0,0,0,0,0,0,0,0,0];?_
         cases hm
         exact ⟨rfl,H.reads (Y8 (Y8 (Y8 (Y8 (Y8 (Y8 (Y8 (Y8 (Y8 (Y8 (Y8 (Y8 (Y8 (Y8 (Y8 Y0)))))))))))))))⟩
       ·refine pk 43 E (kc 66 rfl n) rfl fun a E=>nt<|wp_ret<|o1 E rfl<|have H:=H.drs [0,0,0,0,0,0,0,0,0,0,0];?_
        cases hm
        exact ⟨rfl,H.reads (Y6 (Y8 (Y8 (Y8 (Y8 (Y8 (Y8 (Y8 (Y8 (Y8 (Y8 (Y8 (Y8 (Y8 (Y8 Y0)))))))))))))))⟩
      ·refine pk 48 E (kc 61 rfl z) rfl fun a E=>nt<|wp_ret<|o1 E rfl<|have H:=H.drs [0,0,0,0,0,0,0,0,0,0,0];?_
       cases hm
       exact ⟨rfl,H.reads (Y6 (Y8 (Y8 (Y8 (Y8 (Y8 (Y8 (Y8 (Y8 (Y8 (Y8 (Y8 (Y8 (Y8 (Y8 Y0)))))))))))))))⟩
     ·refine pk 53 E (kc 56 rfl y) rfl fun a E=>nt<|wp_ret<|o1 E rfl<|have H:=H.drs [0,0,0,0,0,0,0,0,0,0,0];?_
      cases hm
      exact ⟨rfl,H.reads (Y6 (Y8 (Y8 (Y8 (Y8 (Y8 (Y8 (Y8 (Y8 (Y8 (Y8 (Y8 (Y8 (Y8 (Y8 Y0)))))))))))))))⟩
    ·refine pk 57 E (kc 52 rfl u) rfl fun a E=>nt<|wp_ret<|o1 E rfl<|have H:=H.drs [0,0,0,0,0,0,0,0,0,0,0];?_
     cases hm
     exact ⟨rfl,H.reads (Y6 (Y8 (Y8 (Y8 (Y8 (Y8 (Y8 (Y8 (Y8 (Y8 (Y8 (Y8 (Y8 (Y8 (Y8 Y0)))))))))))))))⟩
   ·refine pk 63 E (kc 46 rfl o) rfl fun a E=>nt<|wp_ret<|o1 E rfl<|have H:=H.drs [0,0,0,0,0,0,0,0,0,0,0];?_
    cases hm
    exact ⟨rfl,H.reads (Y6 (Y8 (Y8 (Y8 (Y8 (Y8 (Y8 (Y8 (Y8 (Y8 (Y8 (Y8 (Y8 (Y8 (Y8 Y0)))))))))))))))⟩
  ·refine pk 68 E (kc 41 rfl t) rfl fun a E=>nt<|wp_ret<|o1 E rfl<|have H:=H.drs [0,0,0,0,0,0,0,0,0,0,0];?_
   cases hm
   exact ⟨rfl,H.reads (Y6 (Y8 (Y8 (Y8 (Y8 (Y8 (Y8 (Y8 (Y8 (Y8 (Y8 (Y8 (Y8 (Y8 (Y8 Y0)))))))))))))))⟩

def eM(rec_1:Int→Option Bool)(b:Int)(c:Bool):Option Bool:=
  if c=true then (some (false)) else (rec_1 (IntKind.i64.wrap (b+1)))
def dR(b:ByteArray):Nat→Int→Option Bool
  | 0,_=>none
  | e+1,c=>
    if (decide (c < (b.size:Int)))=true then ((idx b.data.toList c).bind fun d=>if ((d.toNat:Int) != 45)=true then (if (decide ((d.toNat:Int) < 97))=true then (if (decide ((d.toNat:Int) < 48))=true then (eM (dR b e) c true) else (eM (dR b e) c (decide ((d.toNat:Int) > 57)))) else (if (decide ((d.toNat:Int) > 122))=true then (if (decide ((d.toNat:Int) < 48))=true then (eM (dR b e) c true) else (eM (dR b e) c (decide ((d.toNat:Int) > 57)))) else (eM (dR b e) c false))) else (eM (dR b e) c false)) else (if (decide ((b.size:Int) ≥ 1))=true then (some (decide ((b.size:Int) ≤ 12))) else (some (false)))
def lZ(b:ByteArray):Option Bool:=
  dR b (((b.size:Int) - 0:Int).toNat+1) 0
theorem zS{e:ByteArray}(H:Sep w (Fo) rs){r:Bool}(hm:lZ e=some r) :
    Cf 219 [.string e] w fun v w'=>.bool r=v∧Sep w' (Fo) (rs):=by
 unfold lZ at hm
 refine ent Tryz.func219 rfl Tryz.ntmps219 rfl rfl fun a E=>sq<|pn 1 E rfl fun a E=>wp_seq<|sq<|pn 1 E rfl fun a E=>wp_block<|bD (fun f a w=>∃ l,Jn 40 a w [(0,.string e),(3,.int .i64 l)] (Fo) rs (dR e f l=some r)) (((e.size:Int) - 0:Int).toNat+1) ?_ ?_
 ·exact ⟨_,_,E.to rfl,H,Y0,hm⟩
 ·clear E H hm
  rintro f a w ⟨l,p,E,H,b,hm⟩
  cases f with
  | zero=>exact (aZ hm rfl).elim
  | succ f=>
   unfold dR at hm
   refine wp_seq<|sq<|pn 4 E rfl fun a E=>wif E hm rfl (fun hm=>?_) fun hm=>?_
   ·refine wp_skip<|aA<|wp_seq<|wp_block<|sp 2 E rfl fun a E=>bd hm fun s o hm=>sv2 E rfl (Bj E rfl rfl rfl U9 o) fun a E=>pr 1 E rfl fun a E=>nt<|aK (fun a w=>∃ n,Jn 40 a w [(0,.string e),(3,.int .i64 l),(31,.bool n)] (Fo) rs (eM (dR e f) l n=some r)) ?_ ?_
    ·refine wp_region_lit<|pr 3 E rfl fun a E=>cs hm (fun c hm=>?_) fun c hm=>?_
     ·refine pk 3 E (kc 16 rfl c) rfl fun a E=>cs hm (fun g hm=>?_) fun g hm=>?_
      ·refine pk 8 E (kc' (kc 19 rfl g) 16 rfl c) rfl fun a E=>cs hm (fun i hm=>?_) fun i hm=>?_
       ·exact pk 4 E (kc 27 rfl i) rfl fun a E=>nt<|⟨_,_,E.to rfl,H,b,hm⟩
       ·exact pk 4 E (kc 27 rfl i) rfl fun a E=>nt<|⟨_,_,E.to rfl,H,b,hm⟩
      ·refine pk 5 E (kc' (kc 19 rfl g) 16 rfl c) rfl fun a E=>cs hm (fun d hm=>?_) fun d hm=>?_
       ·refine pk 3 E (kc 24 rfl d) rfl fun a E=>cs hm (fun j hm=>?_) fun j hm=>?_
        ·exact pk 4 E (kc' (kc 27 rfl j) 24 rfl d) rfl fun a E=>nt<|⟨_,_,E.to rfl,H,b,hm⟩
        ·exact pk 4 E (kc' (kc 27 rfl j) 24 rfl d) rfl fun a E=>nt<|⟨_,_,E.to rfl,H,b,hm⟩
       ·exact pk 7 E (kc 24 rfl d) rfl fun a E=>nt<|⟨_,_,E.to rfl,H,b,hm⟩
     ·exact pk 15 E (kc 16 rfl c) rfl fun a E=>nt<|⟨_,_,E.to rfl,H,b,hm⟩
    ·clear E H hm
     rintro a w ⟨n,q,E,H,m,hm⟩
     unfold eM at hm
     refine wif E hm rfl (fun hm=>?_) fun hm=>?_
     ·refine sq<|pn 1 E rfl fun a E=>wp_ret<|bF<|aG<|aG<|bF<|aG<|o1 E rfl<|?_
      cases hm
      exact ⟨rfl,H.reads m⟩
     ·exact wp_skip<|bH<|aA<|wp_region_lit<|pn 3 E rfl fun a E=>⟨f,Nat.lt_succ_self f,_,_,E.to rfl,H,m,hm⟩
   ·refine wp_exit<|aL<|aL<|cH<|aA<|sp 4 E rfl fun a E=>cs hm (fun k hm=>?_) fun k hm=>?_
    ·refine pk 5 E (kc 35 rfl k) rfl fun a E=>nt<|wp_ret<|o1 E rfl<|?_
     cases hm
     exact ⟨rfl,H.reads b⟩
    ·refine pk 5 E (kc 35 rfl k) rfl fun a E=>nt<|wp_ret<|o1 E rfl<|?_
     cases hm
     exact ⟨rfl,H.reads b⟩

def jT(rec_1:cR→Int→Int→Option yW)(d:Int)(b:cR)(c:Int):Option yW:=
  rec_1 b c (IntKind.i64.wrap (d+1))
def nV(rec_1:cR→Int→Int→Option yW)(b:Int)(c:Int)(d:ByteArray)(e:cR)(f:Bool):Option yW:=
  if f=true then (some ([],false)) else ((ck (0 ≤ c∧c ≤ b∧b ≤ d.size)).bind fun g=>(ck (e.length+([d.extract c.toNat b.toNat]:List ByteArray).length ≤ LIM)).bind fun i=>jT rec_1 b (e ++ ([d.extract c.toNat b.toNat]:List ByteArray)) (IntKind.i64.wrap (b+1)))
def jU(rec_1:cR→Int→Int→Option yW)(b:Int)(c:Int)(d:ByteArray)(e:cR):Option yW:=
  (ck (0 ≤ c∧c ≤ b∧b ≤ d.size)).bind fun g=>(lZ (d.extract c.toNat b.toNat)).bind fun f=>if (!f)=true then (nV rec_1 b c d e true) else (nV rec_1 b c d e (decide ((e.length:Int) ≥ 6)))
def dF(b:ByteArray):Nat→cR→Int→Int→Option yW
  | 0,_,_,_=>none
  | e+1,d,f,c=>
    if (decide (c ≤ (b.size:Int)))=true then (if (decide (c < (b.size:Int)))=true then ((idx b.data.toList c).bind fun g=>if ((g.toNat:Int) != 47)=true then (jT (dF b e) c d f) else (jU (dF b e) c f b d)) else (jU (dF b e) c f b d)) else (some (d,true))
def nW(b:ByteArray)(c:Bool):Option yW:=
  if c=true then (some ([],false)) else (dF b (((b.size:Int) - 1:Int).toNat+2) [] 1 1)
def iH(b:ByteArray):Option yW:=
  if (sEq b (ByteArray.mk #[47]))=true then (some ([],true)) else (if (sEq b (ByteArray.mk #[]))=true then (nW b true) else ((idx b.data.toList 0).bind fun c=>nW b ((c.toNat:Int) != 47)))
theorem uA{b:ByteArray}(H:Sep w (Fo) rs){r:cR×Bool}(hm:iH b=some r) :
    Cf 139 [.string b] w fun v w'=>∃ K,.tuple #[K,.bool r.2]=v∧Sep w' (Row 9 kS K r.1::Fo) (rs):=by
 unfold iH at hm
 refine ent Tryz.func139 rfl Tryz.ntmps139 rfl rfl fun a E=>sq<|pn 2 E rfl fun a E=>wp_seq<|sq<|pn 2 E rfl fun a E=>wif E hm rfl (fun hm=>?_) fun hm=>?_
 ·refine sq<|pn 2 E rfl fun a E=>wp_ret<|aG<|fW E rfl rfl rfl<|have H:=H.nilRow 9 kS;?_
  cases hm
  exact ⟨_,rfl,H.reads Y0⟩
 ·refine wp_skip<|aA<|wp_seq<|aK (fun a w=>∃ A,Jn 53 a w [(0,.string b),(15,.bool A)] (Fo) rs (nW b A=some r)) ?_ ?_
  ·refine wp_region_lit<|pr 3 E rfl fun a E=>cs hm (fun f hm=>?_) fun f hm=>?_
   ·exact pk 4 E (kc 11 rfl f) rfl fun a E=>nt<|⟨_,_,E.to rfl,H,Y0,hm⟩
   ·exact pk 1 E (kc 11 rfl f) rfl fun a E=>bd hm fun O B hm=>gv 11 E f rfl (Bj E rfl rfl rfl U9 B) fun a E=>pk 2 E (kc 11 rfl f) rfl fun a E=>nt<|⟨_,_,E.to rfl,H,Y0,hm⟩
  ·clear E H hm
   rintro a w ⟨A,P,E,H,z,hm⟩
   unfold nW at hm
   refine wif E hm rfl (fun hm=>?_) fun hm=>?_
   ·refine sq<|pn 2 E rfl fun a E=>wp_ret<|aG<|fW E rfl rfl rfl<|have H:=H.nilRow 9 kS;?_
    cases hm
    exact ⟨_,rfl,H.reads z⟩
   ·refine wp_skip<|aA<|sp 1 E rfl fun a E=>nx<|pn 1 E rfl fun a E=>wp_seq<|sq<|pn 1 E rfl fun a E=>wp_block<|bD (fun l a w=>∃ n o g c,Jn 53 a w [(0,.string b),(4,n),(5,.int .i64 g),(6,.int .i64 c)] (Row 9 kS n o::Fo) rs (dF b l o g c=some r)) (((b.size:Int) - 1:Int).toNat+2) ?_ ?_
    ·exact have H:=H.nilRow 9 kS;X5 ⟨E.to rfl,H,z,hm⟩
    ·clear E H hm
     rintro l a w ⟨n,o,g,c,Q,E,H,m,hm⟩
     cases l with
     | zero=>exact (aZ hm rfl).elim
     | succ l=>
      unfold dF at hm
      refine wp_seq<|sq<|pn 4 E rfl fun a E=>wif E hm rfl (fun hm=>?_) fun hm=>?_
      ·refine wp_skip<|aA<|aK (fun a w=>∃ p q s,Jn 53 a w [(0,.string b),(4,p),(5,.int .i64 s),(6,.int .i64 c)] (Row 9 kS p q::Fo) rs (jT (dF b l) c q s=some r)) ?_ ?_
       ·refine wp_block<|aK (fun a w=>Jn 53 a w [(0,.string b),(4,n),(5,.int .i64 g),(6,.int .i64 c)] (Row 9 kS n o::Fo) rs (jU (dF b l) c g b o=some r)) ?_ ?_
        ·refine sp 5 E rfl fun a E=>cs hm (fun j hm=>?_) fun j hm=>?_
         ·refine pk 2 E (kc 26 rfl j) rfl fun a E=>bd hm fun R C hm=>gv 26 E j rfl (Bj E rfl rfl rfl U9 C) fun a E=>pk 2 E (kc 26 rfl j) rfl fun a E=>nt<|wif E hm rfl (fun hm=>?_) fun hm=>?_
          ·exact wp_exit<|aL<|cH<|aA<|X4 ⟨E.to rfl,H,m,hm⟩
          ·exact wp_skip<|aA<|⟨_,E.to rfl,H,m,hm⟩
         ·exact pk 5 E (kc 26 rfl j) rfl fun a E=>nt<|wp_cond_false (E.eval rfl)<|wp_skip<|aA<|⟨_,E.to rfl,H,m,hm⟩
        ·clear E H hm
         rintro a w ⟨L,E,H,t,hm⟩
         unfold jU at hm
         refine wp_seq<|aK (fun a w=>∃ u,Jn 53 a w [(0,.string b),(4,n),(5,.int .i64 g),(6,.int .i64 c),(42,.bool u)] (Row 9 kS n o::Fo) rs (nV (dF b l) c g b o u=some r)) ?_ ?_
         ·refine wp_region_lit<|pr 3 E rfl fun a E=>bk hm fun D hm=>sv2 E rfl (Xy E rfl rfl rfl rfl U9 D) fun a E=>bd hm fun S F hm=>xk2 E rfl (cf_ 219) (zS H F) fun w H a E=>pr 2 E rfl fun a E=>cs hm (fun k hm=>?_) fun k hm=>?_
          ·exact pk 4 E (kc 38 rfl k) rfl fun a E=>nt<|⟨_,_,E.to rfl,H,t,hm⟩
          ·exact pk 1 E (kc 38 rfl k) rfl fun a E=>gv 38 E k rfl (iJ (i:=0) E H rfl rfl rfl U33) fun a E=>pk 2 E (kc 38 rfl k) rfl fun a E=>nt<|⟨_,_,E.to rfl,H,t,hm⟩
         ·clear E H hm
          rintro a w ⟨u,M,E,H,y,hm⟩
          unfold nV at hm
          refine wif E hm rfl (fun hm=>?_) fun hm=>?_
          ·refine sq<|pn 2 E rfl fun a E=>wp_ret<|aG<|bF<|aG<|aG<|bF<|aG<|fW E rfl rfl rfl<|have H:=H.nilRow 9 kS;have H:=H.drop 1;?_
           cases hm
           exact ⟨_,rfl,H.reads y⟩
          ·exact wp_skip<|aA<|sp 4 E rfl fun a E=>bk hm fun G hm=>sv2 E rfl (Xy E rfl rfl rfl rfl U9 G) fun a E=>iV (e:=9) (d:=kS) (cs:=[.string (b.extract g.toNat c.toNat)]) (xs:=[b.extract g.toNat c.toNat]) E H (wn rfl) rfl rfl rfl (E.evs rfl) (by kernel_rfl) rfl (fun ok hr=>(Rows.single (d:=kS) (cs:=[.string (b.extract g.toNat c.toNat)]) (x:=b.extract g.toNat c.toNat) rfl)) fun T w a H E=>bk hm fun I hm=>cO (i:=0) E H (wn rfl) rfl rfl rfl rfl rfl rfl (fA m0) U33 Z5 rfl I rfl fun U w a H E=>pn 1 E rfl fun a E=>wp_region_lit<|pr 3 E rfl fun a E=>wpList_nil<|bH<|aA<|X4 ⟨E.to rfl,H,(Y1 y),hm⟩
       ·clear E H hm
        rintro a w ⟨p,q,s,N,E,H,J,hm⟩
        unfold jT at hm
        exact wp_region_lit<|pn 3 E rfl fun a E=>⟨l,Nat.lt_succ_self l,X5 ⟨E.to rfl,H,J,hm⟩⟩
      ·refine wp_exit<|aL<|aL<|cH<|aA<|sq<|pn 3 E rfl fun a E=>wp_ret<|fW E rfl rfl rfl<|?_
       cases hm
       exact ⟨_,rfl,H.reads m⟩

def lH(d:List ByteArray):Nat→ByteArray→Int→Option ByteArray
  | 0,_,_=>none
  | f+1,b,e=>
    if (decide (e < (d.length:Int)))=true then ((ck (b.size+(ByteArray.mk #[47]).size ≤ 4611686018427387904)).bind fun i=>(idx d e).bind fun c=>(ck ((b ++ (ByteArray.mk #[47])).size+c.size ≤ 4611686018427387904)).bind fun g=>lH d f ((b ++ (ByteArray.mk #[47])) ++ c) (IntKind.i64.wrap (e+1))) else (some (b))
def oW(b:List ByteArray):Option ByteArray:=
  if ((b.length:Int) == 0)=true then (some ((ByteArray.mk #[47]))) else (lH b (((b.length:Int) - 0:Int).toNat+1) (ByteArray.mk #[]) 0)
theorem I5{f:Value}{e:List ByteArray}(H:Sep w (Fo) rs)(d:rSl kS f e ∈ rs){r:ByteArray}(hm:oW e=some r) :
    Cf 229 [f] w fun v w'=>.string r=v∧Sep w' (Fo) (rs):=by
 unfold oW at hm
 refine ent Tryz.func229 rfl Tryz.ntmps229 rfl rfl fun a E=>sq<|pn 1 E rfl fun a E=>wp_seq<|sp 1 E rfl fun a E=>lS E H d U33 rfl fun a E=>pr 1 E rfl fun a E=>nt<|wif E hm rfl (fun hm=>?_) fun hm=>?_
 ·refine sq<|pn 1 E rfl fun a E=>wp_ret<|aG<|o1 E rfl<|?_
  cases hm
  exact ⟨rfl,H.reads Y0⟩
 ·refine wp_skip<|aA<|sq<|pn 1 E rfl fun a E=>wp_seq<|sq<|pn 1 E rfl fun a E=>wp_block<|bD (fun c a w=>∃ g i,Jn 22 a w [(0,f),(3,.string g),(4,.int .i64 i)] (Fo) rs (lH e c g i=some r)) (((e.length:Int) - 0:Int).toNat+1) ?_ ?_
  ·exact X3 ⟨E.to rfl,H,Y0,hm⟩
  ·clear E H hm
   rintro c a w ⟨g,i,m,E,H,b,hm⟩
   cases c with
   | zero=>exact (aZ hm rfl).elim
   | succ c=>
    unfold lH at hm
    refine wp_seq<|sp 2 E rfl fun a E=>lS E H (b _ d) U33 rfl fun a E=>pn 1 E rfl fun a E=>wif E hm rfl (fun hm=>?_) fun hm=>?_
    ·exact wp_skip<|aA<|wp_seq<|wp_block<|wp_region_lit<|pr 1 E rfl fun a E=>bk hm fun l hm=>sv2 E rfl (Dg E rfl rfl rfl l) fun a E=>pr 2 E rfl fun a E=>bd hm fun n j hm=>cN E H (wn rfl) rfl rfl rfl rfl rfl (b _ d) U33 sz9 j fun q12 a H E=>sv2 E rfl (pJ E H rfl rfl m0 U9 rfl) fun a E=>bk hm fun k hm=>sv2 E rfl (Dg E rfl rfl rfl k) fun a E=>pr 1 E rfl fun a E=>wpList_nil<|bH<|aA<|wp_region_lit<|pn 3 E rfl fun a E=>⟨c,Nat.lt_succ_self c,X3 ⟨E.to rfl,H,(Y1 b),hm⟩⟩
    ·refine wp_exit<|aL<|aL<|cH<|aA<|sq<|pn 2 E rfl fun a E=>wp_ret<|o1 E rfl<|?_
     cases hm
     exact ⟨rfl,H.reads b⟩

def lI(b:cR×Bool)(c:ByteArray)(e:Bool):Option yV:=
  if e=true then (some ((ByteArray.mk #[]),false)) else ((ck (([]:List ByteArray).length+b.1.length ≤ LIM)).bind fun f=>(ck ((([]:List ByteArray) ++ b.1).length+([c]:List ByteArray).length ≤ LIM)).bind fun g=>(oW ((([]:List ByteArray) ++ b.1) ++ ([c]:List ByteArray))).bind fun d=>some (d,true))
def rY(e:ByteArray)(c:ByteArray):Option yV:=
  (iH e).bind fun b=>if (!b.2)=true then (lI b c true) else ((lZ c).bind fun d=>if (!d)=true then (lI b c true) else (lI b c (decide ((b.1.length:Int) ≥ 6))))
theorem Cs{o f:ByteArray}(H:Sep w (Fo) rs){r:ByteArray×Bool}(hm:rY o f=some r) :
    Cf 231 [.string o,.string f] w fun v w'=>.tuple #[.string r.1,.bool r.2]=v∧Sep w' (Fo) (rs):=by
 unfold rY at hm
 refine ent Tryz.func231 rfl Tryz.ntmps231 rfl rfl fun a E=>sp 2 E rfl fun a E=>xp 1 E rfl fun a E=>bd hm fun p q hm=>xc2 E rfl (cf_ 139) (uA H q)<|?_
 rintro _ w ⟨s,rfl,H⟩ a E
 refine pn 5 E rfl fun a E=>wp_seq<|aK (fun a w=>∃ j,Jn 32 a w [(1,.string f),(6,s),(24,.bool j)] (Row 9 kS s p.1::Fo) rs (lI p f j=some r)) ?_ ?_
 ·refine wp_region_lit<|pr 3 E rfl fun a E=>cs hm (fun b hm=>?_) fun b hm=>?_
  ·exact pk 9 E (kc 15 rfl b) rfl fun a E=>nt<|⟨_,_,E.to rfl,H,Y0,hm⟩
  ·refine pk 1 E (kc 15 rfl b) rfl fun a E=>bd hm fun t k hm=>gc 15 E b rfl (cf_ 219) (zS H k)<|?_
   rintro _ w ⟨rfl,H⟩ a E
   refine pk 3 E (kc 15 rfl b) rfl fun a E=>cs hm (fun c hm=>?_) fun c hm=>?_
   ·exact pk 4 E (kc 20 rfl c) rfl fun a E=>nt<|⟨_,_,E.to rfl,H,Y0,hm⟩
   ·exact pk 1 E (kc 20 rfl c) rfl fun a E=>gv 20 E c rfl (iJ (i:=0) E H rfl rfl rfl U33) fun a E=>pk 2 E (kc 20 rfl c) rfl fun a E=>nt<|⟨_,_,E.to rfl,H,Y0,hm⟩
 ·clear E H hm
  rintro a w ⟨j,u,E,H,g,hm⟩
  unfold lI at hm
  refine wif E hm rfl (fun hm=>?_) fun hm=>?_
  ·refine sq<|pn 2 E rfl fun a E=>wp_ret<|aG<|fW E rfl rfl rfl<|have H:=H.drop 0;?_
   cases hm
   exact ⟨rfl,H.reads g⟩
  ·refine wp_skip<|aA<|sq<|gU (e:=9) (d:=kS) (cs:=[]) (xs:=[]) E H (wn rfl) rfl rfl rfl (E.evs rfl) (by kernel_rfl) rfl rfl (fun ok hr=>Rows.nil _ _ _) fun C w a H E=>pr 1 E rfl fun a E=>bk hm fun l hm=>cO (i:=0) E H (wn rfl) rfl rfl rfl rfl rfl rfl (Ix (i:=1) rfl) U33 Z5 rfl l rfl fun y w a H E=>pr 1 E rfl fun a E=>iV (e:=9) (d:=kS) (cs:=[.string f]) (xs:=[f]) E H (wn rfl) rfl rfl rfl (E.evs rfl) (by kernel_rfl) rfl (fun ok hr=>(Rows.single (d:=kS) (cs:=[.string f]) (x:=f) rfl)) fun z w a H E=>bk hm fun m hm=>cO (i:=0) E H (wn rfl) rfl rfl rfl rfl rfl rfl (fA m0) U33 Z5 rfl m rfl fun A w a H E=>have H:=H.thaw (i:=0) rfl;bd hm fun B n hm=>xk2 E rfl (cf_ 229) (I5 H m0 n) fun w H a E=>pn 2 E rfl fun a E=>wp_ret<|fW E rfl rfl rfl<|have H:=H.drop 0;?_
   cases hm
   exact ⟨rfl,H.reads (Y2 g)⟩

def mS(b:cR×Bool)(d:Bool):Option yV:=
  if d=true then (some ((ByteArray.mk #[]),false)) else ((ck (0 ≤ (IntKind.i64.wrap ((b.1.length:Int) - 1))∧(IntKind.i64.wrap ((b.1.length:Int) - 1)) ≤ b.1.length)).bind fun e=>(oW (b.1.take (IntKind.i64.wrap ((b.1.length:Int) - 1)).toNat)).bind fun c=>some (c,true))
def hF(c:ByteArray):Option yV:=
  (iH c).bind fun b=>if (!b.2)=true then (mS b true) else (mS b ((b.1.length:Int) == 0))
theorem sZ{f:ByteArray}(H:Sep w (Fo) rs){r:ByteArray×Bool}(hm:hF f=some r) :
    Cf 145 [.string f] w fun v w'=>.tuple #[.string r.1,.bool r.2]=v∧Sep w' (Fo) (rs):=by
 unfold hF at hm
 refine ent Tryz.func145 rfl Tryz.ntmps145 rfl rfl fun a E=>sp 2 E rfl fun a E=>xp 1 E rfl fun a E=>bd hm fun g j hm=>xc2 E rfl (cf_ 139) (uA H j)<|?_
 rintro _ w ⟨k,rfl,H⟩ a E
 refine pn 5 E rfl fun a E=>wp_seq<|aK (fun a w=>∃ d,Jn 24 a w [(4,k),(17,.bool d)] (Row 9 kS k g.1::Fo) rs (mS g d=some r)) ?_ ?_
 ·refine wp_region_lit<|pr 3 E rfl fun a E=>cs hm (fun b hm=>?_) fun b hm=>?_
  ·exact pk 4 E (kc 13 rfl b) rfl fun a E=>nt<|⟨_,_,E.to rfl,H,Y0,hm⟩
  ·exact pk 1 E (kc 13 rfl b) rfl fun a E=>gv 13 E b rfl (iJ (i:=0) E H rfl rfl rfl U33) fun a E=>pk 2 E (kc 13 rfl b) rfl fun a E=>nt<|⟨_,_,E.to rfl,H,Y0,hm⟩
 ·clear E H hm
  rintro a w ⟨d,m,E,H,c,hm⟩
  unfold mS at hm
  refine wif E hm rfl (fun hm=>?_) fun hm=>?_
  ·refine sq<|pn 2 E rfl fun a E=>wp_ret<|aG<|fW E rfl rfl rfl<|have H:=H.drop 0;?_
   cases hm
   exact ⟨rfl,H.reads c⟩
  ·refine wp_skip<|aA<|sp 2 E rfl fun a E=>sv2 E rfl (iJ (i:=0) E H rfl rfl rfl U33) fun a E=>pr 1 E rfl fun a E=>have H:=H.thaw (i:=0) rfl;bk hm fun l hm=>Ym E H (wn rfl) rfl rfl rfl rfl rfl m0 U33 sz9 l fun n a H E=>bd hm fun o e hm=>xk2 E rfl (cf_ 229) (I5 H m0 e) fun w H a E=>pn 2 E rfl fun a E=>wp_ret<|fW E rfl rfl rfl<|?_
   cases hm
   exact ⟨rfl,H.reads (Y2 c)⟩

def lJ(b:List aD)(d:ByteArray):Nat→Int→Option (aD×Bool)
  | 0,_=>none
  | f+1,c=>
    if (decide (c < (b.length:Int)))=true then ((idx b c).bind fun g=>if (sEq g.Path d)=true then ((idx b c).bind fun e=>some (e,true)) else (lJ b d f (IntKind.i64.wrap (c+1)))) else (some ((⟨(ByteArray.mk #[]),(ByteArray.mk #[]),0,0,0⟩:aD),false))
def oX(b:List aD)(c:ByteArray):Option (aD×Bool):=
  lJ b c (((b.length:Int) - 0:Int).toNat+1) 0
theorem I6{g:Value}{e:List aD}{f:ByteArray}(H:Sep w (Fo) rs)(d:rSl aB g e ∈ rs){r:aD×Bool}(hm:oX e f=some r) :
    Cf 93 [g,.string f] w fun v w'=>.tuple #[.agg (dS r.1).toArray,.bool r.2]=v∧Sep w' (Fo) (rs):=by
 unfold oX at hm
 refine ent Tryz.func93 rfl Tryz.ntmps93 rfl rfl fun a E=>sq<|al2 E H rfl Dn fun m w a H E=>pn 1 E rfl fun a E=>wp_seq<|sq<|pn 1 E rfl fun a E=>wp_block<|bD (fun c a w=>∃ j,Jn 25 a w [(0,g),(1,.string f),(4,pt m 0),(6,.int .i64 j)] (Blk m 107 Hk::Fo) rs (lJ e f c j=some r)) (((e.length:Int) - 0:Int).toNat+1) ?_ ?_
 ·exact ⟨_,_,E.to rfl,H,Y0,hm⟩
 ·clear E H hm
  rintro c a w ⟨j,p,E,H,b,hm⟩
  cases c with
  | zero=>exact (aZ hm rfl).elim
  | succ c=>
   unfold lJ at hm
   refine wp_seq<|sp 2 E rfl fun a E=>lS E H (b _ d) U22 rfl fun a E=>pn 1 E rfl fun a E=>wif E hm rfl (fun hm=>?_) fun hm=>?_
   ·refine wp_skip<|aA<|wp_seq<|wp_block<|sp 2 E rfl fun a E=>bd hm fun o k hm=>cN E H (wn rfl) rfl rfl rfl rfl rfl (b _ d) U22 cJ k fun q11 a H E=>have H:=H.derive1 m0 (rAt kS (q11.add 0) o.Path) (fun ok h=>E8 h);pr 1 E rfl fun a E=>sv2 E rfl (pJ E H rfl rfl m0 U9 rfl) fun a E=>pn 2 E rfl fun a E=>wif E hm rfl (fun hm=>?_) fun hm=>?_
    ·refine sp 2 E rfl fun a E=>bd hm fun n l hm=>cN E H (wn rfl) rfl rfl rfl rfl rfl (t2 (b _ d)) U22 cJ l fun q14 a H E=>ldf bX E H rfl rfl rfl rfl rfl m0 pF rfl cJ fun a E=>ss 0 E H rfl cJ rfl fun w H=>pn 1 E rfl fun a E=>wp_ret<|bF<|aG<|aG<|bF<|aG<|kN E rfl (eJ (i:=0) (us:=(dS n)) H rfl rfl rfl pF rfl cJ) (rvT rfl)<|have H:=H.drop 0;?_
     cases hm
     exact ⟨rfl,H.reads (Y3 b)⟩
    ·exact wp_skip<|bH<|aA<|wp_region_lit<|pn 3 E rfl fun a E=>⟨c,Nat.lt_succ_self c,_,_,E.to rfl,H,(Y2 b),hm⟩
   ·refine wp_exit<|aL<|aL<|cH<|aA<|sq<|sv2 E rfl (bP E rfl (E.evs rfl) (v:=.agg Hk.toArray) (by kernel_rfl)) fun a E=>ss 0 E H rfl cJ rfl fun w H=>pr 1 E rfl fun a E=>nt<|wp_ret<|kN E rfl (eJ (i:=0) (us:=Hk) H rfl rfl rfl pF rfl cJ) (rvT rfl)<|have H:=H.drop 0;?_
    cases hm
    exact ⟨rfl,H.reads b⟩

def oY(b:cR×Bool)(c:Bool):Option ByteArray:=
  if c=true then (some ((ByteArray.mk #[]))) else ((idx b.1 (IntKind.i64.wrap ((b.1.length:Int) - 1))).bind fun d=>some (d))
def mA(c:ByteArray):Option ByteArray:=
  (iH c).bind fun b=>if (!b.2)=true then (oY b true) else (oY b ((b.1.length:Int) == 0))
theorem zT{j:ByteArray}(H:Sep w (Fo) rs){r:ByteArray}(hm:mA j=some r) :
    Cf 150 [.string j] w fun v w'=>.string r=v∧Sep w' (Fo) (rs):=by
 unfold mA at hm
 refine ent Tryz.func150 rfl Tryz.ntmps150 rfl rfl fun a E=>sp 1 E rfl fun a E=>xp 1 E rfl fun a E=>bd hm fun l m hm=>xc2 E rfl (cf_ 139) (uA H m)<|?_
 rintro _ w ⟨n,rfl,H⟩ a E
 refine pn 5 E rfl fun a E=>wp_seq<|aK (fun a w=>∃ g,Jn 23 a w [(3,n),(16,.bool g)] (Row 9 kS n l.1::Fo) rs (oY l g=some r)) ?_ ?_
 ·refine wp_region_lit<|pr 3 E rfl fun a E=>cs hm (fun b hm=>?_) fun b hm=>?_
  ·exact pk 4 E (kc 12 rfl b) rfl fun a E=>nt<|⟨_,_,E.to rfl,H,Y0,hm⟩
  ·exact pk 1 E (kc 12 rfl b) rfl fun a E=>gv 12 E b rfl (iJ (i:=0) E H rfl rfl rfl U33) fun a E=>pk 2 E (kc 12 rfl b) rfl fun a E=>nt<|⟨_,_,E.to rfl,H,Y0,hm⟩
 ·clear E H hm
  rintro a w ⟨g,o,E,H,f,hm⟩
  unfold oY at hm
  refine wif E hm rfl (fun hm=>?_) fun hm=>?_
  ·refine sq<|pn 1 E rfl fun a E=>wp_ret<|aG<|o1 E rfl<|have H:=H.drop 0;?_
   cases hm
   exact ⟨rfl,H.reads f⟩
  ·refine wp_skip<|aA<|sp 2 E rfl fun a E=>sv2 E rfl (iJ (i:=0) E H rfl rfl rfl U33) fun a E=>pr 1 E rfl fun a E=>bd hm fun s c hm=>?_
   obtain ⟨p,q,e⟩:=H.rowformNE (i:=0) rfl c
   refine sv2 E rfl (cX (d:=kS) E e rfl rfl rfl rfl U33 sz9 c) fun a E=>sv2 E rfl (mW (d:=kS) (i:=0) (k:=0) E H Qm e rfl rfl rfl c rfl U9 rfl) fun a E=>pn 1 E rfl fun a E=>wp_ret<|o1 E rfl<|have H:=H.drop 0;?_
   cases hm
   exact ⟨rfl,H.reads f⟩

def kU(c:ByteArray)(b:Int)(d:Bool):Option yV:=
  if d=true then (some ((ByteArray.mk #[]),false)) else ((ck (c.size+(Z2 ([IntKind.u8.wrap (IntKind.i64.wrap (48+(IntKind.i64.wrap (b.tdiv 1000)))),IntKind.u8.wrap (IntKind.i64.wrap (48+((IntKind.i64.wrap (b.tdiv 100)).tmod 10))),IntKind.u8.wrap (IntKind.i64.wrap (48+((IntKind.i64.wrap (b.tdiv 10)).tmod 10))),IntKind.u8.wrap (IntKind.i64.wrap (48+(b.tmod 10)))]:List Int)).size ≤ 4611686018427387904)).bind fun u8=>(lZ (c ++ (Z2 ([IntKind.u8.wrap (IntKind.i64.wrap (48+(IntKind.i64.wrap (b.tdiv 1000)))),IntKind.u8.wrap (IntKind.i64.wrap (48+((IntKind.i64.wrap (b.tdiv 100)).tmod 10))),IntKind.u8.wrap (IntKind.i64.wrap (48+((IntKind.i64.wrap (b.tdiv 10)).tmod 10))),IntKind.u8.wrap (IntKind.i64.wrap (48+(b.tmod 10)))]:List Int)))).bind fun e=>if (!e)=true then (some ((ByteArray.mk #[]),false)) else (some (c ++ (Z2 ([IntKind.u8.wrap (IntKind.i64.wrap (48+(IntKind.i64.wrap (b.tdiv 1000)))),IntKind.u8.wrap (IntKind.i64.wrap (48+((IntKind.i64.wrap (b.tdiv 100)).tmod 10))),IntKind.u8.wrap (IntKind.i64.wrap (48+((IntKind.i64.wrap (b.tdiv 10)).tmod 10))),IntKind.u8.wrap (IntKind.i64.wrap (48+(b.tmod 10)))]:List Int)),true)))
def nX(c:ByteArray)(b:Int):Option yV:=
  if (decide (b < 0))=true then (kU c b true) else (kU c b (decide (b > 9999)))
theorem S7{g:ByteArray}{b:Int}(H:Sep w (Fo) rs){r:ByteArray×Bool}(hm:nX g b=some r) :
    Cf 230 [.string g,.int .i64 b] w fun v w'=>.tuple #[.string r.1,.bool r.2]=v∧Sep w' (Fo) (rs):=by
 unfold nX at hm
 refine ent Tryz.func230 rfl Tryz.ntmps230 rfl rfl fun a E=>sq<|pn 2 E rfl fun a E=>wp_seq<|aK (fun a w=>∃ j,Jn 39 a w [(0,.string g),(1,.int .i64 b),(12,.bool j)] (Fo) rs (kU g b j=some r)) ?_ ?_
 ·refine wp_region_lit<|pr 3 E rfl fun a E=>cs hm (fun c hm=>?_) fun c hm=>?_
  ·exact pk 3 E (kc 9 rfl c) rfl fun a E=>nt<|⟨_,_,E.to rfl,H,Y0,hm⟩
  ·exact pk 3 E (kc 9 rfl c) rfl fun a E=>nt<|⟨_,_,E.to rfl,H,Y0,hm⟩
 ·clear E H hm
  rintro a w ⟨j,m,E,H,f,hm⟩
  unfold kU at hm
  refine wif E hm rfl (fun hm=>?_) fun hm=>?_
  ·refine sq<|pn 2 E rfl fun a E=>wp_ret<|aG<|fW E rfl rfl rfl<|?_
   cases hm
   exact ⟨rfl,H.reads f⟩
  ·refine wp_skip<|aA<|sp 2 E rfl fun a E=>sv2 E rfl (Rg E rfl rfl rfl (by decide)) fun a E=>pr 3 E rfl fun a E=>sv2 E rfl (Rg E rfl rfl rfl (by decide)) fun a E=>sv2 E rfl (Rh E rfl rfl rfl (by decide)) fun a E=>pr 3 E rfl fun a E=>sv2 E rfl (Rg E rfl rfl rfl (by decide)) fun a E=>sv2 E rfl (Rh E rfl rfl rfl (by decide)) fun a E=>pr 3 E rfl fun a E=>sv2 E rfl (Rh E rfl rfl rfl (by decide)) fun a E=>pr 2 E rfl fun a E=>gU (e:=5) (d:=(kI .u8)) (cs:=[.int .u8 (IntKind.u8.wrap (IntKind.i64.wrap (48+(IntKind.i64.wrap (b.tdiv 1000))))),.int .u8 (IntKind.u8.wrap (IntKind.i64.wrap (48+((IntKind.i64.wrap (b.tdiv 100)).tmod 10)))),.int .u8 (IntKind.u8.wrap (IntKind.i64.wrap (48+((IntKind.i64.wrap (b.tdiv 10)).tmod 10)))),.int .u8 (IntKind.u8.wrap (IntKind.i64.wrap (48+(b.tmod 10))))]) (xs:=[IntKind.u8.wrap (IntKind.i64.wrap (48+(IntKind.i64.wrap (b.tdiv 1000)))),IntKind.u8.wrap (IntKind.i64.wrap (48+((IntKind.i64.wrap (b.tdiv 100)).tmod 10))),IntKind.u8.wrap (IntKind.i64.wrap (48+((IntKind.i64.wrap (b.tdiv 10)).tmod 10))),IntKind.u8.wrap (IntKind.i64.wrap (48+(b.tmod 10)))]) E H (wn rfl) rfl rfl rfl (E.evs rfl) (by kernel_rfl) rfl rfl (fun ok hr=>(Rows.append (Rows.append (Rows.append (Rows.single (d:=(kI .u8)) (cs:=[.int .u8 (IntKind.u8.wrap (IntKind.i64.wrap (48+(IntKind.i64.wrap (b.tdiv 1000)))))]) (x:=IntKind.u8.wrap (IntKind.i64.wrap (48+(IntKind.i64.wrap (b.tdiv 1000))))) rfl) (Rows.single (d:=(kI .u8)) (cs:=[.int .u8 (IntKind.u8.wrap (IntKind.i64.wrap (48+((IntKind.i64.wrap (b.tdiv 100)).tmod 10))))]) (x:=IntKind.u8.wrap (IntKind.i64.wrap (48+((IntKind.i64.wrap (b.tdiv 100)).tmod 10)))) rfl)) (Rows.single (d:=(kI .u8)) (cs:=[.int .u8 (IntKind.u8.wrap (IntKind.i64.wrap (48+((IntKind.i64.wrap (b.tdiv 10)).tmod 10))))]) (x:=IntKind.u8.wrap (IntKind.i64.wrap (48+((IntKind.i64.wrap (b.tdiv 10)).tmod 10)))) rfl)) (Rows.single (d:=(kI .u8)) (cs:=[.int .u8 (IntKind.u8.wrap (IntKind.i64.wrap (48+(b.tmod 10))))]) (x:=IntKind.u8.wrap (IntKind.i64.wrap (48+(b.tmod 10)))) rfl))) fun n w a H E=>have H:=H.thaw (i:=0) rfl;sv2 E rfl (FQ E H rfl rfl m0 HP U5 U9) fun a E=>bk hm fun l hm=>sv2 E rfl (Dg E rfl rfl rfl l) fun a E=>pn 1 E rfl fun a E=>wp_seq<|sp 1 E rfl fun a E=>bd hm fun o k hm=>xk2 E rfl (cf_ 219) (zS H k) fun w H a E=>pr 1 E rfl fun a E=>nt<|wif E hm rfl (fun hm=>?_) fun hm=>?_
   ·refine sq<|pn 2 E rfl fun a E=>wp_ret<|aG<|fW E rfl rfl rfl<|?_
    cases hm
    exact ⟨rfl,H.reads (Y1 f)⟩
   ·refine wp_skip<|aA<|sq<|pn 3 E rfl fun a E=>wp_ret<|fW E rfl rfl rfl<|?_
    cases hm
    exact ⟨rfl,H.reads (Y1 f)⟩

def kV(rec_1:cD→Int→Option cD)(c:Int)(b:cD):Option cD:=
  rec_1 b (IntKind.i64.wrap (c+1))
def kW(rec_1:cD→Int→Option cD)(c:Int)(f:List aD)(d:cD)(e:Bool):Option cD:=
  if e=true then ((idx f c).bind fun b=>(ck (d.length+([b]:List aD).length ≤ LIM)).bind fun g=>kV rec_1 c (d ++ ([b]:List aD))) else (kV rec_1 c d)
def eD(b:List aD)(e:ByteArray):Nat→cD→Int→Option cD
  | 0,_,_=>none
  | g+1,f,c=>
    if (decide (c < (b.length:Int)))=true then ((idx b c).bind fun i=>(hF i.Path).bind fun d=>if d.2=true then (kW (eD b e g) c b f (sEq d.1 e)) else (kW (eD b e g) c b f false)) else (some (f))
def nY(b:List aD)(c:ByteArray):Option cD:=
  eD b c (((b.length:Int) - 0:Int).toNat+1) [] 0
theorem S8{n:Value}{j:List aD}{c:ByteArray}(H:Sep w (Fo) rs)(o:rSl aB n j ∈ rs){r:cD}(hm:nY j c=some r) :
    Cf 149 [n,.string c] w fun v w'=>∃ D,D=v∧Sep w' (Row 107 aB D r::Fo) (rs):=by
 unfold nY at hm
 refine ent Tryz.func149 rfl Tryz.ntmps149 rfl rfl fun a E=>sp 1 E rfl fun a E=>nx<|pn 1 E rfl fun a E=>wp_seq<|sp 1 E rfl fun a E=>nt<|wp_block<|bD (fun f a w=>∃ p q k,Jn 38 a w [(0,n),(1,.string c),(5,p),(6,.int .i64 k)] (Row 107 aB p q::Fo) rs (eD j c f q k=some r)) (((j.length:Int) - 0:Int).toNat+1) ?_ ?_
 ·exact have H:=H.nilRow 107 aB;X4 ⟨E.to rfl,H,Y0,hm⟩
 ·clear E H hm
  rintro f a w ⟨p,q,k,J,E,H,g,hm⟩
  cases f with
  | zero=>exact (aZ hm rfl).elim
  | succ f=>
   unfold eD at hm
   refine wp_seq<|sp 2 E rfl fun a E=>lS E H (g _ o) U22 rfl fun a E=>pn 1 E rfl fun a E=>wif E hm rfl (fun hm=>?_) fun hm=>?_
   ·refine wp_skip<|aA<|aK (fun a w=>∃ s t,Jn 38 a w [(0,n),(1,.string c),(5,s),(6,.int .i64 k)] (Row 107 aB s t::Fo) rs (kV (eD j c f) k t=some r)) ?_ ?_
    ·refine wp_block<|sp 2 E rfl fun a E=>bd hm fun F y hm=>cN E H (wn rfl) rfl rfl rfl rfl rfl (g _ o) U22 cJ y fun q16 a H E=>have H:=H.derive1 m0 (rAt kS (q16.add 0) F.Path) (fun ok h=>E8 h);pr 1 E rfl fun a E=>sv2 E rfl (pJ E H rfl rfl m0 U9 rfl) fun a E=>bd hm fun K z hm=>xk2 E rfl (cf_ 145) (sZ H z) fun w H a E=>pn 5 E rfl fun a E=>aK (fun a w=>∃ u,Jn 38 a w [(0,n),(1,.string c),(5,p),(6,.int .i64 k),(29,.bool u)] (Row 107 aB p q::Fo) rs (kW (eD j c f) k j q u=some r)) ?_ ?_
     ·refine wp_region_lit<|pr 2 E rfl fun a E=>cs hm (fun l hm=>?_) fun l hm=>?_
      ·exact pk 4 E (kc 25 rfl l) rfl fun a E=>nt<|⟨_,_,E.to rfl,H,(Y2 g),hm⟩
      ·exact pk 4 E (kc 25 rfl l) rfl fun a E=>nt<|⟨_,_,E.to rfl,H,(Y2 g),hm⟩
     ·clear E H hm
      rintro a w ⟨u,G,E,H,m,hm⟩
      unfold kW at hm
      refine wif E hm rfl (fun hm=>?_) fun hm=>?_
      ·exact wp_region_lit<|pr 3 E rfl fun a E=>bd hm fun b A hm=>cN E H (wn rfl) rfl rfl rfl rfl rfl (m _ o) U22 cJ A fun q24 a H E=>ldf bX E H rfl rfl rfl rfl rfl m0 pF rfl cJ fun a E=>iV (e:=107) (d:=aB) (cs:=[.string b.Path,.string b.Data,.int .i64 b.Version,.int .i64 b.Turn,.int .i64 b.Owner]) (xs:=[b]) E H (wn rfl) rfl rfl rfl (E.evs rfl) (by kernel_rfl) rfl (fun ok hr=>(Rows.single (d:=aB) (cs:=[.string b.Path,.string b.Data,.int .i64 b.Version,.int .i64 b.Turn,.int .i64 b.Owner]) (x:=b) mE)) fun L w a H E=>bk hm fun B hm=>cO (i:=0) E H (wn rfl) rfl rfl rfl rfl rfl rfl (fA m0) U22 I1 rfl B rfl fun M w a H E=>pr 1 E rfl fun a E=>wpList_nil<|bH<|aA<|X3 ⟨E.to rfl,H,(Y2 m),hm⟩
      ·exact wp_skip<|bH<|aA<|X3 ⟨E.to rfl,H,m,hm⟩
    ·clear E H hm
     rintro a w ⟨s,t,I,E,H,C,hm⟩
     unfold kV at hm
     exact wp_region_lit<|pn 3 E rfl fun a E=>⟨f,Nat.lt_succ_self f,X4 ⟨E.to rfl,H,C,hm⟩⟩
   ·refine wp_exit<|aL<|aL<|cH<|aA<|sq<|pn 2 E rfl fun a E=>wp_ret<|o1 E rfl<|?_
    cases hm
    exact ⟨_,rfl,H.reads g⟩

def qT(x1:dH)(d:Int):Option yV:=
  if (!x1.Turns)=true then (some (x1.Path,true)) else ((hF x1.Path).bind fun e=>(mA x1.Path).bind fun f=>(nX f d).bind fun c=>if (!c.2)=true then (some ((ByteArray.mk #[]),false)) else ((rY e.1 c.1).bind fun b=>some (b.1,b.2)))
theorem Be{x1:dH}{c:Int}(H:Sep w (Fo) rs){r:ByteArray×Bool}(hm:qT x1 c=some r) :
    Cf 147 [.agg (pM x1).toArray,.int .i64 c] w fun v w'=>.tuple #[.string r.1,.bool r.2]=v∧Sep w' (Fo) (rs):=by
 unfold qT at hm
 refine ent Tryz.func147 rfl Tryz.ntmps147 rfl rfl fun a E=>sq<|bx E H rfl fun i w a H E=>pn 2 E rfl fun a E=>wp_seq<|sp 1 E rfl fun a E=>lb2 E H 0 U4 rfl fun a E=>pn 1 E rfl fun a E=>wif E hm rfl (fun hm=>?_) fun hm=>?_
 ·refine sp 1 E rfl fun a E=>lb2 E H 0 U9 rfl fun a E=>pn 2 E rfl fun a E=>wp_ret<|aG<|fW E rfl rfl rfl<|have H:=H.drop 0;?_
  cases hm
  exact ⟨rfl,H.reads Y0⟩
 ·refine wp_skip<|aA<|sp 1 E rfl fun a E=>lb2 E H 0 U9 rfl fun a E=>bd hm fun j d hm=>xk2 E rfl (cf_ 145) (sZ H d) fun w H a E=>pr 5 E rfl fun a E=>nx<|pr 1 E rfl fun a E=>lb2 E H 0 U9 rfl fun a E=>bd hm fun k e hm=>xk2 E rfl (cf_ 150) (zT H e) fun w H a E=>pr 1 E rfl fun a E=>bd hm fun l f hm=>xk2 E rfl (cf_ 230) (S7 H f) fun w H a E=>pn 5 E rfl fun a E=>wp_seq<|sq<|pn 2 E rfl fun a E=>wif E hm rfl (fun hm=>?_) fun hm=>?_
  ·refine sq<|pn 2 E rfl fun a E=>wp_ret<|aG<|fW E rfl rfl rfl<|have H:=H.drop 0;?_
   cases hm
   exact ⟨rfl,H.reads Y0⟩
  ·refine wp_skip<|aA<|sp 2 E rfl fun a E=>bd hm fun g b hm=>xk2 E rfl (cf_ 231) (Cs H b) fun w H a E=>pn 4 E rfl fun a E=>wp_ret<|fW E rfl rfl rfl<|have H:=H.drop 0;?_
   cases hm
   exact ⟨rfl,H.reads Y0⟩

def mK(rec_1:cD→Bool→Int→Option cD)(d:Int)(b:cD)(c:Bool):Option cD:=
  rec_1 b c (IntKind.i64.wrap (d+1))
def mL(rec_1:cD→Bool→Int→Option cD)(c:Int)(f:List aD)(x3:aD)(b:cD)(d:Bool):Option cD:=
  (idx f c).bind fun g=>if (!(sEq g.Path x3.Path))=true then ((idx f c).bind fun e=>(ck (b.length+([e]:List aD).length ≤ LIM)).bind fun i=>mK rec_1 c (b ++ ([e]:List aD)) d) else (mK rec_1 c b d)
def mM(rec_1:cD→Bool→Int→Option cD)(c:Int)(d:List aD)(x3:aD)(b:cD)(f:Bool)(e:Bool):Option cD:=
  if e=true then ((ck (b.length+([x3]:List aD).length ≤ LIM)).bind fun g=>mL rec_1 c d x3 (b ++ ([x3]:List aD)) true) else (mL rec_1 c d x3 b f)
def mN(b:cD):Option cD:=
  some (b)
def dV(b:List aD)(x3:aD):Nat→cD→Bool→Int→Option cD
  | 0,_,_,_=>none
  | f+1,c,d,e=>
    if (decide (e < (b.length:Int)))=true then (if (!d)=true then ((idx b e).bind fun g=>mM (dV b x3 f) e b x3 c d (!(sLt g.Path x3.Path))) else (mM (dV b x3 f) e b x3 c d false)) else (if (!d)=true then ((ck (c.length+([x3]:List aD).length ≤ LIM)).bind fun i=>mN (c ++ ([x3]:List aD))) else (mN c))
def kA(b:List aD)(x3:aD):Option cD:=
  dV b x3 (((b.length:Int) - 0:Int).toNat+1) [] false 0
theorem K3{p:Value}{g:List aD}{x3:aD}(H:Sep w (Fo) rs)(o:rSl aB p g ∈ rs){r:cD}(hm:kA g x3=some r) :
    Cf 95 [p,.agg (dS x3).toArray] w fun v w'=>∃ Y,Y=v∧Sep w' (Row 107 aB Y r::Fo) (rs):=by
 unfold kA at hm
 refine ent Tryz.func95 rfl Tryz.ntmps95 rfl rfl fun a E=>sq<|bx E H rfl fun n w a H E=>pr 1 E rfl fun a E=>xp 1 E rfl fun a E=>nx<|pn 1 E rfl fun a E=>wp_seq<|sq<|pn 1 E rfl fun a E=>wp_block<|bD (fun j a w=>∃ q s t l,Jn 52 a w [(0,p),(3,pt n 0),(5,q),(6,.bool t),(7,.int .i64 l)] (Blk n 107 (dS x3)::Row 107 aB q s::Fo) rs (dV g x3 j s t l=some r)) (((g.length:Int) - 0:Int).toNat+1) ?_ ?_
 ·exact have H:=H.nilRow 107 aB;have H:=H.frs [0,1] rfl;X5 ⟨E.to rfl,H,Y0,hm⟩
 ·clear E H hm
  rintro j a w ⟨q,s,t,l,Z,E,H,f,hm⟩
  cases j with
  | zero=>exact (aZ hm rfl).elim
  | succ j=>
   unfold dV at hm
   refine wp_seq<|sp 2 E rfl fun a E=>lS E H (f _ o) U22 rfl fun a E=>pn 1 E rfl fun a E=>wif E hm rfl (fun hm=>?_) fun hm=>?_
   ·refine wp_skip<|aA<|aK (fun a w=>∃ u y z,Jn 52 a w [(0,p),(3,pt n 0),(5,u),(6,.bool z),(7,.int .i64 l)] (Blk n 107 (dS x3)::Row 107 aB u y::Fo) rs (mK (dV g x3 j) l y z=some r)) ?_ ?_
    ·refine wp_block<|aK (fun a w=>∃ A B C,Jn 52 a w [(0,p),(3,pt n 0),(5,A),(6,.bool C),(7,.int .i64 l)] (Blk n 107 (dS x3)::Row 107 aB A B::Fo) rs (mL (dV g x3 j) l g x3 B C=some r)) ?_ ?_
     ·refine aK (fun a w=>∃ D,Jn 52 a w [(0,p),(3,pt n 0),(5,q),(6,.bool t),(7,.int .i64 l),(25,.bool D)] (Blk n 107 (dS x3)::Row 107 aB q s::Fo) rs (mM (dV g x3 j) l g x3 s t D=some r)) ?_ ?_
      ·obtain ⟨b4,H⟩:=H.raw (f _ o)
       refine dw [(0,0),(1,0),(2,0),(3,0),(4,0),(5,0),(6,0),(7,0),(8,0),(9,0),(10,0),(11,0)] [0] [0] H (by kernel_rfl) (fun _ _ _ h=>False.elim h.2) fun w W0 hI H=>fn 3 E rfl fun a E=>cs hm (fun b hm=>?_) fun b hm=>?_
       ·refine fk 2 E (kc 16 rfl b) rfl fun a E=>bd hm fun b5 J hm=>?_
        obtain ⟨q48,b6,K,L⟩:=gK (P:=Tryz.prog) (k:=.i64) hI (gD (.head _)) U22 cJ J
        refine cZ E rfl (ws' (d:=16) E rfl rfl rfl rfl b) rfl rfl (fun w hW=>jQ E rfl rfl rfl (K w)) fun a E=>?_
        have M:=rO L (fun _ _ _ h=>vZ h)
        refine fk 1 E (kc 16 rfl b) rfl fun a E=>fa E rfl (ws' (d:=16) E rfl rfl rfl rfl b) rfl rfl rfl rfl M U9 rfl fun a E=>fk 1 E (kc 16 rfl b) rfl fun a E=>fb E rfl (ws' (d:=16) E rfl rfl rfl rfl b) rfl rfl rfl rfl m0 rfl U9 rfl fun a E=>fk 2 E (kc 16 rfl b) rfl fun a E=>aY<|?_
        clear hI
        exact aA<|⟨_,_,E.to rfl,H,(Y1 f),hm⟩
       ·refine fk 9 E (kc 16 rfl b) rfl fun a E=>aY<|?_
        clear hI
        exact aA<|⟨_,_,E.to rfl,H,(Y1 f),hm⟩
      ·clear E H hm
       rintro a w ⟨D,b0,E,H,F,hm⟩
       unfold mM at hm
       refine wif E hm rfl (fun hm=>?_) fun hm=>?_
       ·exact sp 1 E rfl fun a E=>ln 0 (dS x3) E H pF rfl cJ fun a E=>iV (e:=107) (d:=aB) (cs:=[.string x3.Path,.string x3.Data,.int .i64 x3.Version,.int .i64 x3.Turn,.int .i64 x3.Owner]) (xs:=[x3]) E H (wn rfl) rfl rfl rfl (E.evs rfl) (by kernel_rfl) rfl (fun ok hr=>(Rows.single (d:=aB) (cs:=[.string x3.Path,.string x3.Data,.int .i64 x3.Version,.int .i64 x3.Turn,.int .i64 x3.Owner]) (x:=x3) mE)) fun b7 w a H E=>bk hm fun N hm=>cO (i:=1) E H (wn rfl) rfl rfl rfl rfl rfl rfl (fA m0) U22 I1 rfl N rfl fun b8 w a H E=>pn 1 E rfl fun a E=>wp_region_lit<|pn 1 E rfl fun a E=>X4 ⟨E.to rfl,H,(Y1 F),hm⟩
       ·exact wp_skip<|aA<|X4 ⟨E.to rfl,H,F,hm⟩
     ·clear E H hm
      rintro a w ⟨A,B,C,b1,E,H,m,hm⟩
      unfold mL at hm
      refine wp_seq<|?_
      obtain ⟨b9,H⟩:=H.raw (m _ o)
      refine dw [(0,0),(1,0),(2,0),(3,0),(4,0),(5,0),(6,0),(7,0)] [0] [0] H (by kernel_rfl) (fun _ _ _ h=>False.elim h.2) fun w W0 hI H=>fn 2 E rfl fun a E=>bd hm fun c0 O hm=>?_
      obtain ⟨q25,c1,Q,R⟩:=gK (P:=Tryz.prog) (k:=.i64) hI (gD (.head _)) U22 cJ O
      refine fv E rfl (fun w hW=>jQ E rfl rfl rfl (Q w)) fun a E=>?_
      have S:=rO R (fun _ _ _ h=>vZ h)
      refine fn 1 E rfl fun a E=>fa E rfl (wn rfl) rfl rfl rfl rfl S U9 rfl fun a E=>fn 1 E rfl fun a E=>fb2 E m0 U9 rfl fun a E=>fn 1 E rfl fun a E=>aY<|?_
      clear hI
      refine aA<|wif E hm rfl (fun hm=>?_) fun hm=>?_
      ·exact wp_region_lit<|pr 3 E rfl fun a E=>bd hm fun c T hm=>cN E H (wn rfl) rfl rfl rfl rfl rfl (t1 (m _ o)) U22 cJ T fun q32 a H E=>ldf bX E H rfl rfl rfl rfl rfl m0 pF rfl cJ fun a E=>iV (e:=107) (d:=aB) (cs:=[.string c.Path,.string c.Data,.int .i64 c.Version,.int .i64 c.Turn,.int .i64 c.Owner]) (xs:=[c]) E H (wn rfl) rfl rfl rfl (E.evs rfl) (by kernel_rfl) rfl (fun ok hr=>(Rows.single (d:=aB) (cs:=[.string c.Path,.string c.Data,.int .i64 c.Version,.int .i64 c.Turn,.int .i64 c.Owner]) (x:=c) mE)) fun c2 w a H E=>bk hm fun U hm=>cO (i:=1) E H (wn rfl) rfl rfl rfl rfl rfl rfl (fA m0) U22 I1 rfl U rfl fun c3 w a H E=>pr 1 E rfl fun a E=>wpList_nil<|bH<|aA<|X4 ⟨E.to rfl,H,(Y3 m),hm⟩
      ·exact wp_skip<|bH<|aA<|X4 ⟨E.to rfl,H,(Y1 m),hm⟩
    ·clear E H hm
     rintro a w ⟨u,y,z,b2,E,H,V,hm⟩
     unfold mK at hm
     exact wp_region_lit<|pn 3 E rfl fun a E=>⟨j,Nat.lt_succ_self j,X5 ⟨E.to rfl,H,V,hm⟩⟩
   ·refine wp_exit<|aL<|aL<|cH<|aA<|aK (fun a w=>∃ G I,Jn 52 a w [(5,G)] (Row 107 aB G I::Fo) rs (mN I=some r)) ?_ ?_
    ·refine sq<|pn 2 E rfl fun a E=>wif E hm rfl (fun hm=>?_) fun hm=>?_
     ·exact wp_region_lit<|pr 1 E rfl fun a E=>ln 0 (dS x3) E H pF rfl cJ fun a E=>iV (e:=107) (d:=aB) (cs:=[.string x3.Path,.string x3.Data,.int .i64 x3.Version,.int .i64 x3.Turn,.int .i64 x3.Owner]) (xs:=[x3]) E H (wn rfl) rfl rfl rfl (E.evs rfl) (by kernel_rfl) rfl (fun ok hr=>(Rows.single (d:=aB) (cs:=[.string x3.Path,.string x3.Data,.int .i64 x3.Version,.int .i64 x3.Turn,.int .i64 x3.Owner]) (x:=x3) mE)) fun c4 w a H E=>bk hm fun W hm=>cO (i:=1) E H (wn rfl) rfl rfl rfl rfl rfl rfl (fA m0) U22 I1 rfl W rfl fun c5 w a H E=>pn 1 E rfl fun a E=>have H:=H.drop 0;X3 ⟨E.to rfl,H,(Y1 f),hm⟩
     ·exact wp_skip<|aA<|have H:=H.drop 0;X3 ⟨E.to rfl,H,f,hm⟩
    ·clear E H hm
     rintro a w ⟨G,I,b3,E,H,X,hm⟩
     unfold mN at hm
     refine sq<|pn 2 E rfl fun a E=>wp_ret<|o1 E rfl<|?_
     cases hm
     exact ⟨_,rfl,H.reads X⟩

def kJ(b:ByteArray):Option Bool:=
  (iH b).bind fun c=>some (c.2)
theorem yQ{b:ByteArray}(H:Sep w (Fo) rs){r:Bool}(hm:kJ b=some r) :
    Cf 70 [.string b] w fun v w'=>.bool r=v∧Sep w' (Fo) (rs):=by
 unfold kJ at hm
 refine ent Tryz.func70 rfl Tryz.ntmps70 rfl rfl fun a E=>sp 1 E rfl fun a E=>xp 1 E rfl fun a E=>bd hm fun d c hm=>xc2 E rfl (cf_ 139) (uA H c)<|?_
 rintro _ w ⟨e,rfl,H⟩ a E
 refine pr 5 E rfl fun a E=>nx<|pn 2 E rfl fun a E=>wp_ret<|o1 E rfl<|have H:=H.drop 0;?_
 cases hm
 exact ⟨rfl,H.reads Y0⟩

def jV(b:Int):Option Bool:=
  some (decide (b ≥ 5000))
def eU(b:List aD):Nat→Int→Int→Option Bool
  | 0,_,_=>none
  | f+1,c,d=>
    if (decide (d < (b.length:Int)))=true then (if (decide (c < 5000))=true then ((idx b d).bind fun e=>(idx b d).bind fun x20=>eU b f (IntKind.i64.wrap ((IntKind.i64.wrap (c+(min (e.Path.size:Int) 5000)))+(min (x20.Data.size:Int) 5000))) (IntKind.i64.wrap (d+1))) else (jV c)) else (jV c)
def qU(b:List aD):Option Bool:=
  eU b 5002 (IntKind.i64.wrap (3 * (b.length:Int))) 0
theorem Bf{f:Value}{g:List aD}(H:Sep w (Fo) rs)(e:rSl aB f g ∈ rs){r:Bool}(hm:qU g=some r) :
    Cf 39 [f] w fun v w'=>.bool r=v∧Sep w' (Fo) (rs):=by
 unfold qU at hm
 refine ent Tryz.func39 rfl Tryz.ntmps39 rfl rfl fun a E=>sp 1 E rfl fun a E=>xp 1 E rfl fun a E=>lS E H e U22 rfl fun a E=>pn 2 E rfl fun a E=>aK (fun a w=>∃ i,Jn 37 a w [(3,.int .i64 i)] (Fo) rs (jV i=some r)) ?_ ?_
 ·refine sq<|pn 1 E rfl fun a E=>wp_block<|bD (fun d a w=>∃ j l,Jn 37 a w [(0,f),(3,.int .i64 j),(4,.int .i64 l)] (Fo) rs (eU g d j l=some r)) (5002) ?_ ?_
  ·exact X3 ⟨E.to rfl,H,Y0,hm⟩
  ·clear E H hm
   rintro d a w ⟨j,l,z,E,H,b,hm⟩
   cases d with
   | zero=>exact (aZ hm rfl).elim
   | succ d=>
    unfold eU at hm
    refine wp_seq<|sp 2 E rfl fun a E=>lS E H (b _ e) U22 rfl fun a E=>pr 2 E rfl fun a E=>cs hm (fun c hm=>?_) fun c hm=>?_
    ·refine pk 3 E (kc 12 rfl c) rfl fun a E=>nt<|wif E hm rfl (fun hm=>?_) fun hm=>?_
     ·refine wp_skip<|aA<|wp_seq<|wp_block<|?_
      obtain ⟨A,H⟩:=H.raw (b _ e)
      refine dw [(0,0),(1,0),(2,0),(3,0),(4,0),(5,0),(6,0),(7,0),(8,0),(9,0),(10,0),(11,0),(12,0),(13,0),(14,0),(15,0),(16,0),(17,2)] [] [0] H (by kernel_rfl) (fun _ _ _ h=>False.elim h.2) fun w W0 hI H=>fn 3 E rfl fun a E=>bd hm fun B m hm=>?_
      obtain ⟨q15,C,n,o⟩:=gK (P:=Tryz.prog) (k:=.i64) hI (gD (.head _)) U22 cJ m
      refine fv E rfl (fun w hW=>jQ E rfl rfl rfl (n w)) fun a E=>?_
      have p:=rO o (fun _ _ _ h=>vZ h)
      refine fn 1 E rfl fun a E=>fa E rfl (wn rfl) rfl rfl rfl rfl p U9 rfl fun a E=>fn 1 E rfl fun a E=>fv E rfl (fun w hW=>(Lw (t:=0) E rfl rfl rfl)) fun a E=>fn 3 E rfl fun a E=>bd hm fun x20 q hm=>?_
      obtain ⟨q22,D,s,u⟩:=gK (P:=Tryz.prog) (k:=.i64) hI (gD (.head _)) U22 cJ q
      refine fv E rfl (fun w hW=>jQ E rfl rfl rfl (s w)) fun a E=>?_
      have x:=rO u (fun _ _ _ h=>Je h)
      refine fn 1 E rfl fun a E=>fa E rfl (wn rfl) rfl rfl rfl rfl x U9 rfl fun a E=>fn 1 E rfl fun a E=>fv E rfl (fun w hW=>(Lw (t:=0) E rfl rfl rfl)) fun a E=>fn 1 E rfl fun a E=>bL rfl<|pn 1 E rfl fun a E=>aY<|?_
      clear hI
      exact bH<|aA<|wp_region_lit<|pn 3 E rfl fun a E=>⟨d,Nat.lt_succ_self d,X3 ⟨E.to rfl,H,(Y1 b),hm⟩⟩
     ·exact wp_exit<|aL<|aL<|cH<|aA<|⟨_,_,E.to rfl,H,b,hm⟩
    ·exact pk 3 E (kc 12 rfl c) rfl fun a E=>nt<|wp_cond_false (E.eval rfl)<|wp_exit<|aL<|aL<|cH<|aA<|⟨_,_,E.to rfl,H,b,hm⟩
 ·clear E H hm
  rintro a w ⟨i,F,E,H,y,hm⟩
  unfold jV at hm
  refine sq<|pn 3 E rfl fun a E=>wp_ret<|o1 E rfl<|?_
  cases hm
  exact ⟨rfl,H.reads y⟩

def lK(c:List ByteArray)(d:List ByteArray):Nat→Int→Option Bool
  | 0,_=>none
  | g+1,b=>
    if (decide (b < (c.length:Int)))=true then ((idx c b).bind fun e=>(idx d b).bind fun f=>if (!(sEq e f))=true then (some (false)) else (lK c d g (IntKind.i64.wrap (b+1)))) else (some (true))
def rZ(b:List ByteArray)(c:List ByteArray):Option Bool:=
  if ((b.length:Int) != (c.length:Int))=true then (some (false)) else (lK b c (((b.length:Int) - 0:Int).toNat+1) 0)
theorem Ct{g i:Value}{e j:List ByteArray}(H:Sep w (Fo) rs)(d:rSl kS g e ∈ rs)(f:rSl kS i j ∈ rs){r:Bool}(hm:rZ e j=some r) :
    Cf 124 [g,i] w fun v w'=>.bool r=v∧Sep w' (Fo) (rs):=by
 unfold rZ at hm
 refine ent Tryz.func124 rfl Tryz.ntmps124 rfl rfl fun a E=>sq<|pn 1 E rfl fun a E=>wp_seq<|sp 1 E rfl fun a E=>lS E H d U33 rfl fun a E=>pr 1 E rfl fun a E=>lS E H f U33 rfl fun a E=>pn 1 E rfl fun a E=>wif E hm rfl (fun hm=>?_) fun hm=>?_
 ·refine sq<|pn 1 E rfl fun a E=>wp_ret<|aG<|o1 E rfl<|?_
  cases hm
  exact ⟨rfl,H.reads Y0⟩
 ·refine wp_skip<|aA<|wp_seq<|sq<|pn 1 E rfl fun a E=>wp_block<|bD (fun c a w=>∃ l,Jn 26 a w [(0,g),(1,i),(5,.int .i64 l)] (Fo) rs (lK e j c l=some r)) (((e.length:Int) - 0:Int).toNat+1) ?_ ?_
  ·exact ⟨_,_,E.to rfl,H,Y0,hm⟩
  ·clear E H hm
   rintro c a w ⟨l,t,E,H,b,hm⟩
   cases c with
   | zero=>exact (aZ hm rfl).elim
   | succ c=>
    unfold lK at hm
    refine wp_seq<|sp 2 E rfl fun a E=>lS E H (b _ d) U33 rfl fun a E=>pn 1 E rfl fun a E=>wif E hm rfl (fun hm=>?_) fun hm=>?_
    ·refine wp_skip<|aA<|wp_seq<|wp_block<|wp_seq<|?_
     obtain ⟨u,H⟩:=H.raw (b _ d)
     obtain ⟨x,H⟩:=H.raw (t1 (b _ f))
     refine dw [(0,0),(1,0),(2,0),(3,0),(4,0),(5,0),(6,0),(7,0),(8,0)] [] [1,0] H (by kernel_rfl) (fun _ _ _ h=>False.elim h.2) fun w W0 hI H=>fn 2 E rfl fun a E=>bd hm fun y m hm=>?_
     obtain ⟨q14,z,n,o⟩:=gK (P:=Tryz.prog) (k:=.i64) hI (gD (.head _)) U33 sz9 m
     refine fv E rfl (fun w hW=>jQ E rfl rfl rfl (n w)) fun a E=>fa E rfl (wn rfl) rfl rfl rfl rfl o U9 rfl fun a E=>fn 2 E rfl fun a E=>bd hm fun A p hm=>?_
     obtain ⟨q20,B,q,s⟩:=gK (P:=Tryz.prog) (k:=.i64) hI (gD (.tail _ (.head _))) U33 sz9 p
     refine fv E rfl (fun w hW=>jQ E rfl rfl rfl (q w)) fun a E=>fa E rfl (wn rfl) rfl rfl rfl rfl s U9 rfl fun a E=>fn 1 E rfl fun a E=>aY<|?_
     clear hI
     refine aA<|wif E hm rfl (fun hm=>?_) fun hm=>?_
     ·refine sq<|pn 1 E rfl fun a E=>wp_ret<|bF<|aG<|aG<|bF<|aG<|o1 E rfl<|?_
      cases hm
      exact ⟨rfl,H.reads (Y2 b)⟩
     ·exact wp_skip<|bH<|aA<|wp_region_lit<|pn 3 E rfl fun a E=>⟨c,Nat.lt_succ_self c,_,_,E.to rfl,H,(Y2 b),hm⟩
    ·refine wp_exit<|aL<|aL<|cH<|aA<|sq<|pn 1 E rfl fun a E=>wp_ret<|o1 E rfl<|?_
     cases hm
     exact ⟨rfl,H.reads b⟩

def lL(e:List aD)(f:List aD):Nat→Int→Option Bool
  | 0,_=>none
  | g+1,d=>
    if (decide (d < (e.length:Int)))=true then ((idx e d).bind fun b=>(idx f d).bind fun c=>if (!((sEq b.Path c.Path) && ((sEq b.Data c.Data) && ((b.Version == c.Version) && ((b.Turn == c.Turn) && (b.Owner == c.Owner))))))=true then (some (false)) else (lL e f g (IntKind.i64.wrap (d+1)))) else (some (true))
def sA(b:List aD)(c:List aD):Option Bool:=
  if ((b.length:Int) != (c.length:Int))=true then (some (false)) else (lL b c (((b.length:Int) - 0:Int).toNat+1) 0)
theorem Cu{j l:Value}{g m:List aD}(H:Sep w (Fo) rs)(f:rSl aB j g ∈ rs)(i:rSl aB l m ∈ rs){r:Bool}(hm:sA g m=some r) :
    Cf 55 [j,l] w fun v w'=>.bool r=v∧Sep w' (Fo) (rs):=by
 unfold sA at hm
 refine ent Tryz.func55 rfl Tryz.ntmps55 rfl rfl fun a E=>sq<|pn 1 E rfl fun a E=>wp_seq<|sp 1 E rfl fun a E=>lS E H f U22 rfl fun a E=>pr 1 E rfl fun a E=>lS E H i U22 rfl fun a E=>pn 1 E rfl fun a E=>wif E hm rfl (fun hm=>?_) fun hm=>?_
 ·refine sq<|pn 1 E rfl fun a E=>wp_ret<|aG<|o1 E rfl<|?_
  cases hm
  exact ⟨rfl,H.reads Y0⟩
 ·refine wp_skip<|aA<|wp_seq<|sq<|pn 1 E rfl fun a E=>wp_block<|bD (fun e a w=>∃ n,Jn 26 a w [(0,j),(1,l),(5,.int .i64 n)] (Fo) rs (lL g m e n=some r)) (((g.length:Int) - 0:Int).toNat+1) ?_ ?_
  ·exact ⟨_,_,E.to rfl,H,Y0,hm⟩
  ·clear E H hm
   rintro e a w ⟨n,x,E,H,d,hm⟩
   cases e with
   | zero=>exact (aZ hm rfl).elim
   | succ e=>
    unfold lL at hm
    refine wp_seq<|sp 2 E rfl fun a E=>lS E H (d _ f) U22 rfl fun a E=>pn 1 E rfl fun a E=>wif E hm rfl (fun hm=>?_) fun hm=>?_
    ·refine wp_skip<|aA<|wp_seq<|wp_block<|wp_seq<|?_
     obtain ⟨y,H⟩:=H.raw (d _ f)
     obtain ⟨z,H⟩:=H.raw (t1 (d _ i))
     refine dw [(0,0),(1,0),(2,0),(3,0),(4,0),(5,0),(6,0),(7,0),(8,0)] [] [1,0] H (by kernel_rfl) (fun _ _ _ h=>False.elim h.2) fun w W0 hI H=>fn 2 E rfl fun a E=>bd hm fun b o hm=>?_
     obtain ⟨q14,A,p,q⟩:=gK (P:=Tryz.prog) (k:=.i64) hI (gD (.head _)) U22 cJ o
     refine fv E rfl (fun w hW=>jQ E rfl rfl rfl (p w)) fun a E=>fv E rfl (fun w hW=>pE E rfl rfl (v8 (cs:=[.string b.Path,.string b.Data,.int .i64 b.Version,.int .i64 b.Turn,.int .i64 b.Owner]) (DR.ir (C3 q)) (fun _ _ _ h=>sD h) pF rfl cJ w hW)) fun a E=>fn 2 E rfl fun a E=>bd hm fun c s hm=>?_
     obtain ⟨q20,B,t,u⟩:=gK (P:=Tryz.prog) (k:=.i64) hI (gD (.tail _ (.head _))) U22 cJ s
     refine fv E rfl (fun w hW=>jQ E rfl rfl rfl (t w)) fun a E=>fv E rfl (fun w hW=>pE E rfl rfl (v8 (cs:=[.string c.Path,.string c.Data,.int .i64 c.Version,.int .i64 c.Turn,.int .i64 c.Owner]) (DR.ir (C3 u)) (fun _ _ _ h=>sD h) pF rfl cJ w hW)) fun a E=>fv E rfl (fun w hW=>(zG E rfl rfl rfl (v:=.bool (!((sEq b.Path c.Path) && ((sEq b.Data c.Data) && ((b.Version == c.Version) && ((b.Turn == c.Turn) && (b.Owner == c.Owner))))))) (Tf EN (Ki pF EM (L7 (by rfl) (by kernel_rfl) (by kernel_rfl) (Bp U9) (L7 (by rfl) (by kernel_rfl) (by kernel_rfl) (Bp U9) (L7 (by rfl) (by kernel_rfl) (by kernel_rfl) (Gx U2) (L7 (by rfl) (by kernel_rfl) (by kernel_rfl) (Gx U2) (Mu (by rfl) (by kernel_rfl) (by kernel_rfl) (Gx U2)))))))))) fun a E=>aY<|?_
     clear hI
     refine aA<|wif E hm rfl (fun hm=>?_) fun hm=>?_
     ·refine sq<|pn 1 E rfl fun a E=>wp_ret<|bF<|aG<|aG<|bF<|aG<|o1 E rfl<|?_
      cases hm
      exact ⟨rfl,H.reads (Y2 d)⟩
     ·exact wp_skip<|bH<|aA<|wp_region_lit<|pn 3 E rfl fun a E=>⟨e,Nat.lt_succ_self e,_,_,E.to rfl,H,(Y2 d),hm⟩
    ·refine wp_exit<|aL<|aL<|cH<|aA<|sq<|pn 1 E rfl fun a E=>wp_ret<|o1 E rfl<|?_
     cases hm
     exact ⟨rfl,H.reads d⟩

def oZ(x1:bA)(x3:bA):Option Bool:=
  if (x1.Err == x3.Err)=true then (if (sEq x1.Path x3.Path)=true then (if (sEq x1.Data x3.Data)=true then (if (x1.Version == x3.Version)=true then ((rZ x1.Names x3.Names).bind fun b=>some (b)) else (some (false))) else (some (false))) else (some (false))) else (some (false))
theorem W5{x1 x3:bA}{g i:Value}(H:Sep w (Fo) rs)(j:rSl kS g x1.Names ∈ rs)(k:rSl kS i x3.Names ∈ rs){r:Bool}(hm:oZ x1 x3=some r) :
    Cf 58 [.agg (pL x1 g).toArray,.agg (pL x3 i).toArray] w fun v w'=>.bool r=v∧Sep w' (Fo) (rs):=by
 unfold oZ at hm
 refine ent Tryz.func58 rfl Tryz.ntmps58 rfl rfl fun a E=>sq<|bx E H rfl fun m w a H E=>bx E H rfl fun n w a H E=>pr 1 E rfl fun a E=>xp 1 E rfl fun a E=>lb2 E H 1 U41 rfl fun a E=>pr 1 E rfl fun a E=>lb2 E H 0 U41 rfl fun a E=>pr 2 E rfl fun a E=>cs hm (fun e hm=>?_) fun e hm=>?_
 ·refine pk 1 E (kc 10 rfl e) rfl fun a E=>gl 10 E H 1 e U9 rfl fun a E=>pk 1 E (kc 10 rfl e) rfl fun a E=>gl 10 E H 0 e U9 rfl fun a E=>pk 3 E (kc 10 rfl e) rfl fun a E=>cs hm (fun c hm=>?_) fun c hm=>?_
  ·refine pk 1 E (kc 17 rfl c) rfl fun a E=>gl 17 E H 1 c U9 rfl fun a E=>pk 1 E (kc 17 rfl c) rfl fun a E=>gl 17 E H 0 c U9 rfl fun a E=>pk 3 E (kc 17 rfl c) rfl fun a E=>cs hm (fun d hm=>?_) fun d hm=>?_
   ·refine pk 1 E (kc 24 rfl d) rfl fun a E=>gl 24 E H 1 d U2 rfl fun a E=>pk 1 E (kc 24 rfl d) rfl fun a E=>gl 24 E H 0 d U2 rfl fun a E=>pk 3 E (kc 24 rfl d) rfl fun a E=>cs hm (fun b hm=>?_) fun b hm=>?_
    ·refine pk 1 E (kc 31 rfl b) rfl fun a E=>gl 31 E H 1 b U33 rfl fun a E=>pk 1 E (kc 31 rfl b) rfl fun a E=>gl 31 E H 0 b U33 rfl fun a E=>bd hm fun l f hm=>gc 31 E b rfl (cf_ 124) (Ct H j k f)<|?_
     rintro _ w ⟨rfl,H⟩ a E
     refine pk 2 E (kc 31 rfl b) rfl fun a E=>nt<|wp_ret<|o1 E rfl<|have H:=H.drs [0,0];?_
     cases hm
     exact ⟨rfl,H.reads Y0⟩
    ·refine pk 7 E (kc 31 rfl b) rfl fun a E=>nt<|wp_ret<|o1 E rfl<|have H:=H.drs [0,0];?_
     cases hm
     exact ⟨rfl,H.reads Y0⟩
   ·refine pk 14 E (kc 24 rfl d) rfl fun a E=>nt<|wp_ret<|o1 E rfl<|have H:=H.drs [0,0];?_
    cases hm
    exact ⟨rfl,H.reads Y0⟩
  ·refine pk 21 E (kc 17 rfl c) rfl fun a E=>nt<|wp_ret<|o1 E rfl<|have H:=H.drs [0,0];?_
   cases hm
   exact ⟨rfl,H.reads Y0⟩
 ·refine pk 28 E (kc 10 rfl e) rfl fun a E=>nt<|wp_ret<|o1 E rfl<|have H:=H.drs [0,0];?_
  cases hm
  exact ⟨rfl,H.reads Y0⟩

def tQ(c:ByteArray):Option ByteArray:=
  (hF c).bind fun b=>if (!b.2)=true then (some ((ByteArray.mk #[47]))) else (some (b.1))
theorem Gk{b:ByteArray}(H:Sep w (Fo) rs){r:ByteArray}(hm:tQ b=some r) :
    Cf 138 [.string b] w fun v w'=>.string r=v∧Sep w' (Fo) (rs):=by
 unfold tQ at hm
 refine ent Tryz.func138 rfl Tryz.ntmps138 rfl rfl fun a E=>sp 1 E rfl fun a E=>xp 1 E rfl fun a E=>bd hm fun d c hm=>xk2 E rfl (cf_ 145) (sZ H c) fun w H a E=>pn 5 E rfl fun a E=>wp_seq<|sq<|pn 2 E rfl fun a E=>wif E hm rfl (fun hm=>?_) fun hm=>?_
 ·refine sq<|pn 1 E rfl fun a E=>wp_ret<|aG<|o1 E rfl<|?_
  cases hm
  exact ⟨rfl,H.reads Y0⟩
 ·refine wp_skip<|aA<|sq<|pn 2 E rfl fun a E=>wp_ret<|o1 E rfl<|?_
  cases hm
  exact ⟨rfl,H.reads Y0⟩

def fR(x1:aQ)(b:Bool):Option Bool:=
  if b=true then (if (decide ((x1.Data.size:Int) ≤ 256))=true then (if (decide (x1.Version ≥ (-1)))=true then (if (decide (x1.Version ≤ 281474976710656))=true then (if (decide (x1.Owner ≥ 0))=true then (some (decide (x1.Owner ≤ 1099511627776))) else (some (false))) else (some (false))) else (some (false))) else (some (false))) else (some (false))
def mO(x1:aQ)(c:ByteArray):Option Bool:=
  if (sEq x1.Dir c)=true then ((kJ x1.Path).bind fun b=>if b=true then (if (decide (x1.Kind ≥ 1))=true then (if (decide (x1.Kind ≤ 10))=true then (if (x1.Kind != 2)=true then (fR x1 true) else (fR x1 (!(sEq x1.Path (ByteArray.mk #[47]))))) else (fR x1 false)) else (fR x1 false)) else (fR x1 false)) else (fR x1 false)
def mP(x1:aQ)(c:ByteArray)(b:Bool):Option Bool:=
  if b=true then (mO x1 x1.Path) else (mO x1 c)
def sR(x1:aQ):Option Bool:=
  (tQ x1.Path).bind fun b=>if (x1.Kind == 4)=true then (mP x1 b true) else (if (x1.Kind == 9)=true then (mP x1 b true) else (mP x1 b (x1.Kind == 10)))
theorem Ei{x1:aQ}(H:Sep w (Fo) rs){r:Bool}(hm:sR x1=some r) :
    Cf 90 [.agg (bE x1).toArray] w fun v w'=>.bool r=v∧Sep w' (Fo) (rs):=by
 unfold sR at hm
 refine ent Tryz.func90 rfl Tryz.ntmps90 rfl rfl fun a E=>sq<|bx E H rfl fun q w a H E=>pr 1 E rfl fun a E=>xp 1 E rfl fun a E=>lb2 E H 0 U9 rfl fun a E=>bd hm fun z A hm=>xk2 E rfl (cf_ 138) (Gk H A) fun w H a E=>pn 1 E rfl fun a E=>aK (fun a w=>∃ u,Jn 79 a w [(1,pt q 0),(3,.string u)] (Blk q 97 (bE x1)::Fo) rs (mO x1 u=some r)) ?_ ?_
 ·refine aK (fun a w=>∃ s,Jn 79 a w [(1,pt q 0),(3,.string z),(20,.bool s)] (Blk q 97 (bE x1)::Fo) rs (mP x1 z s=some r)) ?_ ?_
  ·refine wp_region_lit<|pr 1 E rfl fun a E=>lb2 E H 0 U3 rfl fun a E=>pr 2 E rfl fun a E=>cs hm (fun e hm=>?_) fun e hm=>?_
   ·exact pk 9 E (kc 11 rfl e) rfl fun a E=>nt<|⟨_,_,E.to rfl,H,Y0,hm⟩
   ·refine pk 1 E (kc 11 rfl e) rfl fun a E=>gl 11 E H 0 e U3 rfl fun a E=>pk 3 E (kc 11 rfl e) rfl fun a E=>cs hm (fun f hm=>?_) fun f hm=>?_
    ·exact pk 4 E (kc 16 rfl f) rfl fun a E=>nt<|⟨_,_,E.to rfl,H,Y0,hm⟩
    ·exact pk 1 E (kc 16 rfl f) rfl fun a E=>gl 16 E H 0 f U3 rfl fun a E=>pk 2 E (kc 16 rfl f) rfl fun a E=>nt<|⟨_,_,E.to rfl,H,Y0,hm⟩
  ·clear E H hm
   rintro a w ⟨s,B,E,H,t,hm⟩
   unfold mP at hm
   refine wif E hm rfl (fun hm=>?_) fun hm=>?_
   ·exact wp_region_lit<|pr 1 E rfl fun a E=>lb2 E H 0 U9 rfl fun a E=>pn 1 E rfl fun a E=>⟨_,_,E.to rfl,H,t,hm⟩
   ·exact wp_skip<|aA<|⟨_,_,E.to rfl,H,t,hm⟩
 ·clear E H hm
  rintro a w ⟨u,C,E,H,p,hm⟩
  unfold mO at hm
  refine aK (fun a w=>∃ x,Jn 79 a w [(1,pt q 0),(4,.bool x)] (Blk q 97 (bE x1)::Fo) rs (fR x1 x=some r)) ?_ ?_
  ·refine wp_region_lit<|pr 1 E rfl fun a E=>lb2 E H 0 U9 rfl fun a E=>pr 3 E rfl fun a E=>cs hm (fun c hm=>?_) fun c hm=>?_
   ·refine pk 1 E (kc 27 rfl c) rfl fun a E=>gl 27 E H 0 c U9 rfl fun a E=>bd hm fun D y hm=>gc 27 E c rfl (cf_ 70) (yQ H y)<|?_
    rintro _ w ⟨rfl,H⟩ a E
    refine pk 2 E (kc 27 rfl c) rfl fun a E=>cs hm (fun g hm=>?_) fun g hm=>?_
    ·refine pk 1 E (kc 32 rfl g) rfl fun a E=>gl 32 E H 0 g U3 rfl fun a E=>pk 3 E (kc 32 rfl g) rfl fun a E=>cs hm (fun i hm=>?_) fun i hm=>?_
     ·refine pk 1 E (kc 37 rfl i) rfl fun a E=>gl 37 E H 0 i U3 rfl fun a E=>pk 3 E (kc 37 rfl i) rfl fun a E=>cs hm (fun b hm=>?_) fun b hm=>?_
      ·refine pk 1 E (kc 42 rfl b) rfl fun a E=>gl 42 E H 0 b U3 rfl fun a E=>pk 2 E (kc 42 rfl b) rfl fun a E=>cs hm (fun j hm=>?_) fun j hm=>?_
       ·exact pk 6 E (kc' (kc 46 rfl j) 42 rfl b) rfl fun a E=>nt<|⟨_,_,E.to rfl,H,p,hm⟩
       ·exact pk 1 E (kc 46 rfl j) rfl fun a E=>gl 46 E H 0 j U9 rfl fun a E=>pk 4 E (kc' (kc 46 rfl j) 42 rfl b) rfl fun a E=>nt<|⟨_,_,E.to rfl,H,p,hm⟩
      ·exact pk 10 E (kc 42 rfl b) rfl fun a E=>nt<|⟨_,_,E.to rfl,H,p,hm⟩
     ·exact pk 15 E (kc 37 rfl i) rfl fun a E=>nt<|⟨_,_,E.to rfl,H,p,hm⟩
    ·exact pk 20 E (kc 32 rfl g) rfl fun a E=>nt<|⟨_,_,E.to rfl,H,p,hm⟩
   ·exact pk 25 E (kc 27 rfl c) rfl fun a E=>nt<|⟨_,_,E.to rfl,H,p,hm⟩
  ·clear E H hm
   rintro a w ⟨x,F,E,H,d,hm⟩
   unfold fR at hm
   refine sp 2 E rfl fun a E=>cs hm (fun k hm=>?_) fun k hm=>?_
   ·refine pk 1 E (kc 53 rfl k) rfl fun a E=>gl 53 E H 0 k U9 rfl fun a E=>pk 4 E (kc 53 rfl k) rfl fun a E=>cs hm (fun l hm=>?_) fun l hm=>?_
    ·refine pk 1 E (kc 59 rfl l) rfl fun a E=>gl 59 E H 0 l U2 rfl fun a E=>pk 3 E (kc 59 rfl l) rfl fun a E=>cs hm (fun m hm=>?_) fun m hm=>?_
     ·refine pk 1 E (kc 64 rfl m) rfl fun a E=>gl 64 E H 0 m U2 rfl fun a E=>pk 3 E (kc 64 rfl m) rfl fun a E=>cs hm (fun n hm=>?_) fun n hm=>?_
      ·refine pk 1 E (kc 69 rfl n) rfl fun a E=>gl 69 E H 0 n U2 rfl fun a E=>pk 3 E (kc 69 rfl n) rfl fun a E=>cs hm (fun o hm=>?_) fun o hm=>?_
       ·refine pk 1 E (kc 74 rfl o) rfl fun a E=>gl 74 E H 0 o U2 rfl fun a E=>pk 3 E (kc 74 rfl o) rfl fun a E=>nt<|wp_ret<|o1 E rfl<|have H:=H.drop 0;?_
        cases hm
        exact ⟨rfl,H.reads d⟩
       ·refine pk 5 E (kc 74 rfl o) rfl fun a E=>nt<|wp_ret<|o1 E rfl<|have H:=H.drop 0;?_
        cases hm
        exact ⟨rfl,H.reads d⟩
      ·refine pk 10 E (kc 69 rfl n) rfl fun a E=>nt<|wp_ret<|o1 E rfl<|have H:=H.drop 0;?_
       cases hm
       exact ⟨rfl,H.reads d⟩
     ·refine pk 15 E (kc 64 rfl m) rfl fun a E=>nt<|wp_ret<|o1 E rfl<|have H:=H.drop 0;?_
      cases hm
      exact ⟨rfl,H.reads d⟩
    ·refine pk 20 E (kc 59 rfl l) rfl fun a E=>nt<|wp_ret<|o1 E rfl<|have H:=H.drop 0;?_
     cases hm
     exact ⟨rfl,H.reads d⟩
   ·refine pk 26 E (kc 53 rfl k) rfl fun a E=>nt<|wp_ret<|o1 E rfl<|have H:=H.drop 0;?_
    cases hm
    exact ⟨rfl,H.reads d⟩

def sB(x1:aD):Option Bool:=
  (kJ x1.Path).bind fun b=>if b=true then (if (decide ((x1.Data.size:Int) ≤ 256))=true then (if (decide (x1.Version ≥ 0))=true then (if (decide (x1.Version ≤ 281474976710656))=true then (if (decide (x1.Owner ≥ 0))=true then (if (decide (x1.Owner ≤ 1099511627776))=true then (some (x1.Turn == 0)) else (some (false))) else (some (false))) else (some (false))) else (some (false))) else (some (false))) else (some (false))
theorem Cv{x1:aD}(H:Sep w (Fo) rs){r:Bool}(hm:sB x1=some r) :
    Cf 69 [.agg (dS x1).toArray] w fun v w'=>.bool r=v∧Sep w' (Fo) (rs):=by
 unfold sB at hm
 refine ent Tryz.func69 rfl Tryz.ntmps69 rfl rfl fun a E=>sq<|bx E H rfl fun j w a H E=>pr 1 E rfl fun a E=>xp 1 E rfl fun a E=>lb2 E H 0 U9 rfl fun a E=>bd hm fun k i hm=>xk2 E rfl (cf_ 70) (yQ H i) fun w H a E=>pr 1 E rfl fun a E=>cs hm (fun c hm=>?_) fun c hm=>?_
 ·refine pk 1 E (kc 6 rfl c) rfl fun a E=>gl 6 E H 0 c U9 rfl fun a E=>pk 4 E (kc 6 rfl c) rfl fun a E=>cs hm (fun d hm=>?_) fun d hm=>?_
  ·refine pk 1 E (kc 12 rfl d) rfl fun a E=>gl 12 E H 0 d U2 rfl fun a E=>pk 3 E (kc 12 rfl d) rfl fun a E=>cs hm (fun e hm=>?_) fun e hm=>?_
   ·refine pk 1 E (kc 17 rfl e) rfl fun a E=>gl 17 E H 0 e U2 rfl fun a E=>pk 3 E (kc 17 rfl e) rfl fun a E=>cs hm (fun f hm=>?_) fun f hm=>?_
    ·refine pk 1 E (kc 22 rfl f) rfl fun a E=>gl 22 E H 0 f U2 rfl fun a E=>pk 3 E (kc 22 rfl f) rfl fun a E=>cs hm (fun g hm=>?_) fun g hm=>?_
     ·refine pk 1 E (kc 27 rfl g) rfl fun a E=>gl 27 E H 0 g U2 rfl fun a E=>pk 3 E (kc 27 rfl g) rfl fun a E=>cs hm (fun b hm=>?_) fun b hm=>?_
      ·refine pk 1 E (kc 32 rfl b) rfl fun a E=>gl 32 E H 0 b U2 rfl fun a E=>pk 3 E (kc 32 rfl b) rfl fun a E=>nt<|wp_ret<|o1 E rfl<|have H:=H.drop 0;?_
       cases hm
       exact ⟨rfl,H.reads Y0⟩
      ·refine pk 5 E (kc 32 rfl b) rfl fun a E=>nt<|wp_ret<|o1 E rfl<|have H:=H.drop 0;?_
       cases hm
       exact ⟨rfl,H.reads Y0⟩
     ·refine pk 10 E (kc 27 rfl g) rfl fun a E=>nt<|wp_ret<|o1 E rfl<|have H:=H.drop 0;?_
      cases hm
      exact ⟨rfl,H.reads Y0⟩
    ·refine pk 15 E (kc 22 rfl f) rfl fun a E=>nt<|wp_ret<|o1 E rfl<|have H:=H.drop 0;?_
     cases hm
     exact ⟨rfl,H.reads Y0⟩
   ·refine pk 20 E (kc 17 rfl e) rfl fun a E=>nt<|wp_ret<|o1 E rfl<|have H:=H.drop 0;?_
    cases hm
    exact ⟨rfl,H.reads Y0⟩
  ·refine pk 25 E (kc 12 rfl d) rfl fun a E=>nt<|wp_ret<|o1 E rfl<|have H:=H.drop 0;?_
   cases hm
   exact ⟨rfl,H.reads Y0⟩
 ·refine pk 31 E (kc 6 rfl c) rfl fun a E=>nt<|wp_ret<|o1 E rfl<|have H:=H.drop 0;?_
  cases hm
  exact ⟨rfl,H.reads Y0⟩

def jW(rec_1:Int→Option Bool)(c:Int)(b:Bool):Option Bool:=
  if b=true then (some (false)) else (rec_1 (IntKind.i64.wrap (c+1)))
def fU(rec_2:Int→Option Bool)(b:Int)(c:Bool):Option Bool:=
  if c=true then (some (false)) else (rec_2 (IntKind.i64.wrap (b+1)))
def dM(x1:aF):Nat→Int→Option Bool
  | 0,_=>none
  | d+1,b=>
    if (decide (b < (x1.Turns.length:Int)))=true then ((idx x1.Turns b).bind fun c=>(kJ c.Dir).bind fun e=>if (!e)=true then (fU (dM x1 d) b true) else (if (decide (c.Next < 1))=true then (fU (dM x1 d) b true) else (if (decide (c.Next > 10000))=true then (fU (dM x1 d) b true) else (if (decide (b > 0))=true then ((idx x1.Turns (IntKind.i64.wrap (b - 1))).bind fun f=>fU (dM x1 d) b (!(sLt f.Dir c.Dir))) else (fU (dM x1 d) b false))))) else (some (true))
def eI(x1:aF):Nat→Int→Option Bool
  | 0,_=>none
  | c+1,b=>
    if (decide (b < (x1.Nodes.length:Int)))=true then ((idx x1.Nodes b).bind fun d=>(sB d).bind fun e=>if (!e)=true then (jW (eI x1 c) b true) else (if (decide (b > 0))=true then ((idx x1.Nodes (IntKind.i64.wrap (b - 1))).bind fun f=>(idx x1.Nodes b).bind fun g=>jW (eI x1 c) b (!(sLt f.Path g.Path))) else (jW (eI x1 c) b false))) else (dM x1 (((x1.Turns.length:Int) - 0:Int).toNat+1) 0)
def uB(x1:aF):Option Bool:=
  eI x1 (((x1.Nodes.length:Int) - 0:Int).toNat+1) 0
theorem Bg{x1:aF}{s t:Value}(H:Sep w (Fo) rs)(C:rSl aB s x1.Nodes ∈ rs)(u:rSl aC t x1.Turns ∈ rs){r:Bool}(hm:uB x1=some r) :
    Cf 28 [.agg #[s,t]] w fun v w'=>.bool r=v∧Sep w' (Fo) (rs):=by
 unfold uB at hm
 refine ent Tryz.func28 rfl Tryz.ntmps28 rfl rfl fun a E=>sq<|bx E H rfl fun m w a H E=>pn 1 E rfl fun a E=>wp_seq<|sq<|pn 1 E rfl fun a E=>wp_block<|bD (fun p a w=>∃ x,Jn 82 a w [(1,pt m 0),(3,.int .i64 x)] (Blk m 25 [s,t]::Fo) rs (eI x1 p x=some r)) (((x1.Nodes.length:Int) - 0:Int).toNat+1) ?_ ?_
 ·exact ⟨_,_,E.to rfl,H,Y0,hm⟩
 ·clear E H hm
  rintro p a w ⟨x,b1,E,H,l,hm⟩
  cases p with
  | zero=>exact (aZ hm rfl).elim
  | succ p=>
   unfold eI at hm
   refine wp_seq<|sp 2 E rfl fun a E=>lb2 E H 0 U22 rfl fun a E=>lS E H (l _ C) U22 rfl fun a E=>pn 1 E rfl fun a E=>wif E hm rfl (fun hm=>?_) fun hm=>?_
   ·refine wp_skip<|aA<|wp_seq<|wp_block<|aK (fun a w=>∃ y,Jn 82 a w [(1,pt m 0),(3,.int .i64 x),(39,.bool y)] (Blk m 25 [s,t]::Fo) rs (jW (eI x1 p) x y=some r)) ?_ ?_
    ·obtain ⟨b2,H⟩:=H.raw (l _ C)
     refine dw [(0,0),(1,0),(2,0),(3,0),(4,0),(5,1),(6,0),(7,0),(8,0),(9,0),(10,0),(11,0),(12,0),(13,0),(14,0),(15,0),(16,0),(17,0),(18,0),(19,0),(20,0),(21,0),(22,0),(23,0),(24,0),(25,0),(26,0)] [0] [0] H (by kernel_rfl) (fun _ _ _ h=>False.elim h.2) fun w W0 hI H=>fn 1 E rfl fun a E=>fb2 E m0 U22 rfl fun a E=>fn 1 E rfl fun a E=>bd hm fun n D hm=>?_
     obtain ⟨q16,b3,F,G⟩:=gK (P:=Tryz.prog) (k:=.i64) hI (gD (.head _)) U22 cJ D
     refine fv E rfl (fun w hW=>jQ E rfl rfl rfl (F w)) fun a E=>fv E rfl (fun w hW=>pE E rfl rfl (v8 (cs:=[.string n.Path,.string n.Data,.int .i64 n.Version,.int .i64 n.Turn,.int .i64 n.Owner]) (DR.ir (C3 G)) (fun _ _ _ h=>sD h) pF rfl cJ w hW)) fun a E=>bI rfl<|bd hm fun b4 I hm=>xk2 E rfl (cf_ 69) (Cv H I) fun w H a E=>nt<|⟨⟨_,_,H,(aM m0 (bC)),(aE m0 (bG))⟩,fn 2 E rfl fun a E=>cs hm (fun f hm=>?_) fun f hm=>?_⟩
     ·refine fk 19 E (kc 20 rfl f) rfl fun a E=>aY<|?_
      clear hI
      exact aA<|⟨_,_,E.to rfl,H,(Y1 l),hm⟩
     ·refine fk 3 E (kc 20 rfl f) rfl fun a E=>cs hm (fun b hm=>?_) fun b hm=>?_
      ·refine fk 1 E (kc 23 rfl b) rfl fun a E=>fb E rfl (ws' (d:=23) E rfl rfl rfl rfl b) rfl rfl rfl rfl m0 rfl U22 rfl fun a E=>fk 2 E (kc 23 rfl b) rfl fun a E=>bd hm fun b5 J hm=>?_
       obtain ⟨q26,b6,K,L⟩:=gK (P:=Tryz.prog) (k:=.i64) hI (gD (.head _)) U22 cJ J
       refine cZ E rfl (ws' (d:=23) E rfl rfl rfl rfl b) rfl rfl (fun w hW=>jQ E rfl rfl rfl (K w)) fun a E=>?_
       have M:=rO L (fun _ _ _ h=>vZ h)
       refine fk 1 E (kc 23 rfl b) rfl fun a E=>fa E rfl (ws' (d:=23) E rfl rfl rfl rfl b) rfl rfl rfl rfl M U9 rfl fun a E=>fk 1 E (kc 23 rfl b) rfl fun a E=>fb E rfl (ws' (d:=23) E rfl rfl rfl rfl b) rfl rfl rfl rfl m0 rfl U22 rfl fun a E=>fk 1 E (kc 23 rfl b) rfl fun a E=>bd hm fun b7 N hm=>?_
       obtain ⟨q33,b8,O,Q⟩:=gK (P:=Tryz.prog) (k:=.i64) hI (gD (.head _)) U22 cJ N
       refine cZ E rfl (ws' (d:=23) E rfl rfl rfl rfl b) rfl rfl (fun w hW=>jQ E rfl rfl rfl (O w)) fun a E=>?_
       have R:=rO Q (fun _ _ _ h=>vZ h)
       refine fk 1 E (kc 23 rfl b) rfl fun a E=>fa E rfl (ws' (d:=23) E rfl rfl rfl rfl b) rfl rfl rfl rfl R U9 rfl fun a E=>fk 3 E (kc' (kc 23 rfl b) 20 rfl f) rfl fun a E=>aY<|?_
       clear hI
       exact aA<|⟨_,_,E.to rfl,H,(Y1 l),hm⟩
      ·refine fk 16 E (kc' (kc 23 rfl b) 20 rfl f) rfl fun a E=>aY<|?_
       clear hI
       exact aA<|⟨_,_,E.to rfl,H,(Y1 l),hm⟩
    ·clear E H hm
     rintro a w ⟨y,Y,E,H,z,hm⟩
     unfold jW at hm
     refine wif E hm rfl (fun hm=>?_) fun hm=>?_
     ·refine sq<|pn 1 E rfl fun a E=>wp_ret<|bF<|aG<|aG<|bF<|aG<|o1 E rfl<|have H:=H.drop 0;?_
      cases hm
      exact ⟨rfl,H.reads z⟩
     ·exact wp_skip<|bH<|aA<|wp_region_lit<|pn 3 E rfl fun a E=>⟨p,Nat.lt_succ_self p,_,_,E.to rfl,H,z,hm⟩
   ·refine wp_exit<|aL<|aL<|cH<|aA<|wp_seq<|sq<|pn 1 E rfl fun a E=>wp_block<|bD (fun q a w=>∃ o,Jn 82 a w [(1,pt m 0),(4,.int .i64 o)] (Blk m 25 [s,t]::Fo) rs (dM x1 q o=some r)) (((x1.Turns.length:Int) - 0:Int).toNat+1) ?_ ?_
    ·exact ⟨_,_,E.to rfl,H,l,hm⟩
    ·clear E H hm
     rintro q a w ⟨o,Z,E,H,e,hm⟩
     cases q with
     | zero=>exact (aZ hm rfl).elim
     | succ q=>
      unfold dM at hm
      refine wp_seq<|sp 2 E rfl fun a E=>lb2 E H 0 U23 rfl fun a E=>lS E H (e _ u) U23 rfl fun a E=>pn 1 E rfl fun a E=>wif E hm rfl (fun hm=>?_) fun hm=>?_
      ·refine wp_skip<|aA<|wp_seq<|wp_block<|sp 1 E rfl fun a E=>lb2 E H 0 U23 rfl fun a E=>pr 1 E rfl fun a E=>bd hm fun b9 S hm=>cN E H (wn rfl) rfl rfl rfl rfl rfl (e _ u) U23 iS S fun q43 a H E=>ldf dT E H rfl rfl rfl rfl rfl m0 U89 rfl iS fun a E=>al2 E H rfl EA fun c0 w a H E=>ss 0 E H rfl iS rfl fun w H=>nt<|aK (fun a w=>∃ A,Jn 82 a w [(1,pt m 0),(4,.int .i64 o),(81,.bool A)] (Blk m 25 [s,t]::Fo) rs (fU (dM x1 q) o A=some r)) ?_ ?_
       ·obtain ⟨c1,H⟩:=H.raw (t1 (e _ u))
        refine dw [(0,0),(1,0),(2,1),(3,0),(4,0),(5,0),(6,0),(7,0),(8,0),(9,0),(10,0),(11,0),(12,0),(13,0),(14,0),(15,0),(16,0),(17,0),(18,0),(19,0),(20,0),(21,0),(22,0),(23,0),(24,0),(25,0),(26,0),(27,0),(28,0),(29,0)] [0,1] [0] H (by kernel_rfl) (fun _ _ _ h=>False.elim h.2) fun w W0 hI H=>fn 1 E rfl fun a E=>fb2 E m0 U9 rfl fun a E=>bI rfl<|bd hm fun c2 T hm=>xk2 E rfl (cf_ 70) (yQ H T) fun w H a E=>nt<|⟨⟨_,_,H,(aM m0 (aM mm1 (bC))),(aE m0 (bG))⟩,fn 2 E rfl fun a E=>cs hm (fun g hm=>?_) fun g hm=>?_⟩
        ·refine fk 25 E (kc 56 rfl g) rfl fun a E=>aY<|?_
         clear hI
         exact aA<|have H:=H.drop 0;⟨_,_,E.to rfl,H,(Y2 e),hm⟩
        ·refine fk 1 E (kc 56 rfl g) rfl fun a E=>fb E rfl (ws' (d:=56) E rfl rfl rfl rfl g) rfl rfl rfl rfl m0 rfl U2 rfl fun a E=>fk 3 E (kc 56 rfl g) rfl fun a E=>cs hm (fun i hm=>?_) fun i hm=>?_
         ·refine fk 20 E (kc 61 rfl i) rfl fun a E=>aY<|?_
          clear hI
          exact aA<|have H:=H.drop 0;⟨_,_,E.to rfl,H,(Y2 e),hm⟩
         ·refine fk 1 E (kc 61 rfl i) rfl fun a E=>fb E rfl (ws' (d:=61) E rfl rfl rfl rfl i) rfl rfl rfl rfl m0 rfl U2 rfl fun a E=>fk 3 E (kc 61 rfl i) rfl fun a E=>cs hm (fun j hm=>?_) fun j hm=>?_
          ·refine fk 15 E (kc 66 rfl j) rfl fun a E=>aY<|?_
           clear hI
           exact aA<|have H:=H.drop 0;⟨_,_,E.to rfl,H,(Y2 e),hm⟩
          ·refine fk 3 E (kc 66 rfl j) rfl fun a E=>cs hm (fun c hm=>?_) fun c hm=>?_
           ·refine fk 1 E (kc 69 rfl c) rfl fun a E=>fb E rfl (ws' (d:=69) E rfl rfl rfl rfl c) rfl rfl rfl rfl mm1 rfl U23 rfl fun a E=>fk 2 E (kc 69 rfl c) rfl fun a E=>bd hm fun c3 U hm=>?_
            obtain ⟨q57,c4,V,W⟩:=gK (P:=Tryz.prog) (k:=.i64) hI (gD (.head _)) U23 iS U
            refine cZ E rfl (ws' (d:=69) E rfl rfl rfl rfl c) rfl rfl (fun w hW=>jQ E rfl rfl rfl (V w)) fun a E=>?_
            have X:=rO W (fun _ _ _ h=>Jf h)
            refine fk 1 E (kc 69 rfl c) rfl fun a E=>fa E rfl (ws' (d:=69) E rfl rfl rfl rfl c) rfl rfl rfl rfl X U9 rfl fun a E=>fk 1 E (kc 69 rfl c) rfl fun a E=>fb E rfl (ws' (d:=69) E rfl rfl rfl rfl c) rfl rfl rfl rfl m0 rfl U9 rfl fun a E=>fk 3 E (kc' (kc 69 rfl c) 66 rfl j) rfl fun a E=>aY<|?_
            clear hI
            exact aA<|have H:=H.drop 0;⟨_,_,E.to rfl,H,(Y2 e),hm⟩
           ·refine fk 12 E (kc' (kc 69 rfl c) 66 rfl j) rfl fun a E=>aY<|?_
            clear hI
            exact aA<|have H:=H.drop 0;⟨_,_,E.to rfl,H,(Y2 e),hm⟩
       ·clear E H hm
        rintro a w ⟨A,b0,E,H,B,hm⟩
        unfold fU at hm
        refine wif E hm rfl (fun hm=>?_) fun hm=>?_
        ·refine sq<|pn 1 E rfl fun a E=>wp_ret<|bF<|aG<|aG<|bF<|aG<|o1 E rfl<|have H:=H.drop 0;?_
         cases hm
         exact ⟨rfl,H.reads B⟩
        ·exact wp_skip<|bH<|aA<|wp_region_lit<|pn 3 E rfl fun a E=>⟨q,Nat.lt_succ_self q,_,_,E.to rfl,H,B,hm⟩
      ·refine wp_exit<|aL<|aL<|cH<|aA<|sq<|pn 1 E rfl fun a E=>wp_ret<|o1 E rfl<|have H:=H.drop 0;?_
       cases hm
       exact ⟨rfl,H.reads e⟩

def lM(x1:aF)(c:ByteArray):Nat→Int→Option Int
  | 0,_=>none
  | f+1,b=>
    if (decide (b < (x1.Turns.length:Int)))=true then ((idx x1.Turns b).bind fun d=>if (sEq d.Dir c)=true then ((idx x1.Turns b).bind fun e=>some (e.Next)) else (lM x1 c f (IntKind.i64.wrap (b+1)))) else (some (0))
def vA(x1:aF)(b:ByteArray):Option Int:=
  lM x1 b (((x1.Turns.length:Int) - 0:Int).toNat+1) 0
theorem Cw{x1:aF}{k f:Value}{e:ByteArray}(H:Sep w (Fo) rs)(d:rSl aC f x1.Turns ∈ rs){r:Int}(hm:vA x1 e=some r) :
    Cf 146 [.agg #[k,f],.string e] w fun v w'=>.int .i64 r=v∧Sep w' (Fo) (rs):=by
 unfold vA at hm
 refine ent Tryz.func146 rfl Tryz.ntmps146 rfl rfl fun a E=>sq<|bx E H rfl fun l w a H E=>pn 1 E rfl fun a E=>wp_seq<|sq<|pn 1 E rfl fun a E=>wp_block<|bD (fun c a w=>∃ g,Jn 27 a w [(1,.string e),(2,pt l 0),(5,.int .i64 g)] (Blk l 25 [k,f]::Fo) rs (lM x1 e c g=some r)) (((x1.Turns.length:Int) - 0:Int).toNat+1) ?_ ?_
 ·exact ⟨_,_,E.to rfl,H,Y0,hm⟩
 ·clear E H hm
  rintro c a w ⟨g,o,E,H,b,hm⟩
  cases c with
  | zero=>exact (aZ hm rfl).elim
  | succ c=>
   unfold lM at hm
   refine wp_seq<|sp 2 E rfl fun a E=>lb2 E H 0 U23 rfl fun a E=>lS E H (b _ d) U23 rfl fun a E=>pn 1 E rfl fun a E=>wif E hm rfl (fun hm=>?_) fun hm=>?_
   ·refine wp_skip<|aA<|wp_seq<|wp_block<|sp 1 E rfl fun a E=>lb2 E H 0 U23 rfl fun a E=>pr 1 E rfl fun a E=>bd hm fun m i hm=>cN E H (wn rfl) rfl rfl rfl rfl rfl (b _ d) U23 iS i fun q13 a H E=>have H:=H.derive1 m0 (rAt kS (q13.add 0) m.Dir) (fun ok h=>zZ h);pr 1 E rfl fun a E=>sv2 E rfl (pJ E H rfl rfl m0 U9 rfl) fun a E=>pn 2 E rfl fun a E=>wif E hm rfl (fun hm=>?_) fun hm=>?_
    ·refine sp 1 E rfl fun a E=>lb2 E H 0 U23 rfl fun a E=>pr 1 E rfl fun a E=>bd hm fun n j hm=>cN E H (wn rfl) rfl rfl rfl rfl rfl (t2 (b _ d)) U23 iS j fun q16 a H E=>have H:=H.derive1 m0 (rAt (kI .i64) (q16.add 1) n.Next) (fun ok h=>Jg h);pr 1 E rfl fun a E=>sv2 E rfl (pJ E H rfl rfl m0 U2 rfl) fun a E=>pn 1 E rfl fun a E=>wp_ret<|bF<|aG<|aG<|bF<|aG<|o1 E rfl<|have H:=H.drop 0;?_
     cases hm
     exact ⟨rfl,H.reads (Y4 b)⟩
    ·exact wp_skip<|bH<|aA<|wp_region_lit<|pn 3 E rfl fun a E=>⟨c,Nat.lt_succ_self c,_,_,E.to rfl,H,(Y2 b),hm⟩
   ·refine wp_exit<|aL<|aL<|cH<|aA<|sq<|pn 1 E rfl fun a E=>wp_ret<|o1 E rfl<|have H:=H.drop 0;?_
    cases hm
    exact ⟨rfl,H.reads b⟩

end Go.Cb
