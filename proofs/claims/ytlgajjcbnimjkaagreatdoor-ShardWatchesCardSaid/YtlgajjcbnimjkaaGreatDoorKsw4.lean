/- Functions of the program, walked: each comes to its plain function. -/
import Derived.Test.YtlgajjcbnimjkaaGreatDoorKsw3
import Derived.Test.YtlgajjcbnimjkaaGreatDoorExsw
import Derived.Test.YtlgajjcbnimjkaaGreatDoorNwsw
import Derived.Test.YtlgajjcbnimjkaaGreatDoorSksw
set_option linter.unusedVariables false
set_option linter.unusedSimpArgs false
set_option maxRecDepth 20000
set_option maxHeartbeats 1000000
namespace Go.Cb
open Go.Proofs Go.RowKit
variable {w:World} {Fo:List Ob} {rs:List Rp}

def gU(c:List aM)(d:ByteArray):Nat→Int→Option Int
  | 0,_=>none
  | f+1,b=>
    if (decide (b < (c.length:Int)))=true then ((idx c b).bind fun g=>(D7 g d).bind fun e=>if e=true then (some (b)) else (gU c d f (IntKind.i64.wrap (b+1)))) else (some ((-1)))
def lM(b:List aM)(c:ByteArray):Option Int:=
  gU b c (((b.length:Int) - 0:Int).toNat+1) 0
theorem zK{j:Value}{d:List aM}{e:Nat}{f:ByteArray}(H:Sep w (Blk e 9 [.string f]::Fo) rs)(i:rSl bG j d ∈ rs){r:Int}(hm:lM d f=some r) :
    Calls Tryz.prog 87 [j,.func (.func 88) #[] #[pt e 0]].toArray w (Ret fun v w'=>.int .i64 r=v∧Sep w' (Blk e 9 [.string f]::Fo) (rs)):=by
 unfold lM at hm
 refine ent Tryz.func87 rfl Tryz.ntmps87 rfl rfl fun a E=>sq<|pr 1 E rfl fun a E=>nt<|wp_seq<|sq<|pr 1 E rfl fun a E=>sv E rfl rfl rfl (dB E H rfl rfl i U56) fun a E=>pr 1 E rfl fun a E=>?_
 refine nt<|wp_block<|cA (fun c a w=>∃ k g,Env 19 a [(0,j),(1,.func (.func 88) #[] #[pt e 0]),(7,.int .i64 (d.length:Int)),(8,.int .i64 k)]∧Sep w (Blk e 9 [.string f]::Fo) g∧(∀ r,r ∈ rs→r ∈ g)∧gU d f c k=some r) (((d.length:Int) - 0:Int).toNat+1) ?_ ?_
 ·exact ⟨_,_,E.to rfl,H,Y0,hm⟩
 ·clear E H hm
  rintro c a w ⟨k,g,E,H,b,hm⟩
  cases c with
  | zero=>exact (bW hm rfl).elim
  | succ c=>
   unfold gU at hm
   refine sq<|pr 1 E rfl fun a E=>nt<|wp_seq<|wif E hm rfl (fun hm=>?_) fun hm=>?_
   ·refine wp_skip<|aD<|wp_seq<|wp_block<|sq<|pr 2 E rfl fun a E=>nx<|pr 3 E rfl fun a E=>bd hm fun o l hm=>?_
    refine dF E H (wn rfl) rfl rfl rfl rfl rfl (b _ i) U56 mU l fun q11 a H E=>ldf fN E H rfl rfl rfl rfl rfl m0 U89 rfl mU fun a E=>bd hm fun n m hm=>aX E (wn rfl) rfl rfl (bP E rfl rfl rfl (LB _)) (Hh H m)<|?_
    rintro _ w ⟨rfl,H⟩ a E
    refine nt<|wif E hm rfl (fun hm=>?_) fun hm=>?_
    ·refine sq<|pr 2 E rfl fun a E=>nt<|wp_ret<|bU<|aP<|aP<|bU<|aP<|?_
     refine bB E rfl rfl<|?_
     cases hm
     exact ⟨rfl,H.reads (Y1 b)⟩
    ·exact wp_skip<|bY<|aD<|wp_region_lit<|pr 2 E rfl fun a E=>nt<|⟨c,Nat.lt_succ_self c,_,_,E.to rfl,H,(Y1 b),hm⟩
   ·refine wp_exit<|bH<|bH<|dZ<|aD<|sq<|pr 1 E rfl fun a E=>nt<|wp_ret<|?_
    refine bB E rfl rfl<|?_
    cases hm
    exact ⟨rfl,H.reads b⟩

def L6(b:List aM)(d:ByteArray):Option (Int×Bool):=
  (lM b d).bind fun c=>if (decide (c < 0))=true then (some (0,false)) else ((idx b c).bind fun e=>some (e.Txn,true))
theorem Lr{c:Value}{d:List aM}{e:ByteArray}(H:Sep w (Fo) rs)(b:rSl bG c d ∈ rs){r:Int×Bool}(hm:L6 d e=some r) :
    Calls Tryz.prog 37 [c,.string e].toArray w (Ret fun v w'=>.tuple #[.int .i64 r.1,.bool r.2]=v∧Sep w' (Fo) (rs)):=by
 unfold L6 at hm
 refine ent Tryz.func37 rfl Tryz.ntmps37 rfl rfl fun a E=>sq<|bS E H (wn rfl) rfl rfl rfl rfl rfl fun j w a H E=>pr 2 E rfl fun a E=>nx<|pr 1 E rfl fun a E=>sv E rfl rfl rfl (kH E rfl rfl rfl) fun a E=>bd hm fun k f hm=>xk E rfl rfl rfl rfl rfl Lf (zK H b f) fun w H a E=>?_
 refine pr 1 E rfl fun a E=>nt<|wp_seq<|sq<|pr 2 E rfl fun a E=>nt<|wif E hm rfl (fun hm=>?_) fun hm=>?_
 ·refine sq<|pr 2 E rfl fun a E=>nt<|wp_ret<|aP<|iE E rfl rfl rfl<|have H:=H.drop 0;?_
  cases hm
  exact ⟨rfl,H.reads Y0⟩
 ·refine wp_skip<|aD<|sq<|pr 2 E rfl fun a E=>bd hm fun i g hm=>dF E H (wn rfl) rfl rfl rfl rfl rfl b U56 mU g fun q10 a H E=>have H:=H.derive1 m0 (rAt (kI .i64) (q10.add 1) i.Txn) (fun ok h=>Gu h);pr 1 E rfl fun a E=>sv E rfl rfl rfl (nB E H rfl rfl m0 U2 rfl) fun a E=>?_
  refine pr 2 E rfl fun a E=>nt<|wp_ret<|iE E rfl rfl rfl<|have H:=H.drop 0;?_
  cases hm
  exact ⟨rfl,H.reads (Y2 Y0)⟩

def tL(d:ByteArray)(b:List aM):Option Bool:=
  (L6 b d).bind fun c=>some (c.2)
theorem Z5{q:ByteArray}{n c:Nat}{b d e f g i j k l:Value}{m:List aM}(H:Sep w (Blk n 24 [pt c 0]::Blk c 82 [d,e,f,b,g,i,j,k,l]::Fo) rs)(o:rSl bG b m ∈ rs){r:Bool}(hm:tL q m=some r) :
    Calls Tryz.prog 36 [.string q,pt n 0].toArray w (Ret fun v w'=>.bool r=v∧Sep w' (Blk n 24 [pt c 0]::Blk c 82 [d,e,f,b,g,i,j,k,l]::Fo) (rs)):=by
 unfold tL at hm
 refine ent Tryz.func36 rfl Tryz.ntmps36 rfl rfl fun a E=>sq<|pr 1 E rfl fun a E=>nx<|lb E H 0 rfl rfl rfl rfl rfl rfl rfl U24 rfl fun a E=>pr 2 E rfl fun a E=>lb E H 1 rfl rfl rfl rfl rfl rfl rfl U56 rfl fun a E=>pr 1 E rfl fun a E=>bd hm fun s p hm=>?_
 refine xk E rfl rfl rfl rfl rfl LA (Lr H o p) fun w H a E=>pr 5 E rfl fun a E=>nx<|pr 2 E rfl fun a E=>nt<|wp_ret<|bB E rfl rfl<|?_
 cases hm
 exact ⟨rfl,H.reads Y0⟩

def eO(d:List ByteArray)(c:List aM):Nat→Int→Option Int
  | 0,_=>none
  | g+1,b=>
    if (decide (b < (d.length:Int)))=true then ((idx d b).bind fun e=>(tL e c).bind fun f=>if f=true then (some (b)) else (eO d c g (IntKind.i64.wrap (b+1)))) else (some ((-1)))
def jS(b:List ByteArray)(c:List aM):Option Int:=
  eO b c (((b.length:Int) - 0:Int).toNat+1) 0
theorem y2{m g n o p q s t u x:Value}{c:List ByteArray}{y j:Nat}{z:List aM}(H:Sep w (Row 9 kS m c::Blk y 24 [pt j 0]::Blk j 82 [n,o,p,g,q,s,t,u,x]::Fo) rs)(C:rSl bG g z ∈ rs){r:Int}(hm:jS c z=some r) :
    Calls Tryz.prog 86 [m,.func (.func 36) #[] #[pt y 0]].toArray w (Ret fun v w'=>.int .i64 r=v∧Sep w' (Blk y 24 [pt j 0]::Blk j 82 [n,o,p,g,q,s,t,u,x]::Row 9 kS m c::Fo) (rs)):=by
 unfold jS at hm
 refine ent Tryz.func86 rfl Tryz.ntmps86 rfl rfl fun a E=>sq<|pr 1 E rfl fun a E=>nt<|wp_seq<|sq<|pr 1 E rfl fun a E=>sv E rfl rfl rfl (lC (i:=0) E H rfl rfl rfl U41) fun a E=>pr 1 E rfl fun a E=>?_
 refine nt<|wp_block<|cA (fun l a w=>∃ A e,Env 19 a [(0,m),(1,.func (.func 36) #[] #[pt y 0]),(7,.int .i64 (c.length:Int)),(8,.int .i64 A)]∧Sep w (Row 9 kS m c::Blk y 24 [pt j 0]::Blk j 82 [n,o,p,g,q,s,t,u,x]::Fo) e∧(∀ r,r ∈ rs→r ∈ e)∧eO c z l A=some r) (((c.length:Int) - 0:Int).toNat+1) ?_ ?_
 ·exact ⟨_,_,E.to rfl,H,Y0,hm⟩
 ·clear E H hm
  rintro l a w ⟨A,e,E,H,b,hm⟩
  cases l with
  | zero=>exact (bW hm rfl).elim
  | succ l=>
   unfold eO at hm
   refine sq<|pr 1 E rfl fun a E=>nt<|wp_seq<|wif E hm rfl (fun hm=>?_) fun hm=>?_
   ·refine wp_skip<|aD<|wp_seq<|wp_block<|sq<|pr 2 E rfl fun a E=>nx<|pr 3 E rfl fun a E=>bd hm fun F f hm=>?_
    obtain ⟨G,I,B⟩:=H.rowformNE (i:=0) rfl f
    refine sv E rfl rfl rfl (dL (d:=kS) E B rfl rfl rfl rfl U41 sz9 f) fun a E=>sv E rfl rfl rfl (pW (d:=kS) (i:=0) (k:=0) E H Yu B rfl rfl rfl f rfl U9 rfl) fun a E=>have H:=H.frs [0,2,2] rfl;bd hm fun J D hm=>aX E (wn rfl) rfl rfl (bP E rfl rfl rfl (KZ _)) (Z5 H (b _ C) D)<|?_
    rintro _ w ⟨rfl,H⟩ a E
    refine nt<|wif E hm rfl (fun hm=>?_) fun hm=>?_
    ·refine sq<|pr 2 E rfl fun a E=>nt<|wp_ret<|bU<|aP<|aP<|bU<|aP<|?_
     refine bB E rfl rfl<|?_
     cases hm
     exact ⟨rfl,H.reads b⟩
    ·exact wp_skip<|bY<|aD<|wp_region_lit<|pr 2 E rfl fun a E=>nt<|have H:=H.frs [1,1,2] rfl;⟨l,Nat.lt_succ_self l,_,_,E.to rfl,H,b,hm⟩
   ·refine wp_exit<|bH<|bH<|dZ<|aD<|sq<|pr 1 E rfl fun a E=>nt<|wp_ret<|?_
    refine bB E rfl rfl<|have H:=H.frs [0,2,2] rfl;?_
    cases hm
    exact ⟨rfl,H.reads b⟩

def gA(d:List ByteArray)(b:List aM):Option Bool:=
  (jS d b).bind fun c=>some (decide (c ≥ 0))
theorem r9{n b d e f g i j k l:Value}{o:List ByteArray}{p c:Nat}{m:List aM}(H:Sep w (Row 9 kS n o::Blk p 24 [pt c 0]::Blk c 82 [d,e,f,b,g,i,j,k,l]::Fo) rs)(q:rSl bG b m ∈ rs){r:Bool}(hm:gA o m=some r) :
    Calls Tryz.prog 35 [n,.func (.func 36) #[] #[pt p 0]].toArray w (Ret fun v w'=>.bool r=v∧Sep w' (Blk p 24 [pt c 0]::Blk c 82 [d,e,f,b,g,i,j,k,l]::Row 9 kS n o::Fo) (rs)):=by
 unfold gA at hm
 refine ent Tryz.func35 rfl Tryz.ntmps35 rfl rfl fun a E=>sq<|pr 1 E rfl fun a E=>nx<|pr 2 E rfl fun a E=>bd hm fun t s hm=>xk E rfl rfl rfl rfl rfl Ve (y2 H q s) fun w H a E=>pr 2 E rfl fun a E=>nt<|?_
 refine wp_ret<|bB E rfl rfl<|?_
 cases hm
 exact ⟨rfl,H.reads Y0⟩

def oQ(f:List aF)(g:List aI)(c:List aJ)(d:List aC)(x20:aV)(e:Int):Option (aE×(List aF)×(List aI)×(List aJ)×(List aC)):=
  if (e != 0)=true then ((eH e).bind fun i=>some (i,f,g,c,d)) else ((oY f g c d x20.Pieces).bind fun b=>some (b.1,b.2.1,b.2.2.1,b.2.2.2.1,b.2.2.2.2))
def oR(d:List aF)(e:List aI)(b:List aJ)(c:List aC)(x20:aV)(f:Int)(g:Bool):Option (aE×(List aF)×(List aI)×(List aJ)×(List aC)):=
  if g=true then (oQ d e b c x20 131) else (oQ d e b c x20 f)
def rY(f:List aF)(g:List aI)(j:List aH)(k:List aM)(c:List aJ)(d:List aC)(x20:aV):Option (aE×(List aF)×(List aI)×(List aJ)×(List aC)):=
  (vS x20.Pieces).bind fun e=>(gA e k).bind fun i=>(mO j e).bind fun b=>if (b == 0)=true then (oR f g c d x20 b i) else (oR f g c d x20 b false)
theorem Cq{c:Nat}{L M u x g j k y z A l m n:Value}{N:List aF}{O:List aI}{b1:List aH}{b2:List aM}{o:List aJ}{p:List aC}{x20:aV}(H:Sep w (Blk c 82 [L,M,u,x,g,j,l,m,n]::Fo) rs)(B:rSl aG L N ∈ rs)(C:rSl aK M O ∈ rs)(T:rSl aR u b1 ∈ rs)(U:rSl bG x b2 ∈ rs)(D:rSl aY g o ∈ rs)(F:rSl aO j p ∈ rs)(G:rSl cF k x20.Pieces ∈ rs)(V:x4 Tryz.prog ∈ rs){r:aE×(List aF)×(List aI)×(List aJ)×(List aC)}(hm:rY N O b1 b2 o p x20=some r) :
    Calls Tryz.prog 13 [pt c 0,.agg (aS x20 k y z A).toArray].toArray w (Ret fun v w'=>∃ b3 b4 b5 b6 b7 b8 b9 P Q R,.agg (bA r.1 b3 b4 b5 b6 b7 b8).toArray=v∧Sep w' (Blk c 82 [b9,P,u,x,Q,R,l,m,n]::Fo) (rSl bE b3 r.1.Results::rSl aG b4 r.1.Store.Nodes::rSl aK b5 r.1.Store.Turns::rSl aU b6 r.1.Events::rSl bN b7 r.1.Mounts::rSl (kI .i64) b8 r.1.Wounded::rSl aG b9 r.2.1::rSl aK P r.2.2.1::rSl aY Q r.2.2.2.1::rSl aO R r.2.2.2.2::rs)):=by
 unfold rY at hm
 refine ent Tryz.func13 rfl Tryz.ntmps13 rfl rfl fun a E=>sq<|bS E H (wn rfl) rfl rfl rfl rfl rfl fun q w a H E=>bS E H (wn rfl) rfl rfl rfl rfl rfl fun s w a H E=>al E H rfl rfl rfl rfl iO fun t w a H E=>nx<|pr 1 E rfl fun a E=>lb E H 1 rfl rfl rfl rfl rfl rfl rfl U40 rfl fun a E=>bd hm fun d4 W hm=>?_
 refine cJ E rfl rfl rfl rfl rfl DG (Ay H G W)<|?_
 rintro _ w ⟨d5,rfl,H⟩ a E
 refine pr 1 E rfl fun a E=>nx<|pr 1 E rfl fun a E=>sv E rfl rfl rfl (kH E rfl rfl rfl) fun a E=>have H:=H.frs [2,2,4,4,4] rfl;bd hm fun d6 X hm=>xk E rfl rfl rfl rfl rfl Vd (r9 H U X) fun w H a E=>pr 1 E rfl fun a E=>nx<|?_
 refine lb E H 0 rfl rfl rfl rfl rfl rfl rfl U24 rfl fun a E=>pr 1 E rfl fun a E=>have H:=H.thaw (i:=2) rfl;have H:=H.frs [3,3,2,3] rfl;bd hm fun S Y hm=>xk E rfl rfl rfl rfl rfl DK (C6 H (t1 T) m0 Y) fun w H a E=>pr 1 E rfl fun a E=>nt<|aT (fun a w=>∃ I d,Env 30 a [(2,pt q 0),(3,pt s 0),(4,pt t 0),(7,.int .i64 I)]∧Sep w (Blk q 24 [pt c 0]::Blk s 43 (aS x20 k y z A)::Blk t 36 bO::Blk c 82 [L,M,u,x,g,j,l,m,n]::Fo) d∧(∀ r,r ∈ rs→r ∈ d)∧oQ N O o p x20 I=some r) ?_ ?_
 ·refine aT (fun a w=>∃ J e,Env 30 a [(2,pt q 0),(3,pt s 0),(4,pt t 0),(7,.int .i64 S),(21,.bool J)]∧Sep w (Blk q 24 [pt c 0]::Blk s 43 (aS x20 k y z A)::Blk t 36 bO::Blk c 82 [L,M,u,x,g,j,l,m,n]::Fo) e∧(∀ r,r ∈ rs→r ∈ e)∧oR N O o p x20 S J=some r) ?_ ?_
  ·refine wp_region_lit<|pr 3 E rfl fun a E=>cs hm (fun f hm=>?_) fun f hm=>?_
   ·exact pk 2 E (kc 19 rfl f) rfl fun a E=>nt<|have H:=H.frs [0,2,3,3] rfl;⟨_,_,E.to rfl,H,(Y1 Y0),hm⟩
   ·exact pk 2 E (kc 19 rfl f) rfl fun a E=>nt<|have H:=H.frs [0,2,3,3] rfl;⟨_,_,E.to rfl,H,(Y1 Y0),hm⟩
  ·clear E H hm
   rintro a w ⟨J,e,E,H,K,hm⟩
   unfold oR at hm
   refine wif E hm rfl (fun hm=>?_) fun hm=>?_
   ·exact wp_region_lit<|pr 1 E rfl fun a E=>nt<|⟨_,_,E.to rfl,H,K,hm⟩
   ·exact wp_skip<|aD<|⟨_,_,E.to rfl,H,K,hm⟩
 ·clear E H hm
  rintro a w ⟨I,d,E,H,b,hm⟩
  unfold oQ at hm
  refine wp_seq<|sq<|pr 2 E rfl fun a E=>nt<|wif E hm rfl (fun hm=>?_) fun hm=>?_
  ·refine sq<|pr 1 E rfl fun a E=>bd hm fun c0 Z hm=>cJ E rfl rfl rfl rfl rfl xU (eS H Z)<|?_
   rintro _ w ⟨c1,c2,c3,c4,c5,c6,rfl,H⟩ a E
   refine bC (i:=2) E H (wn rfl) rfl rfl rfl rfl rfl rfl bV rfl (bF H m0 mm1 mm2 mm3 mm4 mm5) fun w H=>nt<|wp_ret<|aP<|eC E rfl (dH (i:=2) (us:=(bA c0 c1 c2 c3 c4 c5 c6)) H rfl rfl rfl U36 rfl bV)<|have H:=H.drs [0,0,0];?_
   cases hm
   exact X10 ⟨rfl,H.reads (aA m0 (aA mm1 (aA mm2 (aA mm3 (aA mm4 (aA mm5 (aA (t6 (b _ B)) (aA (t6 (b _ C)) (aA (t6 (b _ D)) (aA (t6 (b _ F)) (fun r hr=>(t6 (b r hr)))))))))))))⟩
  ·refine wp_skip<|aD<|sq<|lb E H 0 rfl rfl rfl rfl rfl rfl rfl U24 rfl fun a E=>pr 1 E rfl fun a E=>lb E H 1 rfl rfl rfl rfl rfl rfl rfl U40 rfl fun a E=>have H:=H.frs [2,2,2,3] rfl;bd hm fun c7 b0 hm=>cJ E rfl rfl rfl rfl rfl DM (I7 H (b _ B) (b _ C) (b _ D) (b _ F) (b _ G) (b _ V) b0)<|?_
   rintro _ w ⟨c8,c9,d0,d1,d2,d3,d7,d8,d9,e0,rfl,H⟩ a E
   refine bC (i:=3) E H (wn rfl) rfl rfl rfl rfl rfl rfl bV rfl (bF H m0 mm1 mm2 mm3 mm4 mm5) fun w H=>nt<|wp_ret<|eC E rfl (dH (i:=3) (us:=(bA c7.1 c8 c9 d0 d1 d2 d3)) H rfl rfl rfl U36 rfl bV)<|have H:=H.drs [1,1,1];?_
   cases hm
   exact X10 ⟨rfl,H.reads (aA m0 (aA mm1 (aA mm2 (aA mm3 (aA mm4 (aA mm5 (aA mm6 (aA (t1 mm6) (aA (t2 mm6) (aA (t3 mm6) (fun r hr=>(t2 (t8 (b r hr))))))))))))))⟩

def lX(b:aE×(List aF)×(List aI)×(List aJ)×(List aC))(c:(List ((Int)×aE))):Option (aE×(List aF)×(List aI)×(List aJ)×(List aC)×(List ((Int)×aE))):=
  some (b.1,b.2.1,b.2.2.1,b.2.2.2.1,b.2.2.2.2,c)
def jK(b:aE×(List aF)×(List aI)×(List aJ)×(List aC))(c:List ((Int)×aE))(x20:aV)(d:Bool):Option (aE×(List aF)×(List aI)×(List aJ)×(List aC)×(List ((Int)×aE))):=
  if d=true then ((mpt (kyI .i64) c x20.Id b.1).bind fun e=>lX b e) else (lX b c)
def lY(c:List ((Int)×aE))(x20:aV)(f:List aF)(g:List aI)(d:List aJ)(e:List aC)(k:List aH)(l:List aM)(i:Bool):Option (aE×(List aF)×(List aI)×(List aJ)×(List aC)×(List ((Int)×aE))):=
  if i=true then ((eH 2).bind fun j=>some (j,f,g,d,e,c)) else ((rY f g k l d e x20).bind fun b=>if (x20.Id != 0)=true then (if (b.1.Err != 131)=true then (jK b c x20 (b.1.Err != 132)) else (jK b c x20 false)) else (jK b c x20 false))
def pQ(b:List ((Int)×aE))(x20:aV)(e:List aF)(f:List aI)(c:List aJ)(d:List aC)(g:List aH)(i:List aM)(j:Bool)(k:Int)(l:Int)(m:Bool)(n:Int)(o:(List cR))(p:(List aF))(q:(List aI))(s:(List bK))(t:(List oB))(u:(List Int)):Option (aE×(List aF)×(List aI)×(List aJ)×(List aC)×(List ((Int)×aE))):=
  if j=true then (some ((⟨k,l,m,n,o,(⟨p,q⟩:aW),s,t,u⟩:aE),e,f,c,d,b)) else (if (x20.Id != 0)=true then (lY b x20 e f c d g i ((b.length:Int) == 512)) else (lY b x20 e f c d g i false))
def oS(f:List aF)(g:List aI)(i:List aH)(j:List aM)(d:List aJ)(e:List aC)(c:List ((Int)×aE))(x20:aV):Option (aE×(List aF)×(List aI)×(List aJ)×(List aC)×(List ((Int)×aE))):=
  (K5 (kyI .i64) c x20.Id qP).bind fun b=>pQ c x20 f g d e i j b.2 b.1.Err b.1.At b.1.Yes b.1.Epoch b.1.Results b.1.Store.Nodes b.1.Store.Turns b.1.Events b.1.Mounts b.1.Wounded
theorem V5{p g:Nat}{d4 d5 M N J L q F G I s t:Value}{f8:List aF}{f9:List aI}{g0:List aH}{g1:List aM}{c1:List aJ}{c2:List aC}{u:List ((Int)×aE)}{x20:aV}(H:Sep w (Blk p 82 [d4,d5,M,N,J,L,.map (some g),s,t]::cC Tryz.prog 2 (kyI .i64) bI true g u::Fo) rs)(b5:rSl aG d4 f8 ∈ rs)(b6:rSl aK d5 f9 ∈ rs)(g9:rSl aR M g0 ∈ rs)(i0:rSl bG N g1 ∈ rs)(b7:rSl aY J c1 ∈ rs)(b8:rSl aO L c2 ∈ rs)(i1:rSl cF q x20.Pieces ∈ rs)(i2:x4 Tryz.prog ∈ rs){r:aE×(List aF)×(List aI)×(List aJ)×(List aC)×(List ((Int)×aE))}(hm:oS f8 f9 g0 g1 c1 c2 u x20=some r) :
    Calls Tryz.prog 25 [pt p 0,.agg (aS x20 q F G I).toArray,.func (.func 13) #[] #[]].toArray w (Ret fun v w'=>∃ i7 i8 i9 j0 j1 j2 j3 g6 g7 g8,.agg (bA r.1 i7 i8 i9 j0 j1 j2).toArray=v∧Sep w' (Blk p 82 [j3,g6,M,N,g7,g8,.map (some g),s,t]::cC Tryz.prog 2 (kyI .i64) bI true g r.2.2.2.2.2::Fo) (rSl bE i7 r.1.Results::rSl aG i8 r.1.Store.Nodes::rSl aK i9 r.1.Store.Turns::rSl aU j0 r.1.Events::rSl bN j1 r.1.Mounts::rSl (kI .i64) j2 r.1.Wounded::rSl aG j3 r.2.1::rSl aK g6 r.2.2.1::rSl aY g7 r.2.2.2.1::rSl aO g8 r.2.2.2.2.1::rs)):=by
 unfold oS at hm
 refine ent Tryz.func25 rfl Tryz.ntmps25 rfl rfl fun a E=>sq<|bS E H (wn rfl) rfl rfl rfl rfl rfl fun m w a H E=>al E H rfl rfl rfl rfl iO fun x w a H E=>nt<|wp_seq<|aT (fun a w=>∃ d6 U V X Y Z b0 d7 b1 b2 b3 b4 d8 d9 e0 e1 e2 e3 j,Env 59 a [(0,pt p 0),(2,.func (.func 13) #[] #[]),(4,pt m 0),(6,pt x 0),(7,pt d6 0),(8,.bool d7)]∧Sep w (Blk p 82 [d4,d5,M,N,J,L,.map (some g),s,t]::Blk m 43 (aS x20 q F G I)::Blk x 36 bO::Blk d6 36 [.int .i64 b1,.int .i64 b2,.bool b3,.int .i64 b4,U,V,X,Y,Z,b0]::cC Tryz.prog 2 (kyI .i64) bI true g u::Fo) j∧(∀ r,r ∈ rs→r ∈ j)∧rSl bE U d8 ∈ j∧rSl aG V d9 ∈ j∧rSl aK X e0 ∈ j∧rSl aU Y e1 ∈ j∧rSl bN Z e2 ∈ j∧rSl (kI .i64) b0 e3 ∈ j∧pQ u x20 f8 f9 c1 c2 g0 g1 d7 b1 b2 b3 b4 d8 d9 e0 e1 e2 e3=some r) ?_ ?_
 ·refine bd hm fun k1 c3 hm=>?_
  have hI:eK [Blk m 43 (aS x20 q F G I),Blk p 82 [d4,d5,M,N,J,L,.map (some g),s,t]] [] { w with drawn:=w.drawn+1 }:=⟨_,_,H.kept (Kp.drawn _ w _),(aB mm1 (aB mm2 (aL))),(aN)⟩
  refine lZ _ (.go 0 0 (.go 1 0 (.go 2 0 (.go 3 0 (.go 4 0 (.go 5 0 (.alt 6 (.go 7 0 (.go 8 0 (.go 9 0 (.go 10 1 (.go 11 1 (.go 12 2 .nil)))))) 10 (.go 6 1 (.go 7 0 (.go 8 0 (.go 9 0 (.go 11 1 (.go 12 2 .nil))))))))))))) [12] mI (by kernel_rfl) (fun _ _ _ h=>False.elim h.2) hI<|have H:=H.kept (Kp.drawn _ w (w.drawn+1));?_
  generalize ({ w with drawn:=w.drawn+1 }:World)=w at H hI ⊢
  replace hI:∃ W,eK [Blk m 43 (aS x20 q F G I),Blk p 82 [d4,d5,M,N,J,L,.map (some g),s,t]] [] W:=⟨_,hI⟩
  obtain ⟨W0,hI⟩:=hI
  refine aZ E rfl (wn rfl) rfl rfl (fun w hW=>(bD E rfl rfl)) fun a E=>aZ E rfl (wn rfl) rfl rfl (fun w hW=>(wE E rfl rfl)) fun a E=>aZ E rfl (wn rfl) rfl rfl (fun w hW=>lB E rfl rfl (v:=pt p 6) (Ah _ _)) fun a E=>aZ E rfl (wn rfl) rfl rfl (fun w hW=>gK E rfl rfl (mE mm1 rfl U79 rfl w hW)) fun a E=>aZ E rfl (wn rfl) rfl rfl (fun w hW=>lB E rfl rfl (v:=pt m 1) (Ag _ _)) fun a E=>aZ E rfl (wn rfl) rfl rfl (fun w hW=>gK E rfl rfl (mE m0 rfl U2 rfl w hW)) fun a E=>?_
  refine mS rfl rfl ?_ ?_
  ·refine oD (i:=3) (K:=(kyI .i64)) E H (wn rfl) rfl rfl rfl rfl rfl rfl (fD U2) U79 A8 K8 c3 fun k2 a H E=>?_
   obtain ⟨k3,k4,k5,k6,k7,k8,rfl,h⟩:=lF H;clear H;have H:=h
   refine nt<|?_
   refine ⟨⟨_,_,H,(aB mm1 (aB mm2 (aL))),(aN)⟩,?_⟩
   refine aZ E rfl (wn rfl) rfl rfl (fun w hW=>(bD E rfl rfl)) fun a E=>aZ E rfl (wn rfl) rfl rfl (fun w hW=>(dK E rfl rfl rfl)) fun a E=>aZ E rfl (wn rfl) rfl rfl (fun w hW=>(dK E rfl rfl rfl)) fun a E=>cP rfl<|al E H rfl rfl rfl rfl iO fun k9 w a H E=>nt<|?_
   refine ⟨⟨_,_,H,(aB mm2 (aB mm3 (aL))),(aN)⟩,?_⟩
   refine cP rfl<|bC (i:=0) E H (wn rfl) rfl rfl rfl rfl rfl rfl bV rfl (bF H mm5 mm4 mm3 mm2 mm1 m0) fun w H=>nt<|?_
   refine ⟨⟨_,_,H,(aB mm2 (aB mm3 (aL))),(aN)⟩,?_⟩
   refine dA rfl<|pr 1 E rfl fun a E=>nt<|eV<|?_
   clear hI
   exact aD<|have H:=H.frs [4,1,2,3,4] rfl;X19 ⟨E.to rfl,H,(Y7 Y0),mm5,mm4,mm3,mm2,mm1,m0,hm⟩
  ·refine al E H rfl rfl rfl rfl iO fun l0 w a H E=>nt<|?_
   refine ⟨⟨_,_,H,(aB mm2 (aB mm3 (aL))),(aN)⟩,?_⟩
   refine cP rfl<|oD (i:=4) (K:=(kyI .i64)) E H (wn rfl) rfl rfl rfl rfl rfl rfl (fD U2) U79 A8 K8 c3 fun l1 a H E=>?_
   obtain ⟨l2,l3,l4,l5,l6,l7,rfl,h⟩:=lF H;clear H;have H:=h
   refine nt<|?_
   refine ⟨⟨_,_,H,(aB mm2 (aB mm3 (aL))),(aN)⟩,?_⟩
   refine aZ E rfl (wn rfl) rfl rfl (fun w hW=>(bD E rfl rfl)) fun a E=>aZ E rfl (wn rfl) rfl rfl (fun w hW=>(dK E rfl rfl rfl)) fun a E=>aZ E rfl (wn rfl) rfl rfl (fun w hW=>(dK E rfl rfl rfl)) fun a E=>cP rfl<|bC (i:=0) E H (wn rfl) rfl rfl rfl rfl rfl rfl bV rfl (bF H mm5 mm4 mm3 mm2 mm1 m0) fun w H=>nt<|?_
   refine ⟨⟨_,_,H,(aB mm2 (aB mm3 (aL))),(aN)⟩,?_⟩
   refine dA rfl<|pr 1 E rfl fun a E=>nt<|eV<|?_
   clear hI
   exact aD<|have H:=H.frs [4,1,2,3,4] rfl;X19 ⟨E.to rfl,H,(Y7 Y0),mm5,mm4,mm3,mm2,mm1,m0,hm⟩
 ·clear E H hm
  rintro a w ⟨d6,U,V,X,Y,Z,b0,d7,b1,b2,b3,b4,d8,d9,e0,e1,e2,e3,j,E,H,l,e4,e5,e6,e7,e8,e9,hm⟩
  unfold pQ at hm
  refine sq<|pr 1 E rfl fun a E=>nt<|wif E hm rfl (fun hm=>?_) fun hm=>?_
  ·refine sq<|sv E rfl rfl rfl (cD (i:=3) (us:=[.int .i64 b1,.int .i64 b2,.bool b3,.int .i64 b4,U,V,X,Y,Z,b0]) E H rfl rfl rfl rfl U36 rfl bV) fun a E=>bC (i:=2) E H (wn rfl) rfl rfl rfl rfl rfl rfl bV rfl (bF H e4 e5 e6 e7 e8 e9) fun w H=>nt<|wp_ret<|aP<|eC E rfl (dH (i:=2) (us:=[.int .i64 b1,.int .i64 b2,.bool b3,.int .i64 b4,U,V,X,Y,Z,b0]) H rfl rfl rfl U36 rfl bV)<|have H:=H.drs [1,1,1];?_
   cases hm
   exact X10 ⟨rfl,H.reads (aA e4 (aA e5 (aA e6 (aA e7 (aA e8 (aA e9 (aA (l _ b5) (aA (l _ b6) (aA (l _ b7) (aA (l _ b8) (l)))))))))))⟩
  ·refine wp_skip<|aD<|wp_seq<|aT (fun a w=>∃ f0 b9,Env 59 a [(0,pt p 0),(2,.func (.func 13) #[] #[]),(4,pt m 0),(6,pt x 0),(32,.bool f0)]∧Sep w (Blk p 82 [d4,d5,M,N,J,L,.map (some g),s,t]::Blk m 43 (aS x20 q F G I)::Blk x 36 bO::cC Tryz.prog 2 (kyI .i64) bI true g u::Fo) b9∧(∀ r,r ∈ rs→r ∈ b9)∧lY u x20 f8 f9 c1 c2 g0 g1 f0=some r) ?_ ?_
   ·refine wp_region_lit<|pr 1 E rfl fun a E=>lb E H 1 rfl rfl rfl rfl rfl rfl rfl U2 rfl fun a E=>pr 2 E rfl fun a E=>cs hm (fun k hm=>?_) fun k hm=>?_
    ·exact pk 3 E (kc 25 rfl k) rfl fun a E=>aQ E (ws' (d:=25) E rfl rfl rfl rfl k) rfl rfl (bT (i:=0) E H rfl rfl rfl rfl U79 rfl) fun a E=>aQ E (ws' (d:=25) E rfl rfl rfl rfl k) rfl rfl (F2 (i:=4) E H rfl rfl rfl U79) fun a E=>pk 2 E (kc 25 rfl k) rfl fun a E=>nt<|have H:=H.drop 3;⟨_,_,E.to rfl,H,l,hm⟩
    ·exact pk 7 E (kc 25 rfl k) rfl fun a E=>nt<|have H:=H.drop 3;⟨_,_,E.to rfl,H,l,hm⟩
   ·clear E H hm
    rintro a w ⟨f0,b9,E,H,e,hm⟩
    unfold lY at hm
    refine wif E hm rfl (fun hm=>?_) fun hm=>?_
    ·refine sq<|bd hm fun j4 i3 hm=>cJ E rfl rfl rfl rfl rfl xU (eS H i3)<|?_
     rintro _ w ⟨j5,j6,j7,j8,j9,k0,rfl,H⟩ a E
     refine bC (i:=2) E H (wn rfl) rfl rfl rfl rfl rfl rfl bV rfl (bF H m0 mm1 mm2 mm3 mm4 mm5) fun w H=>nt<|wp_ret<|aP<|eC E rfl (dH (i:=2) (us:=(bA j4 j5 j6 j7 j8 j9 k0)) H rfl rfl rfl U36 rfl bV)<|have H:=H.drs [1,1];?_
     cases hm
     exact X10 ⟨rfl,H.reads (aA m0 (aA mm1 (aA mm2 (aA mm3 (aA mm4 (aA mm5 (aA (t6 (e _ b5)) (aA (t6 (e _ b6)) (aA (t6 (e _ b7)) (aA (t6 (e _ b8)) (fun r hr=>(t6 (e r hr)))))))))))))⟩
    ·refine wp_skip<|aD<|sq<|pr 2 E rfl fun a E=>sv E rfl rfl rfl (cD (i:=1) (us:=(aS x20 q F G I)) E H rfl rfl rfl rfl U43 rfl G4) fun a E=>bd hm fun b i4 hm=>aX E (wn rfl) rfl rfl (bP E rfl rfl rfl (KW _)) (Cq H (e _ b5) (e _ b6) (e _ g9) (e _ i0) (e _ b7) (e _ b8) (e _ i1) (e _ i2) i4)<|?_
     rintro _ w ⟨y,z,A,B,C,D,c4,c5,c6,c7,rfl,H⟩ a E
     refine al E H rfl rfl rfl rfl iO fun c8 w a H E=>bC (i:=0) E H (wn rfl) rfl rfl rfl rfl rfl rfl bV rfl (bF H m0 mm1 mm2 mm3 mm4 mm5) fun w H=>nt<|aT (fun a w=>∃ f1 f,Env 59 a [(6,pt x 0),(9,pt c8 0)]∧Sep w (Blk x 36 bO::Blk c8 36 (bA b.1 y z A B C D)::Blk p 82 [c4,c5,M,N,c6,c7,.map (some g),s,t]::cC Tryz.prog 2 (kyI .i64) bI true g f1::Fo) f∧(∀ r,r ∈ rs→r ∈ f)∧rSl bE y b.1.Results ∈ f∧rSl aG z b.1.Store.Nodes ∈ f∧rSl aK A b.1.Store.Turns ∈ f∧rSl aU B b.1.Events ∈ f∧rSl bN C b.1.Mounts ∈ f∧rSl (kI .i64) D b.1.Wounded ∈ f∧rSl aG c4 b.2.1 ∈ f∧rSl aK c5 b.2.2.1 ∈ f∧rSl aY c6 b.2.2.2.1 ∈ f∧rSl aO c7 b.2.2.2.2 ∈ f∧lX b f1=some r) ?_ ?_
     ·refine aT (fun a w=>∃ c0 c,Env 59 a [(0,pt p 0),(4,pt m 0),(6,pt x 0),(9,pt c8 0),(50,.bool c0)]∧Sep w (Blk p 82 [c4,c5,M,N,c6,c7,.map (some g),s,t]::Blk m 43 (aS x20 q F G I)::Blk x 36 bO::Blk c8 36 (bA b.1 y z A B C D)::cC Tryz.prog 2 (kyI .i64) bI true g u::Fo) c∧(∀ r,r ∈ rs→r ∈ c)∧rSl aG c4 b.2.1 ∈ c∧rSl aK c5 b.2.2.1 ∈ c∧rSl aY c6 b.2.2.2.1 ∈ c∧rSl aO c7 b.2.2.2.2 ∈ c∧rSl bE y b.1.Results ∈ c∧rSl aG z b.1.Store.Nodes ∈ c∧rSl aK A b.1.Store.Turns ∈ c∧rSl aU B b.1.Events ∈ c∧rSl bN C b.1.Mounts ∈ c∧rSl (kI .i64) D b.1.Wounded ∈ c∧jK b u x20 c0=some r) ?_ ?_
      ·refine wp_region_lit<|pr 1 E rfl fun a E=>lb E H 2 rfl rfl rfl rfl rfl rfl rfl U2 rfl fun a E=>pr 2 E rfl fun a E=>cs hm (fun n hm=>?_) fun n hm=>?_
       ·refine pk 1 E (kc 41 rfl n) rfl fun a E=>aQ E (ws' (d:=41) E rfl rfl rfl rfl n) rfl rfl (bT (i:=0) E H rfl rfl rfl rfl U26 rfl) fun a E=>pk 3 E (kc 41 rfl n) rfl fun a E=>cs hm (fun o hm=>?_) fun o hm=>?_
        ·exact pk 1 E (kc 46 rfl o) rfl fun a E=>aQ E (ws' (d:=46) E rfl rfl rfl rfl o) rfl rfl (bT (i:=0) E H rfl rfl rfl rfl U26 rfl) fun a E=>pk 2 E (kc 46 rfl o) rfl fun a E=>nt<|have H:=H.frs [4,1,4,4,4] rfl;⟨_,_,E.to rfl,H,(Y2 (Y8 e)),mm6,(t1 mm6),(t2 mm6),(t3 mm6),m0,mm1,mm2,mm3,mm4,mm5,hm⟩
        ·exact pk 4 E (kc 46 rfl o) rfl fun a E=>nt<|have H:=H.frs [4,1,4,4,4] rfl;⟨_,_,E.to rfl,H,(Y2 (Y8 e)),mm6,(t1 mm6),(t2 mm6),(t3 mm6),m0,mm1,mm2,mm3,mm4,mm5,hm⟩
       ·exact pk 9 E (kc 41 rfl n) rfl fun a E=>nt<|have H:=H.frs [4,1,4,4,4] rfl;⟨_,_,E.to rfl,H,(Y2 (Y8 e)),mm6,(t1 mm6),(t2 mm6),(t3 mm6),m0,mm1,mm2,mm3,mm4,mm5,hm⟩
      ·clear E H hm
       rintro a w ⟨c0,c,E,H,c9,d0,d1,d2,d3,O,P,Q,R,S,T,hm⟩
       unfold jK at hm
       refine wif E hm rfl (fun hm=>?_) fun hm=>?_
       ·refine dw [(0,0),(1,0),(2,0),(3,0),(4,0),(5,0),(6,0),(7,2)] [0,1,3] [] H (by kernel_rfl) (fun _ _ _ h=>False.elim h.2) fun w W0 hI H=>fn 3 E rfl fun a E=>fb E rfl (wn rfl) rfl rfl rfl rfl m0 rfl U79 rfl fun a E=>fn 1 E rfl fun a E=>fb E rfl (wn rfl) rfl rfl rfl rfl mm1 rfl U2 rfl fun a E=>fbn E (bA b.1 y z A B C D) rfl (wn rfl) rfl rfl rfl rfl mm2 rfl U36 rfl bV fun a E=>bQ rfl<|bd hm fun l8 g2 hm=>C9 (i:=4) (K:=(kyI .i64)) (v:=b.1) (cs:=[.int .i64 b.1.Err,.int .i64 b.1.At,.bool b.1.Yes,.int .i64 b.1.Epoch,y,z,A,B,C,D]) E H (wn rfl) rfl rfl rfl rfl rfl rfl (fD U2) U79 g2 (fun ok hr=>(oF (hr _ O) (hr _ P) (hr _ Q) (hr _ R) (hr _ S) (hr _ T))) fun w H=>?_
        refine nt<|bR<|?_
        clear hI
        exact aD<|have H:=H.drop 1;have H:=H.frs [3,1,3,3] rfl;⟨_,_,E.to rfl,H,c9,O,P,Q,R,S,T,d0,d1,d2,d3,hm⟩
       ·exact wp_skip<|aD<|have H:=H.drop 1;have H:=H.frs [3,1,3,3] rfl;⟨_,_,E.to rfl,H,c9,O,P,Q,R,S,T,d0,d1,d2,d3,hm⟩
     ·clear E H hm
      rintro a w ⟨f1,f,E,H,i5,f2,f3,f4,f5,f6,f7,i6,g3,g4,g5,hm⟩
      unfold lX at hm
      refine sq<|sv E rfl rfl rfl (cD (i:=1) (us:=(bA b.1 y z A B C D)) E H rfl rfl rfl rfl U36 rfl bV) fun a E=>bC (i:=0) E H (wn rfl) rfl rfl rfl rfl rfl rfl bV rfl (bF H f2 f3 f4 f5 f6 f7) fun w H=>nt<|wp_ret<|eC E rfl (dH (i:=0) (us:=(bA b.1 y z A B C D)) H rfl rfl rfl U36 rfl bV)<|have H:=H.drs [0,0];?_
      cases hm
      exact X10 ⟨rfl,H.reads (aA f2 (aA f3 (aA f4 (aA f5 (aA f6 (aA f7 (aA i6 (aA g3 (aA g4 (aA g5 (i5)))))))))))⟩

def sQ(x1:Int):Option Bool:=
  if (decide (x1 ≥ 0))=true then (some (decide (x1 ≤ 281474976710656))) else (some (false))
theorem s1{x1:Int}(H:Sep w (Fo) rs){r:Bool}(hm:sQ x1=some r) :
    Calls Tryz.prog 97 [.int .i64 x1].toArray w (Ret fun v w'=>.bool r=v∧Sep w' (Fo) (rs)):=by
 unfold sQ at hm
 refine ent Tryz.func97 rfl Tryz.ntmps97 rfl rfl fun a E=>sq<|pr 1 E rfl fun a E=>nx<|pr 3 E rfl fun a E=>cs hm (fun b hm=>?_) fun b hm=>?_
 ·refine pk 4 E (kc 5 rfl b) rfl fun a E=>nt<|wp_ret<|bB E rfl rfl<|?_
  cases hm
  exact ⟨rfl,H.reads Y0⟩
 ·refine pk 4 E (kc 5 rfl b) rfl fun a E=>nt<|wp_ret<|bB E rfl rfl<|?_
  cases hm
  exact ⟨rfl,H.reads Y0⟩

def iQ(rec_1:Int→(List ((Int)×Int))→Option Bool)(e:(List ((Int)×Int)))(b:aM)(f:Int)(c:Bool):Option Bool:=
  if c=true then (some (false)) else ((mpt (kyI .i64) e b.Txn b.Age).bind fun d=>rec_1 (IntKind.i64.wrap (f+1)) d)
def gD(d:List aM):Nat→Int→(List ((Int)×Int))→Option Bool
  | 0,_,_=>none
  | f+1,c,e=>
    if (decide (c < (d.length:Int)))=true then ((idx d c).bind fun b=>(mlk (kyI .i64) e b.Txn).bind fun g=>(eP b.Dir).bind fun i=>if (!i)=true then (iQ (gD d f) e b c true) else ((sQ b.Txn).bind fun j=>if (!j)=true then (iQ (gD d f) e b c true) else ((sQ b.Age).bind fun k=>if (!k)=true then (iQ (gD d f) e b c true) else (if g.isSome=true then (if ((g.getD 0) != b.Age)=true then (iQ (gD d f) e b c true) else (if (decide (c > 0))=true then ((idx d (IntKind.i64.wrap (c - 1))).bind fun l=>iQ (gD d f) e b c (!(sLt l.Dir b.Dir))) else (iQ (gD d f) e b c false))) else (if (decide (c > 0))=true then ((idx d (IntKind.i64.wrap (c - 1))).bind fun m=>iQ (gD d f) e b c (!(sLt m.Dir b.Dir))) else (iQ (gD d f) e b c false)))))) else (some (true))
def I1(b:List aM):Option Bool:=
  gD b (((b.length:Int) - 0:Int).toNat+1) 0 []
theorem Je{s:Value}{o:List aM}(H:Sep w (Fo) rs)(t:rSl bG s o ∈ rs){r:Bool}(hm:I1 o=some r) :
    Calls Tryz.prog 96 [s].toArray w (Ret fun v w'=>.bool r=v∧Sep w' (Fo) (rs)):=by
 unfold I1 at hm
 refine ent Tryz.func96 rfl Tryz.ntmps96 rfl rfl fun a E=>sq<|pr 1 E rfl fun a E=>nx<|xN (k:=2) (K:=(kyI .i64)) (d:=(kI .i64)) (g:=false) E H (wn rfl) rfl rfl rfl fun C w a H E=>pr 1 E rfl fun a E=>nt<|wp_seq<|sq<|?_
 refine pr 1 E rfl fun a E=>sv E rfl rfl rfl (dB E H rfl rfl t U56) fun a E=>pr 1 E rfl fun a E=>nt<|wp_block<|cA (fun p a w=>∃ x y z,Env 69 a [(0,s),(3,.map (some C)),(9,s),(10,.int .i64 (o.length:Int)),(11,.int .i64 x)]∧Sep w (cC Tryz.prog 2 (kyI .i64) (kI .i64) false C y::Fo) z∧(∀ r,r ∈ rs→r ∈ z)∧gD o p x y=some r) (((o.length:Int) - 0:Int).toNat+1) ?_ ?_
 ·exact X3 ⟨E.to rfl,H,Y0,hm⟩
 ·clear E H hm
  rintro p a w ⟨x,y,z,E,H,e,hm⟩
  cases p with
  | zero=>exact (bW hm rfl).elim
  | succ p=>
   unfold gD at hm
   refine sq<|pr 1 E rfl fun a E=>nt<|wp_seq<|wif E hm rfl (fun hm=>?_) fun hm=>?_
   ·refine wp_skip<|aD<|wp_seq<|wp_block<|sq<|pr 1 E rfl fun a E=>bd hm fun F G hm=>dF E H (wn rfl) rfl rfl rfl rfl rfl (e _ t) U56 mU G fun q11 a H E=>ldf fN E H rfl rfl rfl rfl rfl m0 U89 rfl mU fun a E=>?_
    refine al E H rfl rfl rfl rfl Vl fun D w a H E=>pr 1 E rfl fun a E=>bC (i:=0) E H (wn rfl) rfl rfl rfl rfl rfl rfl mU rfl rfl fun w H=>nx<|pr 2 E rfl fun a E=>lb E H 0 rfl rfl rfl rfl rfl rfl rfl U2 rfl fun a E=>bd hm fun X I hm=>sv E rfl rfl rfl (Yt (i:=1) (K:=(kyI .i64)) (z0:=0) (u:=X) E H rfl rfl rfl rfl (fD U2) EE MB I) fun a E=>pr 5 E rfl fun a E=>?_
    refine nt<|wp_seq<|aT (fun a w=>∃ A q,Env 69 a [(0,s),(3,.map (some C)),(5,pt D 0),(9,s),(10,.int .i64 (o.length:Int)),(11,.int .i64 x),(62,.bool A)]∧Sep w (cC Tryz.prog 2 (kyI .i64) (kI .i64) false C y::Blk D 89 (qF F)::Fo) q∧(∀ r,r ∈ rs→r ∈ q)∧iQ (gD o p) y F x A=some r) ?_ ?_
    ·obtain ⟨Y,H⟩:=H.raw (t1 (e _ t))
     refine dw [(0,0),(1,0),(2,1),(3,0),(4,0),(5,0),(6,0),(7,1),(8,0),(9,0),(10,0),(11,0),(12,0),(13,1),(14,0),(15,0),(16,0),(17,0),(18,0),(19,0),(20,0),(21,0),(22,0),(23,0),(24,0),(25,0),(26,0),(27,0),(28,0),(29,0),(30,0),(31,0),(32,0),(33,0),(34,0),(35,0),(36,0),(37,0),(38,0),(39,0)] [0] [0] H (by kernel_rfl) (fun _ _ _ h=>False.elim h.2) fun w W0 hI H=>fn 1 E rfl fun a E=>fb E rfl (wn rfl) rfl rfl rfl rfl m0 rfl U9 rfl fun a E=>cE rfl<|bd hm fun Z J hm=>xk E rfl rfl rfl rfl rfl A7 (iI H J) fun w H a E=>nt<|?_
     refine ⟨⟨_,_,H,(aB m0 (aL)),(aA m0 (aN))⟩,?_⟩
     refine fn 2 E rfl fun a E=>cs hm (fun f hm=>?_) fun f hm=>?_
     ·refine fk 2 E (kc 27 rfl f) rfl fun a E=>cE rfl<|pk 1 E (kc 27 rfl f) rfl fun a E=>nt<|?_
      refine ⟨⟨_,_,H,(aB m0 (aL)),(aA m0 (aN))⟩,?_⟩
      refine fk 5 E (kc 27 rfl f) rfl fun a E=>cE rfl<|pr 1 E rfl fun a E=>nt<|?_
      refine ⟨⟨_,_,H,(aB m0 (aL)),(aA m0 (aN))⟩,?_⟩
      refine fn 26 E rfl fun a E=>bR<|?_
      clear hI
      exact aD<|have H:=H.frs [0,1] rfl;⟨_,_,E.to rfl,H,(Y2 e),hm⟩
     ·refine fk 1 E (kc 27 rfl f) rfl fun a E=>fb E rfl (ws' (d:=27) E rfl rfl rfl rfl f) rfl rfl rfl rfl m0 rfl U2 rfl fun a E=>cE rfl<|bd hm fun b0 L hm=>aX E (ws' (d:=27) E rfl rfl rfl rfl f) rfl rfl (cG E rfl rfl (Qf _)) (s1 H L)<|?_
      rintro _ w ⟨rfl,H⟩ a E
      refine nt<|?_
      refine ⟨⟨_,_,H,(aB m0 (aL)),(aA m0 (aN))⟩,?_⟩
      refine fk 3 E (kc 27 rfl f) rfl fun a E=>cs hm (fun j hm=>?_) fun j hm=>?_
      ·refine fk 2 E (kc 33 rfl j) rfl fun a E=>cE rfl<|pk 1 E (kc 33 rfl j) rfl fun a E=>nt<|?_
       refine ⟨⟨_,_,H,(aB m0 (aL)),(aA m0 (aN))⟩,?_⟩
       refine fk 26 E (kc 33 rfl j) rfl fun a E=>bR<|?_
       clear hI
       exact aD<|have H:=H.frs [0,1] rfl;⟨_,_,E.to rfl,H,(Y2 e),hm⟩
      ·refine fk 1 E (kc 33 rfl j) rfl fun a E=>fb E rfl (ws' (d:=33) E rfl rfl rfl rfl j) rfl rfl rfl rfl m0 rfl U2 rfl fun a E=>cE rfl<|bd hm fun b1 M hm=>aX E (ws' (d:=33) E rfl rfl rfl rfl j) rfl rfl (cG E rfl rfl (Qf _)) (s1 H M)<|?_
       rintro _ w ⟨rfl,H⟩ a E
       refine nt<|?_
       refine ⟨⟨_,_,H,(aB m0 (aL)),(aA m0 (aN))⟩,?_⟩
       refine fk 3 E (kc 33 rfl j) rfl fun a E=>cs hm (fun l hm=>?_) fun l hm=>?_
       ·refine fk 23 E (kc 39 rfl l) rfl fun a E=>bR<|?_
        clear hI
        exact aD<|have H:=H.frs [0,1] rfl;⟨_,_,E.to rfl,H,(Y2 e),hm⟩
       ·refine fk 2 E (kc 39 rfl l) rfl fun a E=>cs hm (fun m hm=>?_) fun m hm=>?_
        ·refine fk 2 E (kc 41 rfl m) rfl fun a E=>fb E rfl (ws' (d:=41) E rfl rfl rfl rfl m) rfl rfl rfl rfl m0 rfl U2 rfl fun a E=>fk 4 E (kc' (kc 41 rfl m) 39 rfl l) rfl fun a E=>cs hm (fun n hm=>?_) fun n hm=>?_
         ·refine fk 14 E (kc 48 rfl n) rfl fun a E=>bR<|?_
          clear hI
          exact aD<|have H:=H.frs [0,1] rfl;⟨_,_,E.to rfl,H,(Y2 e),hm⟩
         ·refine fk 3 E (kc 48 rfl n) rfl fun a E=>cs hm (fun b hm=>?_) fun b hm=>?_
          ·refine fk 3 E (kc 51 rfl b) rfl fun a E=>bd hm fun b2 N hm=>?_
           obtain ⟨q35,b3,O,Q⟩:=sW (P:=Tryz.prog) (k:=.i64) hI (sV (.head _)) U56 mU N
           refine cB E rfl (ws' (d:=51) E rfl rfl rfl rfl b) rfl rfl (fun w hW=>wF E rfl rfl rfl (O w)) fun a E=>?_
           have R:=yX Q (fun _ _ _ h=>R4 h)
           refine fk 1 E (kc 51 rfl b) rfl fun a E=>fa E rfl (ws' (d:=51) E rfl rfl rfl rfl b) rfl rfl rfl rfl R U9 rfl fun a E=>fk 1 E (kc 51 rfl b) rfl fun a E=>fb E rfl (ws' (d:=51) E rfl rfl rfl rfl b) rfl rfl rfl rfl m0 rfl U9 rfl fun a E=>fk 3 E (kc' (kc 51 rfl b) 48 rfl n) rfl fun a E=>bR<|?_
           clear hI
           exact aD<|have H:=H.frs [0,1] rfl;⟨_,_,E.to rfl,H,(Y2 e),hm⟩
          ·refine fk 11 E (kc' (kc 51 rfl b) 48 rfl n) rfl fun a E=>bR<|?_
           clear hI
           exact aD<|have H:=H.frs [0,1] rfl;⟨_,_,E.to rfl,H,(Y2 e),hm⟩
        ·refine fk 10 E (kc' (kc 41 rfl m) 39 rfl l) rfl fun a E=>cs hm (fun c hm=>?_) fun c hm=>?_
         ·refine fk 3 E (kc 51 rfl c) rfl fun a E=>bd hm fun b4 S hm=>?_
          obtain ⟨q43,b5,T,U⟩:=sW (P:=Tryz.prog) (k:=.i64) hI (sV (.head _)) U56 mU S
          refine cB E rfl (ws' (d:=51) E rfl rfl rfl rfl c) rfl rfl (fun w hW=>wF E rfl rfl rfl (T w)) fun a E=>?_
          have V:=yX U (fun _ _ _ h=>R4 h)
          refine fk 1 E (kc 51 rfl c) rfl fun a E=>fa E rfl (ws' (d:=51) E rfl rfl rfl rfl c) rfl rfl rfl rfl V U9 rfl fun a E=>fk 1 E (kc 51 rfl c) rfl fun a E=>fb E rfl (ws' (d:=51) E rfl rfl rfl rfl c) rfl rfl rfl rfl m0 rfl U9 rfl fun a E=>fk 3 E (kc 51 rfl c) rfl fun a E=>bR<|?_
          clear hI
          exact aD<|have H:=H.frs [0,1] rfl;⟨_,_,E.to rfl,H,(Y2 e),hm⟩
         ·refine fk 11 E (kc 51 rfl c) rfl fun a E=>bR<|?_
          clear hI
          exact aD<|have H:=H.frs [0,1] rfl;⟨_,_,E.to rfl,H,(Y2 e),hm⟩
    ·clear E H hm
     rintro a w ⟨A,q,E,H,B,hm⟩
     unfold iQ at hm
     refine wif E hm rfl (fun hm=>?_) fun hm=>?_
     ·refine sq<|pr 1 E rfl fun a E=>nt<|wp_ret<|aP<|bU<|aP<|aP<|bU<|?_
      refine aP<|bB E rfl rfl<|have H:=H.drs [0,0];?_
      cases hm
      exact ⟨rfl,H.reads B⟩
     ·refine wp_skip<|aD<|wp_region_lit<|pr 2 E rfl fun a E=>lb E H 1 rfl rfl rfl rfl rfl rfl rfl U2 rfl fun a E=>pr 1 E rfl fun a E=>lb E H 1 rfl rfl rfl rfl rfl rfl rfl U2 rfl fun a E=>bd hm fun b6 W hm=>Nq (i:=0) (K:=(kyI .i64)) (v:=F.Age) E H (wn rfl) rfl rfl rfl rfl rfl rfl (fD U2) EE W fun w H=>?_
      exact wpList_nil<|bY<|aD<|wp_region_lit<|pr 2 E rfl fun a E=>nt<|have H:=H.drop 1;⟨p,Nat.lt_succ_self p,X3 ⟨E.to rfl,H,B,hm⟩⟩
   ·refine wp_exit<|bH<|bH<|dZ<|aD<|sq<|pr 1 E rfl fun a E=>nt<|wp_ret<|?_
    refine bB E rfl rfl<|have H:=H.drop 0;?_
    cases hm
    exact ⟨rfl,H.reads e⟩

def lS(b:List ((Int)×Int)):Option Unit:=
  some ()
theorem s2{c:Nat}{d:List ((Int)×Int)}(H:Sep w (cC Tryz.prog 2 (kyI .i64) (kI .i64) false c d::Fo) rs){r:Unit}(hm:lS d=some r) :
    Calls Tryz.prog 101 [.map (some c)].toArray w (Ret fun v w'=>∃ b,.func (.func 154) #[] #[pt b 0]=v∧Sep w' (Blk b 157 [.map (some c)]::cC Tryz.prog 2 (kyI .i64) (kI .i64) false c d::Fo) (rs)):=by
 unfold lS at hm
 refine ent Tryz.func101 rfl Tryz.ntmps101 rfl rfl fun a E=>sq<|bS E H (wn rfl) rfl rfl rfl rfl rfl fun e w a H E=>pr 1 E rfl fun a E=>nx<|sv E rfl rfl rfl (kH E rfl rfl rfl) fun a E=>pr 1 E rfl fun a E=>nt<|wp_ret<|?_
 refine bB E rfl rfl<|?_
 cases hm
 exact ⟨_,rfl,H.reads Y0⟩

def s3(x1:aM)(b:ByteArray):Option Int:=
  (mA x1.Dir b).bind fun c=>some (c)
theorem T1{x1:aM}{b:ByteArray}(H:Sep w (Fo) rs){r:Int}(hm:s3 x1 b=some r) :
    Calls Tryz.prog 103 [.agg (qF x1).toArray,.string b].toArray w (Ret fun v w'=>.int .i64 r=v∧Sep w' (Fo) (rs)):=by
 unfold s3 at hm
 refine ent Tryz.func103 rfl Tryz.ntmps103 rfl rfl fun a E=>sq<|bS E H (wn rfl) rfl rfl rfl rfl rfl fun d w a H E=>pr 1 E rfl fun a E=>nx<|pr 1 E rfl fun a E=>lb E H 0 rfl rfl rfl rfl rfl rfl rfl U9 rfl fun a E=>pr 1 E rfl fun a E=>bd hm fun e c hm=>?_
 refine xk E rfl rfl rfl rfl rfl Lg (rS H c) fun w H a E=>pr 1 E rfl fun a E=>nt<|wp_ret<|bB E rfl rfl<|have H:=H.drop 0;?_
 cases hm
 exact ⟨rfl,H.reads Y0⟩

def dT(c:List aM)(e:ByteArray):Nat→Int→Int→Option (Int×Bool)
  | 0,_,_=>none
  | f+1,b,d=>
    if (decide (b < d))=true then ((idx c (IntKind.i64.wrap (rM .u64 (IntKind.u64.wrap (IntKind.i64.wrap (b+d))) 1))).bind fun k=>(s3 k e).bind fun g=>if (decide (g < 0))=true then (dT c e f (IntKind.i64.wrap ((IntKind.i64.wrap (rM .u64 (IntKind.u64.wrap (IntKind.i64.wrap (b+d))) 1))+1)) d) else (dT c e f b (IntKind.i64.wrap (rM .u64 (IntKind.u64.wrap (IntKind.i64.wrap (b+d))) 1)))) else (if (decide (b < (c.length:Int)))=true then ((idx c b).bind fun i=>(s3 i e).bind fun j=>some (b,j == 0)) else (some (b,false)))
def gQ(b:List aM)(c:ByteArray):Option (Int×Bool):=
  dT b c (((b.length:Int) - 0:Int).toNat+1) 0 (b.length:Int)
theorem sE{j:Value}{e:List aM}{p:ByteArray}(H:Sep w (Row 89 bG j e::Fo) rs){r:Int×Bool}(hm:gQ e p=some r) :
    Calls Tryz.prog 102 [j,.string p,.func (.func 103) #[] #[]].toArray w (Ret fun v w'=>.tuple #[.int .i64 r.1,.bool r.2]=v∧Sep w' (Row 89 bG j e::Fo) (rs)):=by
 unfold gQ at hm
 refine ent Tryz.func102 rfl Tryz.ntmps102 rfl rfl fun a E=>sq<|pr 2 E rfl fun a E=>nx<|pr 1 E rfl fun a E=>sv E rfl rfl rfl (lC (i:=0) E H rfl rfl rfl U56) fun a E=>pr 1 E rfl fun a E=>nx<|pr 3 E rfl fun a E=>?_
 refine nt<|wp_seq<|wp_block<|cA (fun c a w=>∃ q s k,Env 49 a [(0,j),(1,.string p),(2,.func (.func 103) #[] #[]),(8,.int .i64 (e.length:Int)),(9,.int .i64 q),(10,.int .i64 s)]∧Sep w (Row 89 bG j e::Fo) k∧(∀ r,r ∈ rs→r ∈ k)∧dT e p c q s=some r) (((e.length:Int) - 0:Int).toNat+1) ?_ ?_
 ·exact X3 ⟨E.to rfl,H,Y0,hm⟩
 ·clear E H hm
  rintro c a w ⟨q,s,k,E,H,g,hm⟩
  cases c with
  | zero=>exact (bW hm rfl).elim
  | succ c=>
   unfold dT at hm
   refine wp_seq<|sq<|pr 3 E rfl fun a E=>nt<|wif E hm rfl (fun hm=>?_) fun hm=>?_
   ·refine wp_skip<|aD<|wp_block<|sq<|pr 4 E rfl fun a E=>sv E rfl rfl rfl (T5 E rfl rfl rfl (by decide)) fun a E=>pr 2 E rfl fun a E=>nx<|pr 3 E rfl fun a E=>?_
    refine bd hm fun t l hm=>?_
    obtain ⟨y,z,m⟩:=H.rowformNE (i:=0) rfl l
    refine sv E rfl rfl rfl (dL (d:=bG) E m rfl rfl rfl rfl U56 mU l) fun a E=>sv E rfl rfl rfl (iF (i:=0) E H fN m rfl rfl rfl l (us:=[.string t.Dir,.int .i64 t.Txn,.int .i64 t.Age]) rfl U89 rfl mU) fun a E=>pr 1 E rfl fun a E=>bd hm fun A u hm=>aX E (wn rfl) rfl rfl (bP E rfl rfl rfl (Xx _)) (T1 H u)<|?_
    rintro _ w ⟨rfl,H⟩ a E
    refine pr 1 E rfl fun a E=>nt<|wif E hm rfl (fun hm=>?_) fun hm=>?_
    ·exact wp_region_lit<|pr 3 E rfl fun a E=>wpList_nil<|bY<|aD<|⟨c,Nat.lt_succ_self c,X3 ⟨E.to rfl,H,g,hm⟩⟩
    ·exact wp_region_lit<|pr 2 E rfl fun a E=>wpList_nil<|bY<|aD<|⟨c,Nat.lt_succ_self c,X3 ⟨E.to rfl,H,g,hm⟩⟩
   ·refine wp_exit<|bH<|bH<|dZ<|aD<|sq<|pr 5 E rfl fun a E=>cs hm (fun b hm=>?_) fun b hm=>?_
    ·refine pk 3 E (kc 39 rfl b) rfl fun a E=>bd hm fun n f hm=>?_
     obtain ⟨B,C,o⟩:=H.rowformNE (i:=0) rfl f
     refine aQ E (ws' (d:=39) E rfl rfl rfl rfl b) rfl rfl (dL (d:=bG) E o rfl rfl rfl rfl U56 mU f) fun a E=>aQ E (ws' (d:=39) E rfl rfl rfl rfl b) rfl rfl (iF (i:=0) E H fN o rfl rfl rfl f (us:=[.string n.Dir,.int .i64 n.Txn,.int .i64 n.Age]) rfl U89 rfl mU) fun a E=>pk 1 E (kc 39 rfl b) rfl fun a E=>bd hm fun D x hm=>aX E (ws' (d:=39) E rfl rfl rfl rfl b) rfl rfl (bP E rfl rfl rfl (Xx _)) (T1 H x)<|?_
     rintro _ w ⟨rfl,H⟩ a E
     refine pk 4 E (kc 39 rfl b) rfl fun a E=>nt<|wp_ret<|iE E rfl rfl rfl<|?_
     cases hm
     exact ⟨rfl,H.reads g⟩
    ·refine pk 11 E (kc 39 rfl b) rfl fun a E=>nt<|wp_ret<|iE E rfl rfl rfl<|?_
     cases hm
     exact ⟨rfl,H.reads g⟩

def D8(x1:aM)(x3:Int)(b:Int):Option Bool:=
  if (x1.Txn == x3)=true then (some (x1.Age != b)) else (some (false))
theorem Hi{x1:aM}{c e:Nat}{x3 f:Int}(H:Sep w (Blk c 2 [.int .i64 x3]::Blk e 2 [.int .i64 f]::Fo) rs){r:Bool}(hm:D8 x1 x3 f=some r) :
    Calls Tryz.prog 95 [.agg (qF x1).toArray,pt c 0,pt e 0].toArray w (Ret fun v w'=>.bool r=v∧Sep w' (Blk c 2 [.int .i64 x3]::Blk e 2 [.int .i64 f]::Fo) (rs)):=by
 unfold D8 at hm
 refine ent Tryz.func95 rfl Tryz.ntmps95 rfl rfl fun a E=>sq<|bS E H (wn rfl) rfl rfl rfl rfl rfl fun g w a H E=>pr 1 E rfl fun a E=>nx<|pr 1 E rfl fun a E=>lb E H 0 rfl rfl rfl rfl rfl rfl rfl U2 rfl fun a E=>lb E H 1 rfl rfl rfl rfl rfl rfl rfl U2 rfl fun a E=>pr 2 E rfl fun a E=>cs hm (fun b hm=>?_) fun b hm=>?_
 ·refine pk 1 E (kc 9 rfl b) rfl fun a E=>aQ E (ws' (d:=9) E rfl rfl rfl rfl b) rfl rfl (bT (i:=0) E H rfl rfl rfl rfl U2 rfl) fun a E=>aQ E (ws' (d:=9) E rfl rfl rfl rfl b) rfl rfl (bT (i:=2) E H rfl rfl rfl rfl U2 rfl) fun a E=>pk 3 E (kc 9 rfl b) rfl fun a E=>nt<|wp_ret<|bB E rfl rfl<|have H:=H.drop 0;?_
  cases hm
  exact ⟨rfl,H.reads Y0⟩
 ·refine pk 6 E (kc 9 rfl b) rfl fun a E=>nt<|wp_ret<|bB E rfl rfl<|have H:=H.drop 0;?_
  cases hm
  exact ⟨rfl,H.reads Y0⟩

def gJ(c:List aM)(d:Int)(e:Int):Nat→Int→Option Int
  | 0,_=>none
  | i+1,b=>
    if (decide (b < (c.length:Int)))=true then ((idx c b).bind fun f=>(D8 f d e).bind fun g=>if g=true then (some (b)) else (gJ c d e i (IntKind.i64.wrap (b+1)))) else (some ((-1)))
def kG(b:List aM)(c:Int)(d:Int):Option Int:=
  gJ b c d (((b.length:Int) - 0:Int).toNat+1) 0
theorem yJ{l:Value}{d:List aM}{e f:Nat}{g i:Int}(H:Sep w (Blk e 2 [.int .i64 g]::Blk f 2 [.int .i64 i]::Fo) rs)(k:rSl bG l d ∈ rs){r:Int}(hm:kG d g i=some r) :
    Calls Tryz.prog 87 [l,.func (.func 95) #[] #[pt e 0,pt f 0]].toArray w (Ret fun v w'=>.int .i64 r=v∧Sep w' (Blk e 2 [.int .i64 g]::Blk f 2 [.int .i64 i]::Fo) (rs)):=by
 unfold kG at hm
 refine ent Tryz.func87 rfl Tryz.ntmps87 rfl rfl fun a E=>sq<|pr 1 E rfl fun a E=>nt<|wp_seq<|sq<|pr 1 E rfl fun a E=>sv E rfl rfl rfl (dB E H rfl rfl k U56) fun a E=>pr 1 E rfl fun a E=>?_
 refine nt<|wp_block<|cA (fun c a w=>∃ m j,Env 19 a [(0,l),(1,.func (.func 95) #[] #[pt e 0,pt f 0]),(7,.int .i64 (d.length:Int)),(8,.int .i64 m)]∧Sep w (Blk e 2 [.int .i64 g]::Blk f 2 [.int .i64 i]::Fo) j∧(∀ r,r ∈ rs→r ∈ j)∧gJ d g i c m=some r) (((d.length:Int) - 0:Int).toNat+1) ?_ ?_
 ·exact ⟨_,_,E.to rfl,H,Y0,hm⟩
 ·clear E H hm
  rintro c a w ⟨m,j,E,H,b,hm⟩
  cases c with
  | zero=>exact (bW hm rfl).elim
  | succ c=>
   unfold gJ at hm
   refine sq<|pr 1 E rfl fun a E=>nt<|wp_seq<|wif E hm rfl (fun hm=>?_) fun hm=>?_
   ·refine wp_skip<|aD<|wp_seq<|wp_block<|sq<|pr 2 E rfl fun a E=>nx<|pr 3 E rfl fun a E=>bd hm fun p n hm=>?_
    refine dF E H (wn rfl) rfl rfl rfl rfl rfl (b _ k) U56 mU n fun q13 a H E=>ldf fN E H rfl rfl rfl rfl rfl m0 U89 rfl mU fun a E=>bd hm fun q o hm=>aX E (wn rfl) rfl rfl (bP E rfl rfl rfl (LZ _)) (Hi H o)<|?_
    rintro _ w ⟨rfl,H⟩ a E
    refine nt<|wif E hm rfl (fun hm=>?_) fun hm=>?_
    ·refine sq<|pr 2 E rfl fun a E=>nt<|wp_ret<|bU<|aP<|aP<|bU<|aP<|?_
     refine bB E rfl rfl<|?_
     cases hm
     exact ⟨rfl,H.reads (Y1 b)⟩
    ·exact wp_skip<|bY<|aD<|wp_region_lit<|pr 2 E rfl fun a E=>nt<|⟨c,Nat.lt_succ_self c,_,_,E.to rfl,H,(Y1 b),hm⟩
   ·refine wp_exit<|bH<|bH<|dZ<|aD<|sq<|pr 1 E rfl fun a E=>nt<|wp_ret<|?_
    refine bB E rfl rfl<|?_
    cases hm
    exact ⟨rfl,H.reads b⟩

def jG(b:List aM)(c:Int)(d:Int):Option Bool:=
  (kG b c d).bind fun e=>some (decide (e ≥ 0))
theorem wC{f:Value}{g:List aM}{b c:Nat}{d e:Int}(H:Sep w (Blk b 2 [.int .i64 d]::Blk c 2 [.int .i64 e]::Fo) rs)(i:rSl bG f g ∈ rs){r:Bool}(hm:jG g d e=some r) :
    Calls Tryz.prog 94 [f,.func (.func 95) #[] #[pt b 0,pt c 0]].toArray w (Ret fun v w'=>.bool r=v∧Sep w' (Blk b 2 [.int .i64 d]::Blk c 2 [.int .i64 e]::Fo) (rs)):=by
 unfold jG at hm
 refine ent Tryz.func94 rfl Tryz.ntmps94 rfl rfl fun a E=>sq<|pr 1 E rfl fun a E=>nx<|pr 2 E rfl fun a E=>bd hm fun k j hm=>xk E rfl rfl rfl rfl rfl Lf (yJ H i j) fun w H a E=>pr 2 E rfl fun a E=>nt<|?_
 refine wp_ret<|bB E rfl rfl<|?_
 cases hm
 exact ⟨rfl,H.reads Y0⟩

def D9(b:ByteArray):Option Bool:=
  (eP b).bind fun c=>some (!c)
theorem Hj{b:ByteArray}(H:Sep w (Fo) rs){r:Bool}(hm:D9 b=some r) :
    Calls Tryz.prog 93 [.string b].toArray w (Ret fun v w'=>.bool r=v∧Sep w' (Fo) (rs)):=by
 unfold D9 at hm
 refine ent Tryz.func93 rfl Tryz.ntmps93 rfl rfl fun a E=>sq<|pr 1 E rfl fun a E=>nx<|pr 1 E rfl fun a E=>bd hm fun d c hm=>xk E rfl rfl rfl rfl rfl A7 (iI H c) fun w H a E=>pr 2 E rfl fun a E=>nt<|?_
 refine wp_ret<|bB E rfl rfl<|?_
 cases hm
 exact ⟨rfl,H.reads Y0⟩

def hY(c:List ByteArray):Nat→Int→Option Int
  | 0,_=>none
  | e+1,b=>
    if (decide (b < (c.length:Int)))=true then ((idx c b).bind fun f=>(D9 f).bind fun d=>if d=true then (some (b)) else (hY c e (IntKind.i64.wrap (b+1)))) else (some ((-1)))
def mC(b:List ByteArray):Option Int:=
  hY b (((b.length:Int) - 0:Int).toNat+1) 0
theorem s6{g:Value}{d:List ByteArray}(H:Sep w (Fo) rs)(f:rSl kS g d ∈ rs){r:Int}(hm:mC d=some r) :
    Calls Tryz.prog 86 [g,.func (.func 93) #[] #[]].toArray w (Ret fun v w'=>.int .i64 r=v∧Sep w' (Fo) (rs)):=by
 unfold mC at hm
 refine ent Tryz.func86 rfl Tryz.ntmps86 rfl rfl fun a E=>sq<|pr 1 E rfl fun a E=>nt<|wp_seq<|sq<|pr 1 E rfl fun a E=>sv E rfl rfl rfl (dB E H rfl rfl f U41) fun a E=>pr 1 E rfl fun a E=>?_
 refine nt<|wp_block<|cA (fun c a w=>∃ i e,Env 19 a [(0,g),(1,.func (.func 93) #[] #[]),(7,.int .i64 (d.length:Int)),(8,.int .i64 i)]∧Sep w (Fo) e∧(∀ r,r ∈ rs→r ∈ e)∧hY d c i=some r) (((d.length:Int) - 0:Int).toNat+1) ?_ ?_
 ·exact ⟨_,_,E.to rfl,H,Y0,hm⟩
 ·clear E H hm
  rintro c a w ⟨i,e,E,H,b,hm⟩
  cases c with
  | zero=>exact (bW hm rfl).elim
  | succ c=>
   unfold hY at hm
   refine sq<|pr 1 E rfl fun a E=>nt<|wp_seq<|wif E hm rfl (fun hm=>?_) fun hm=>?_
   ·refine wp_skip<|aD<|wp_seq<|wp_block<|sq<|pr 2 E rfl fun a E=>nx<|pr 3 E rfl fun a E=>bd hm fun m k hm=>?_
    refine dF E H (wn rfl) rfl rfl rfl rfl rfl (b _ f) U41 sz9 k fun q9 a H E=>sv E rfl rfl rfl (nB E H rfl rfl m0 U9 rfl) fun a E=>bd hm fun l j hm=>aX E (wn rfl) rfl rfl (bP E rfl rfl rfl (LY _)) (Hj H j)<|?_
    rintro _ w ⟨rfl,H⟩ a E
    refine nt<|wif E hm rfl (fun hm=>?_) fun hm=>?_
    ·refine sq<|pr 2 E rfl fun a E=>nt<|wp_ret<|bU<|aP<|aP<|bU<|aP<|?_
     refine bB E rfl rfl<|?_
     cases hm
     exact ⟨rfl,H.reads (Y1 b)⟩
    ·exact wp_skip<|bY<|aD<|wp_region_lit<|pr 2 E rfl fun a E=>nt<|⟨c,Nat.lt_succ_self c,_,_,E.to rfl,H,(Y1 b),hm⟩
   ·refine wp_exit<|bH<|bH<|dZ<|aD<|sq<|pr 1 E rfl fun a E=>nt<|wp_ret<|?_
    refine bB E rfl rfl<|?_
    cases hm
    exact ⟨rfl,H.reads b⟩

def kT(b:List ByteArray):Option Bool:=
  (mC b).bind fun c=>some (decide (c ≥ 0))
theorem yU{b:Value}{c:List ByteArray}(H:Sep w (Fo) rs)(d:rSl kS b c ∈ rs){r:Bool}(hm:kT c=some r) :
    Calls Tryz.prog 35 [b,.func (.func 93) #[] #[]].toArray w (Ret fun v w'=>.bool r=v∧Sep w' (Fo) (rs)):=by
 unfold kT at hm
 refine ent Tryz.func35 rfl Tryz.ntmps35 rfl rfl fun a E=>sq<|pr 1 E rfl fun a E=>nx<|pr 2 E rfl fun a E=>bd hm fun f e hm=>xk E rfl rfl rfl rfl rfl Ve (s6 H d e) fun w H a E=>pr 2 E rfl fun a E=>nt<|?_
 refine wp_ret<|bB E rfl rfl<|?_
 cases hm
 exact ⟨rfl,H.reads Y0⟩

def jW(c:List ByteArray)(d:ByteArray):Nat→Int→Option Int
  | 0,_=>none
  | e+1,b=>
    if (decide (b < (c.length:Int)))=true then ((idx c b).bind fun f=>if (sEq d f)=true then (some (b)) else (jW c d e (IntKind.i64.wrap (b+1)))) else (some ((-1)))
def pZ(b:List ByteArray)(c:ByteArray):Option Int:=
  jW b c (((b.length:Int) - 0:Int).toNat+1) 0
theorem E1{i:Value}{d:List ByteArray}{f:ByteArray}(H:Sep w (Fo) rs)(g:rSl kS i d ∈ rs){r:Int}(hm:pZ d f=some r) :
    Calls Tryz.prog 150 [i,.string f].toArray w (Ret fun v w'=>.int .i64 r=v∧Sep w' (Fo) (rs)):=by
 unfold pZ at hm
 refine ent Tryz.func150 rfl Tryz.ntmps150 rfl rfl fun a E=>sq<|pr 1 E rfl fun a E=>nt<|wp_seq<|sq<|pr 1 E rfl fun a E=>sv E rfl rfl rfl (dB E H rfl rfl g U41) fun a E=>pr 1 E rfl fun a E=>?_
 refine nt<|wp_block<|cA (fun c a w=>∃ j e,Env 19 a [(0,i),(1,.string f),(7,.int .i64 (d.length:Int)),(8,.int .i64 j)]∧Sep w (Fo) e∧(∀ r,r ∈ rs→r ∈ e)∧jW d f c j=some r) (((d.length:Int) - 0:Int).toNat+1) ?_ ?_
 ·exact ⟨_,_,E.to rfl,H,Y0,hm⟩
 ·clear E H hm
  rintro c a w ⟨j,e,E,H,b,hm⟩
  cases c with
  | zero=>exact (bW hm rfl).elim
  | succ c=>
   unfold jW at hm
   refine sq<|pr 1 E rfl fun a E=>nt<|wp_seq<|wif E hm rfl (fun hm=>?_) fun hm=>?_
   ·refine wp_skip<|aD<|wp_seq<|wp_block<|sq<|pr 2 E rfl fun a E=>nx<|pr 3 E rfl fun a E=>bd hm fun l k hm=>?_
    refine dF E H (wn rfl) rfl rfl rfl rfl rfl (b _ g) U41 sz9 k fun q10 a H E=>sv E rfl rfl rfl (nB E H rfl rfl m0 U9 rfl) fun a E=>pr 1 E rfl fun a E=>nt<|wif E hm rfl (fun hm=>?_) fun hm=>?_
    ·refine sq<|pr 2 E rfl fun a E=>nt<|wp_ret<|bU<|aP<|aP<|bU<|aP<|?_
     refine bB E rfl rfl<|?_
     cases hm
     exact ⟨rfl,H.reads (Y1 b)⟩
    ·exact wp_skip<|bY<|aD<|wp_region_lit<|pr 2 E rfl fun a E=>nt<|⟨c,Nat.lt_succ_self c,_,_,E.to rfl,H,(Y1 b),hm⟩
   ·refine wp_exit<|bH<|bH<|dZ<|aD<|sq<|pr 1 E rfl fun a E=>nt<|wp_ret<|?_
    refine bB E rfl rfl<|?_
    cases hm
    exact ⟨rfl,H.reads b⟩

def nZ(b:List ByteArray)(c:ByteArray):Option Bool:=
  (pZ b c).bind fun d=>some (decide (d ≥ 0))
theorem y7{b:Value}{c:List ByteArray}{d:ByteArray}(H:Sep w (Fo) rs)(e:rSl kS b c ∈ rs){r:Bool}(hm:nZ c d=some r) :
    Calls Tryz.prog 98 [b,.string d].toArray w (Ret fun v w'=>.bool r=v∧Sep w' (Fo) (rs)):=by
 unfold nZ at hm
 refine ent Tryz.func98 rfl Tryz.ntmps98 rfl rfl fun a E=>sq<|pr 1 E rfl fun a E=>nx<|pr 2 E rfl fun a E=>bd hm fun g f hm=>xk E rfl rfl rfl rfl rfl JL (E1 H e f) fun w H a E=>pr 2 E rfl fun a E=>nt<|?_
 refine wp_ret<|bB E rfl rfl<|?_
 cases hm
 exact ⟨rfl,H.reads Y0⟩

def uO(rec_1:Bool→Int→(List ((Int)×Int))→Option ((List aM)×(List Int)×Bool))(x20:Int)(b:Bool)(c:(List ((Int)×Int))):Option ((List aM)×(List Int)×Bool):=
  rec_1 b (IntKind.i64.wrap (x20+1)) c
def yO(rec_1:Bool→Int→(List ((Int)×Int))→Option ((List aM)×(List Int)×Bool))(x20:Int)(b:aM)(d:Int)(x3:Int)(c:(List ((Int)×Int)))(e:Bool)(f:Bool):Option ((List aM)×(List Int)×Bool):=
  if f=true then ((ck (Qj b.Age b.Txn d x3)).bind fun j=>if (Gb b.Age b.Txn d x3)=true then ((mlk (kyI .i64) c b.Txn).bind fun g=>(mpt (kyI .i64) c b.Txn (IntKind.i64.wrap ((g.getD 0)+1))).bind fun i=>uO rec_1 x20 false i) else (uO rec_1 x20 false c)) else (uO rec_1 x20 e c)
def yP(rec_2:(List aM)→Int→Option ((List aM)×(List Int)×Bool))(b:Int)(c:(List aM)):Option ((List aM)×(List Int)×Bool):=
  rec_2 c (IntKind.i64.wrap (b+1))
def rK(e:List ByteArray)(x3:Int)(g:Int):Nat→(List aM)→Int→Option ((List aM)×(List Int)×Bool)
  | 0,_,_=>none
  | i+1,b,d=>
    if (decide (d < (e.length:Int)))=true then ((idx e d).bind fun f=>(gQ b f).bind fun c=>if (!c.2)=true then ((ck (0 ≤ c.1∧c.1 ≤ b.length∧b.length ≤ 1000000)).bind fun j=>yP (rK e x3 g i) d (b.take c.1.toNat ++ (⟨f,x3,g⟩:aM)::b.drop c.1.toNat)) else (yP (rK e x3 g i) d b)) else (some (b,[],true))
def oT(e:Int)(x3:Int)(f:List ByteArray)(c:List aM):Nat→Bool→Int→(List ((Int)×Int))→Option ((List aM)×(List Int)×Bool)
  | 0,_,_,_=>none
  | i+1,g,x20,b=>
    if (decide (x20 < (c.length:Int)))=true then ((idx c x20).bind fun d=>if (d.Txn != x3)=true then ((nZ f d.Dir).bind fun j=>yO (oT e x3 f c i) x20 d e x3 b g j) else (yO (oT e x3 f c i) x20 d e x3 b g false)) else (if (!g)=true then ((lS b).bind fun k=>(ck (b.length ≤ 1000000)).bind fun l=>some (c,Jy (b.map (·.1)),false)) else ((ck (c.length ≤ LIM)).bind fun m=>rK f x3 e (((f.length:Int) - 0:Int).toNat+1) c 0))
def oU(d:Int)(x3:Int)(e:List ByteArray)(b:List aM)(c:Bool):Option ((List aM)×(List Int)×Bool):=
  if c=true then (some (([]:List aM),[],false)) else (oT d x3 e b (((b.length:Int) - 0:Int).toNat+1) true 0 [])
def L7(b:List aM)(x3:Int)(c:Int)(d:List ByteArray):Option ((List aM)×(List Int)×Bool):=
  (kT d).bind fun e=>(jG b x3 c).bind fun f=>(I1 b).bind fun g=>if (!g)=true then (oU c x3 d b true) else ((sQ x3).bind fun i=>if (!i)=true then (oU c x3 d b true) else ((sQ c).bind fun j=>if (!j)=true then (oU c x3 d b true) else (if e=true then (oU c x3 d b true) else (oU c x3 d b f))))
theorem Ls{t z:Value}{p:List aM}{x3 b:Int}{m:List ByteArray}(H:Sep w (Fo) rs)(q:rSl bG t p ∈ rs)(T:rSl kS z m ∈ rs){r:(List aM)×(List Int)×Bool}(hm:L7 p x3 b m=some r) :
    Calls Tryz.prog 40 [t,.int .i64 x3,.int .i64 b,z].toArray w (Ret fun v w'=>∃ d3 d4,.tuple #[d3,d4,.bool r.2.2]=v∧Sep w' (Row 2 (kI .i64) d4 r.2.1::Fo) (rSl bG d3 r.1::rs)):=by
 unfold L7 at hm
 refine ent Tryz.func40 rfl Tryz.ntmps40 rfl rfl fun a E=>sq<|bS E H (wn rfl) rfl rfl rfl rfl rfl fun l w a H E=>bS E H (wn rfl) rfl rfl rfl rfl rfl fun f w a H E=>pr 3 E rfl fun a E=>nx<|pr 1 E rfl fun a E=>bd hm fun d5 b5 hm=>xk E rfl rfl rfl rfl rfl Vd (yU H T b5) fun w H a E=>?_
 refine pr 1 E rfl fun a E=>nx<|pr 1 E rfl fun a E=>sv E rfl rfl rfl (kH E rfl rfl rfl) fun a E=>have H:=H.frs [0,1] rfl;bd hm fun d6 b6 hm=>xk E rfl rfl rfl rfl rfl Vj (wC H q b6) fun w H a E=>pr 1 E rfl fun a E=>nt<|?_
 refine wp_seq<|aT (fun a w=>∃ U G,Env 108 a [(0,t),(3,z),(5,pt l 0),(6,pt f 0),(45,.bool U)]∧Sep w (Blk l 2 [.int .i64 x3]::Blk f 2 [.int .i64 b]::Fo) G∧(∀ r,r ∈ rs→r ∈ G)∧oU b x3 m p U=some r) ?_ ?_
 ·refine wp_region_lit<|pr 1 E rfl fun a E=>bd hm fun d7 b7 hm=>xk E rfl rfl rfl rfl rfl MA (Je H q b7) fun w H a E=>pr 2 E rfl fun a E=>cs hm (fun n hm=>?_) fun n hm=>?_
  ·exact pk 15 E (kc 30 rfl n) rfl fun a E=>nt<|⟨_,_,E.to rfl,H,Y0,hm⟩
  ·refine aQ E (ws' (d:=30) E rfl rfl rfl rfl n) rfl rfl (bT (i:=0) E H rfl rfl rfl rfl U2 rfl) fun a E=>bd hm fun d8 b8 hm=>aX E (ws' (d:=30) E rfl rfl rfl rfl n) rfl rfl (cG E rfl rfl (Qf _)) (s1 H b8)<|?_
   rintro _ w ⟨rfl,H⟩ a E
   refine pk 3 E (kc 30 rfl n) rfl fun a E=>cs hm (fun o hm=>?_) fun o hm=>?_
   ·exact pk 10 E (kc 35 rfl o) rfl fun a E=>nt<|⟨_,_,E.to rfl,H,Y0,hm⟩
   ·refine aQ E (ws' (d:=35) E rfl rfl rfl rfl o) rfl rfl (bT (i:=1) E H rfl rfl rfl rfl U2 rfl) fun a E=>bd hm fun d9 b9 hm=>aX E (ws' (d:=35) E rfl rfl rfl rfl o) rfl rfl (cG E rfl rfl (Qf _)) (s1 H b9)<|?_
    rintro _ w ⟨rfl,H⟩ a E
    refine pk 3 E (kc 35 rfl o) rfl fun a E=>cs hm (fun I hm=>?_) fun I hm=>?_
    ·exact pk 5 E (kc 40 rfl I) rfl fun a E=>nt<|⟨_,_,E.to rfl,H,Y0,hm⟩
    ·refine pk 3 E (kc 40 rfl I) rfl fun a E=>cs hm (fun J hm=>?_) fun J hm=>?_
     ·exact pk 2 E (kc 43 rfl J) rfl fun a E=>nt<|⟨_,_,E.to rfl,H,Y0,hm⟩
     ·exact pk 2 E (kc 43 rfl J) rfl fun a E=>nt<|⟨_,_,E.to rfl,H,Y0,hm⟩
 ·clear E H hm
  rintro a w ⟨U,G,E,H,L,hm⟩
  unfold oU at hm
  refine wif E hm rfl (fun hm=>?_) fun hm=>?_
  ·refine sq<|pr 3 E rfl fun a E=>nt<|wp_ret<|aP<|Kb E rfl rfl rfl rfl<|have H:=H.nilSl bG;have H:=H.nilRow 2 (kI .i64);have H:=H.drs [1,1];?_
   cases hm
   exact ⟨_,_,rfl,H.reads (aA m0 (fun r hr=>(t1 (L r hr))))⟩
  ·refine wp_skip<|aD<|sq<|xN (k:=2) (K:=(kyI .i64)) (d:=(kI .i64)) (g:=false) E H (wn rfl) rfl rfl rfl fun s w a H E=>pr 1 E rfl fun a E=>nx<|pr 1 E rfl fun a E=>nt<|wp_seq<|?_
   refine sq<|pr 1 E rfl fun a E=>sv E rfl rfl rfl (dB E H rfl rfl (L _ q) U56) fun a E=>pr 1 E rfl fun a E=>nt<|wp_block<|cA (fun A a w=>∃ B x20 C M,Env 108 a [(0,t),(3,z),(5,pt l 0),(6,pt f 0),(13,.map (some s)),(14,.bool B),(47,t),(48,.int .i64 (p.length:Int)),(49,.int .i64 x20)]∧Sep w (Blk l 2 [.int .i64 x3]::Blk f 2 [.int .i64 b]::cC Tryz.prog 2 (kyI .i64) (kI .i64) false s C::Fo) M∧(∀ r,r ∈ rs→r ∈ M)∧oT b x3 m p A B x20 C=some r) (((p.length:Int) - 0:Int).toNat+1) ?_ ?_
   ·exact have H:=H.frs [0,2,2] rfl;X4 ⟨E.to rfl,H,L,hm⟩
   ·clear E H hm
    rintro A a w ⟨B,x20,C,M,E,H,c,hm⟩
    cases A with
    | zero=>exact (bW hm rfl).elim
    | succ A=>
     unfold oT at hm
     refine sq<|pr 1 E rfl fun a E=>nt<|wp_seq<|wif E hm rfl (fun hm=>?_) fun hm=>?_
     ·refine wp_skip<|aD<|aT (fun a w=>∃ V W N,Env 108 a [(0,t),(3,z),(5,pt l 0),(6,pt f 0),(13,.map (some s)),(14,.bool V),(47,t),(48,.int .i64 (p.length:Int)),(49,.int .i64 x20)]∧Sep w (Blk l 2 [.int .i64 x3]::Blk f 2 [.int .i64 b]::cC Tryz.prog 2 (kyI .i64) (kI .i64) false s W::Fo) N∧(∀ r,r ∈ rs→r ∈ N)∧uO (oT b x3 m p A) x20 V W=some r) ?_ ?_
      ·refine wp_block<|sq<|bd hm fun b2 c0 hm=>dF E H (wn rfl) rfl rfl rfl rfl rfl (c _ q) U56 mU c0 fun q30 a H E=>ldf fN E H rfl rfl rfl rfl rfl m0 U89 rfl mU fun a E=>al E H rfl rfl rfl rfl Vl fun b3 w a H E=>bC (i:=0) E H (wn rfl) rfl rfl rfl rfl rfl rfl mU rfl rfl fun w H=>nt<|aT (fun a w=>∃ X O,Env 108 a [(0,t),(3,z),(5,pt l 0),(6,pt f 0),(13,.map (some s)),(14,.bool B),(16,pt b3 0),(47,t),(48,.int .i64 (p.length:Int)),(49,.int .i64 x20),(62,.bool X)]∧Sep w (Blk l 2 [.int .i64 x3]::Blk f 2 [.int .i64 b]::cC Tryz.prog 2 (kyI .i64) (kI .i64) false s C::Blk b3 89 (qF b2)::Fo) O∧(∀ r,r ∈ rs→r ∈ O)∧yO (oT b x3 m p A) x20 b2 b x3 C B X=some r) ?_ ?_
       ·refine wp_region_lit<|pr 1 E rfl fun a E=>lb E H 0 rfl rfl rfl rfl rfl rfl rfl U2 rfl fun a E=>lb E H 1 rfl rfl rfl rfl rfl rfl rfl U2 rfl fun a E=>pr 2 E rfl fun a E=>cs hm (fun j hm=>?_) fun j hm=>?_
        ·refine pk 2 E (kc 57 rfl j) rfl fun a E=>aQ E (ws' (d:=57) E rfl rfl rfl rfl j) rfl rfl (bT (i:=0) E H rfl rfl rfl rfl U9 rfl) fun a E=>bd hm fun e0 c1 hm=>aX E (ws' (d:=57) E rfl rfl rfl rfl j) rfl rfl (cG E rfl rfl (MC _)) (y7 H (t1 (c _ T)) c1)<|?_
         rintro _ w ⟨rfl,H⟩ a E
         exact pk 1 E (kc 57 rfl j) rfl fun a E=>nt<|have H:=H.frs [0,3,3,3] rfl;⟨_,_,E.to rfl,H,(Y1 c),hm⟩
        ·exact pk 5 E (kc 57 rfl j) rfl fun a E=>nt<|have H:=H.frs [0,3,3,3] rfl;⟨_,_,E.to rfl,H,(Y1 c),hm⟩
       ·clear E H hm
        rintro a w ⟨X,O,E,H,P,hm⟩
        unfold yO at hm
        refine wif E hm rfl (fun hm=>?_) fun hm=>?_
        ·refine sq<|pr 1 E rfl fun a E=>nx<|pr 1 E rfl fun a E=>lb E H 3 rfl rfl rfl rfl rfl rfl rfl U2 rfl fun a E=>pr 1 E rfl fun a E=>lb E H 3 rfl rfl rfl rfl rfl rfl rfl U2 rfl fun a E=>lb E H 1 rfl rfl rfl rfl rfl rfl rfl U2 rfl fun a E=>lb E H 0 rfl rfl rfl rfl rfl rfl rfl U2 rfl fun a E=>?_
         refine bk hm fun c2 hm=>cJ E rfl rfl rfl rfl rfl MD (Zv H c2)<|?_
         rintro _ w ⟨rfl,H⟩ a E
         refine nt<|wif E hm rfl (fun hm=>?_) fun hm=>?_
         ·refine wp_region_lit<|pr 2 E rfl fun a E=>lb E H 3 rfl rfl rfl rfl rfl rfl rfl U2 rfl fun a E=>bd hm fun b4 c3 hm=>sv E rfl rfl rfl (Ku (i:=2) (K:=(kyI .i64)) (z0:=0) (u:=b4) E H rfl rfl rfl rfl (fD U2) EF Ld c3) fun a E=>pr 1 E rfl fun a E=>bd hm fun e1 c4 hm=>Nq (i:=2) (K:=(kyI .i64)) (v:=IntKind.i64.wrap ((b4.getD 0)+1)) E H (wn rfl) rfl rfl rfl rfl rfl rfl (fD U2) EF c4 fun w H=>wpList_nil<|?_
          exact bY<|aD<|have H:=H.drop 3;X3 ⟨E.to rfl,H,P,hm⟩
         ·exact wp_skip<|bY<|aD<|have H:=H.drop 3;X3 ⟨E.to rfl,H,P,hm⟩
        ·exact wp_skip<|bY<|aD<|have H:=H.drop 3;X3 ⟨E.to rfl,H,P,hm⟩
      ·clear E H hm
       rintro a w ⟨V,W,N,E,H,c5,hm⟩
       unfold uO at hm
       exact wp_region_lit<|pr 2 E rfl fun a E=>nt<|⟨A,Nat.lt_succ_self A,X4 ⟨E.to rfl,H,c5,hm⟩⟩
     ·refine wp_exit<|bH<|bH<|dZ<|aD<|wp_seq<|sq<|pr 2 E rfl fun a E=>nt<|wif E hm rfl (fun hm=>?_) fun hm=>?_
      ·refine sq<|pr 2 E rfl fun a E=>have H:=H.frs [1,1,2] rfl;bd hm fun e2 c6 hm=>cJ E rfl rfl rfl rfl rfl JM (s2 H c6)<|?_
       rintro _ w ⟨e3,rfl,H⟩ a E
       refine bk hm fun c7 hm=>aX E (wn rfl) rfl rfl (cG E rfl rfl (JN _)) (Vu (ip:=0) (im:=1) H rfl rfl c7) fun e4 w H a E=>pr 3 E rfl fun a E=>nt<|wp_ret<|aP<|Kb E rfl rfl rfl rfl<|have H:=H.drs [1,1,1,1];?_
       cases hm
       exact ⟨_,_,rfl,H.reads (aA (c _ q) (c))⟩
      ·refine wp_skip<|aD<|sq<|pr 1 E rfl fun a E=>bk hm fun c8 hm=>aX E (wn rfl) rfl rfl (cG E rfl rfl (Vk _)) (kO H (c _ q) c8) fun e5 w H a E=>pr 1 E rfl fun a E=>nt<|wp_seq<|?_
       refine sq<|pr 1 E rfl fun a E=>sv E rfl rfl rfl (dB E H rfl rfl (c _ T) U41) fun a E=>pr 1 E rfl fun a E=>nt<|wp_block<|cA (fun Q a w=>∃ Y Z D R,Env 108 a [(5,pt l 0),(6,pt f 0),(17,Y),(84,z),(85,.int .i64 (m.length:Int)),(86,.int .i64 D)]∧Sep w (Blk l 2 [.int .i64 x3]::Blk f 2 [.int .i64 b]::Row 89 bG Y Z::Fo) R∧(∀ r,r ∈ rs→r ∈ R)∧rK m x3 b Q Z D=some r) (((m.length:Int) - 0:Int).toNat+1) ?_ ?_
       ·exact have H:=H.drop 3;have H:=H.frs [0,2,2] rfl;X4 ⟨E.to rfl,H,c,hm⟩
       ·clear E H hm
        rintro Q a w ⟨Y,Z,D,R,E,H,y,hm⟩
        cases Q with
        | zero=>exact (bW hm rfl).elim
        | succ Q=>
         unfold rK at hm
         refine sq<|pr 1 E rfl fun a E=>nt<|wp_seq<|wif E hm rfl (fun hm=>?_) fun hm=>?_
         ·refine wp_skip<|aD<|aT (fun a w=>∃ b0 b1 S,Env 108 a [(5,pt l 0),(6,pt f 0),(17,b0),(84,z),(85,.int .i64 (m.length:Int)),(86,.int .i64 D)]∧Sep w (Blk l 2 [.int .i64 x3]::Blk f 2 [.int .i64 b]::Row 89 bG b0 b1::Fo) S∧(∀ r,r ∈ rs→r ∈ S)∧yP (rK m x3 b Q) D b1=some r) ?_ ?_
          ·refine wp_block<|sq<|bd hm fun F c9 hm=>dF E H (wn rfl) rfl rfl rfl rfl rfl (y _ T) U41 sz9 c9 fun q64 a H E=>sv E rfl rfl rfl (nB E H rfl rfl m0 U9 rfl) fun a E=>pr 1 E rfl fun a E=>nx<|pr 2 E rfl fun a E=>have H:=H.frs [1,1,2] rfl;?_
           refine bd hm fun e6 d0 hm=>xk E rfl rfl rfl rfl rfl JO (sE H d0) fun w H a E=>pr 5 E rfl fun a E=>nx<|pr 2 E rfl fun a E=>nt<|wif E hm rfl (fun hm=>?_) fun hm=>?_
           ·refine wp_region_lit<|pr 3 E rfl fun a E=>lb E H 1 rfl rfl rfl rfl rfl rfl rfl U2 rfl fun a E=>lb E H 2 rfl rfl rfl rfl rfl rfl rfl U2 rfl fun a E=>sv E rfl rfl rfl (cN E rfl (E.evs rfl) (v:=.agg #[.string F,.int .i64 x3,.int .i64 b]) (by kernel_rfl)) fun a E=>hG (e:=89) (d:=bG) (cs:=[.string F,.int .i64 x3,.int .i64 b]) (xs:=[(⟨F,x3,b⟩:aM)]) E H (wn rfl) rfl rfl rfl (E.evs rfl) (by kernel_rfl) rfl rfl (fun ok hr=>(Rows.single (d:=bG) (cs:=[.string F,.int .i64 x3,.int .i64 b]) (x:=(⟨F,x3,b⟩:aM)) W5)) fun e7 w a H E=>bk hm fun d1 hm=>aX E (wn rfl) rfl rfl (cG E rfl rfl (JP _)) (Ho.insert_a (ix:=1) (iu:=0) H rfl rfl (by decide) d1) fun e8 w H a E=>pr 1 E rfl fun a E=>?_
            exact wpList_nil<|bY<|aD<|have H:=H.drop 0;have H:=H.frs [0,2,2] rfl;X3 ⟨E.to rfl,H,(Y1 y),hm⟩
           ·exact wp_skip<|bY<|aD<|have H:=H.frs [0,2,2] rfl;X3 ⟨E.to rfl,H,(Y1 y),hm⟩
          ·clear E H hm
           rintro a w ⟨b0,b1,S,E,H,d2,hm⟩
           unfold yP at hm
           exact wp_region_lit<|pr 2 E rfl fun a E=>nt<|⟨Q,Nat.lt_succ_self Q,X4 ⟨E.to rfl,H,d2,hm⟩⟩
         ·refine wp_exit<|bH<|bH<|dZ<|aD<|sq<|pr 4 E rfl fun a E=>nt<|wp_ret<|?_
          refine Kb E rfl rfl rfl rfl<|have H:=H.thaw (i:=2) rfl;have H:=H.nilRow 2 (kI .i64);have H:=H.drs [1,1];?_
          cases hm
          exact ⟨_,_,rfl,H.reads (aA m0 (fun r hr=>(t1 (y r hr))))⟩

def tG(f:List ((Int)×bJ))(x20:aV)(g:(List aM)×(List Int)×Bool)(b:Int)(c:(List cR))(d:Int):Option (aE×(List aM)×(List ((Int)×bJ))):=
  (mpt (kyI .i64) f x20.Txn (⟨false,x20.Pieces,(⟨b,d,b == 0,0,c,(⟨[],[]⟩:aW),[],[],[]⟩:aE)⟩:bJ)).bind fun e=>some ((⟨b,d,b == 0,0,c,(⟨[],[]⟩:aW),[],[],[]⟩:aE),g.1,e)
def oV(c:List ((Int)×bJ))(x20:aV)(f:List aM)(g:(List ByteArray))(j:List aF)(k:List aI)(e:Int):Option (aE×(List aM)×(List ((Int)×bJ))):=
  if (e != 0)=true then ((eH e).bind fun i=>some (i,f,c)) else ((L7 f x20.Txn x20.Age g).bind fun d=>if (!d.2.2)=true then (some ((⟨131,0,false,0,[],(⟨[],[]⟩:aW),[],[],d.2.1⟩:aE),f,c)) else ((xT (⟨j,k⟩:aW) x20.Pieces).bind fun b=>tG c x20 d b.2.2.1 b.2.1 b.2.2.2))
def oW(b:List ((Int)×bJ))(x20:aV)(e:List aM)(c:(List ByteArray))(f:List aF)(g:List aI)(i:Int)(d:Bool):Option (aE×(List aM)×(List ((Int)×bJ))):=
  if d=true then (oV b x20 e c f g 2) else (oV b x20 e c f g i)
def tH(b:List ((Int)×bJ))(x20:aV)(e:List aM)(f:List aF)(g:List aI)(x:List aH)(i:Bool)(j:Bool)(y:(List cH))(k:Int)(l:Int)(m:Bool)(n:Int)(o:(List cR))(p:(List aF))(q:(List aI))(s:(List bK))(t:(List oB))(u:(List Int)):Option (aE×(List aM)×(List ((Int)×bJ))):=
  if i=true then (if j=true then ((eH 133).bind fun v=>some (v,e,b)) else (some ((⟨k,l,m,n,o,(⟨p,q⟩:aW),s,t,u⟩:aE),e,b))) else ((vS x20.Pieces).bind fun c=>(mO x c).bind fun d=>if (d == 0)=true then (oW b x20 e c f g d ((b.length:Int) == 128)) else (oW b x20 e c f g d false))
def vT(d:List aF)(e:List aI)(f:List aH)(g:List aM)(c:List ((Int)×bJ))(x20:aV):Option (aE×(List aM)×(List ((Int)×bJ))):=
  (K5 (kyI .i64) c x20.Txn O4).bind fun b=>tH c x20 g d e f b.2 b.1.over_ b.1.pieces_ b.1.a_.Err b.1.a_.At b.1.a_.Yes b.1.a_.Epoch b.1.a_.Results b.1.a_.Store.Nodes b.1.a_.Store.Turns b.1.a_.Events b.1.a_.Mounts b.1.a_.Wounded
theorem T2{l e:Nat}{C D I M o x y z p q s t:Value}{b0:List aF}{b1:List aI}{e9:List aH}{c2:List aM}{u:List ((Int)×bJ)}{x20:aV}(H:Sep w (Blk l 82 [C,D,I,M,p,q,s,.map (some e),t]::cC Tryz.prog 2 (kyI .i64) cW true e u::Fo) rs)(c3:rSl aG C b0 ∈ rs)(c4:rSl aK D b1 ∈ rs)(f0:rSl aR I e9 ∈ rs)(J:rSl bG M c2 ∈ rs)(L:rSl cF o x20.Pieces ∈ rs)(c5:x4 Tryz.prog ∈ rs){r:aE×(List aM)×(List ((Int)×bJ))}(hm:vT b0 b1 e9 c2 u x20=some r) :
    Calls Tryz.prog 14 [pt l 0,.agg (aS x20 o x y z).toArray].toArray w (Ret fun v w'=>∃ f7 f8 f9 g0 g1 g2 g3,.agg (bA r.1 f7 f8 f9 g0 g1 g2).toArray=v∧Sep w' (Blk l 82 [C,D,I,g3,p,q,s,.map (some e),t]::cC Tryz.prog 2 (kyI .i64) cW true e r.2.2::Fo) (rSl bE f7 r.1.Results::rSl aG f8 r.1.Store.Nodes::rSl aK f9 r.1.Store.Turns::rSl aU g0 r.1.Events::rSl bN g1 r.1.Mounts::rSl (kI .i64) g2 r.1.Wounded::rSl bG g3 r.2.1::rs)):=by
 unfold vT at hm
 refine ent Tryz.func14 rfl Tryz.ntmps14 rfl rfl fun a E=>sq<|bS E H (wn rfl) rfl rfl rfl rfl rfl fun f w a H E=>al E H rfl rfl rfl rfl iO fun B w a H E=>nt<|wp_seq<|aT (fun a w=>∃ c6 e5 P Q R S T U c7 c8 e6 V X Y Z c9 d0 d1 d2 d3 d4 k,Env 103 a [(0,pt l 0),(3,pt f 0),(4,pt B 0),(5,pt c6 0),(6,.bool c7)]∧Sep w (Blk l 82 [C,D,I,M,p,q,s,.map (some e),t]::Blk f 43 (aS x20 o x y z)::Blk B 36 bO::Blk c6 100 [.bool c8,e5,.int .i64 V,.int .i64 X,.bool Y,.int .i64 Z,P,Q,R,S,T,U]::cC Tryz.prog 2 (kyI .i64) cW true e u::Fo) k∧(∀ r,r ∈ rs→r ∈ k)∧rSl bE P c9 ∈ k∧rSl aG Q d0 ∈ k∧rSl aK R d1 ∈ k∧rSl aU S d2 ∈ k∧rSl bN T d3 ∈ k∧rSl (kI .i64) U d4 ∈ k∧tH u x20 c2 b0 b1 e9 c7 c8 e6 V X Y Z c9 d0 d1 d2 d3 d4=some r) ?_ ?_
 ·refine bd hm fun i8 b4 hm=>?_
  have hI:eK [Blk f 43 (aS x20 o x y z),Blk l 82 [C,D,I,M,p,q,s,.map (some e),t]] [] { w with drawn:=w.drawn+1 }:=⟨_,_,H.kept (Kp.drawn _ w _),(aB mm1 (aB mm2 (aL))),(aN)⟩
  refine lZ _ (.go 0 0 (.go 1 0 (.go 2 0 (.go 3 0 (.go 4 0 (.go 5 0 (.alt 6 (.go 7 0 (.go 8 0 (.go 9 0 (.go 10 1 (.go 11 1 (.go 12 2 .nil)))))) 10 (.go 6 1 (.go 7 0 (.go 8 0 (.go 9 0 (.go 11 1 (.go 12 2 .nil))))))))))))) [12] mI (by kernel_rfl) (fun _ _ _ h=>False.elim h.2) hI<|have H:=H.kept (Kp.drawn _ w (w.drawn+1));?_
  generalize ({ w with drawn:=w.drawn+1 }:World)=w at H hI ⊢
  replace hI:∃ W,eK [Blk f 43 (aS x20 o x y z),Blk l 82 [C,D,I,M,p,q,s,.map (some e),t]] [] W:=⟨_,hI⟩
  obtain ⟨W0,hI⟩:=hI
  refine aZ E rfl (wn rfl) rfl rfl (fun w hW=>(bD E rfl rfl)) fun a E=>aZ E rfl (wn rfl) rfl rfl (fun w hW=>(wE E rfl rfl)) fun a E=>aZ E rfl (wn rfl) rfl rfl (fun w hW=>lB E rfl rfl (v:=pt l 7) (Lh _ _)) fun a E=>aZ E rfl (wn rfl) rfl rfl (fun w hW=>gK E rfl rfl (mE mm1 rfl U80 rfl w hW)) fun a E=>aZ E rfl (wn rfl) rfl rfl (fun w hW=>lB E rfl rfl (v:=pt f 2) (Ft _ _)) fun a E=>aZ E rfl (wn rfl) rfl rfl (fun w hW=>gK E rfl rfl (mE m0 rfl U2 rfl w hW)) fun a E=>?_
  refine mS rfl rfl ?_ ?_
  ·refine oD (i:=3) (K:=(kyI .i64)) E H (wn rfl) rfl rfl rfl rfl rfl rfl (fD U2) U80 Fz Js b4 fun i9 a H E=>?_
   obtain ⟨j0,j1,j2,j3,j4,j5,j6,rfl,h⟩:=E5 H;clear H;have H:=h
   refine nt<|?_
   refine ⟨⟨_,_,H,(aB mm1 (aB mm2 (aL))),(aN)⟩,?_⟩
   refine aZ E rfl (wn rfl) rfl rfl (fun w hW=>(bD E rfl rfl)) fun a E=>aZ E rfl (wn rfl) rfl rfl (fun w hW=>(dK E rfl rfl rfl)) fun a E=>aZ E rfl (wn rfl) rfl rfl (fun w hW=>(dK E rfl rfl rfl)) fun a E=>cP rfl<|al E H rfl rfl rfl rfl Jt fun j7 w a H E=>nt<|?_
   refine ⟨⟨_,_,H,(aB mm2 (aB mm3 (aL))),(aN)⟩,?_⟩
   refine cP rfl<|bC (i:=0) E H (wn rfl) rfl rfl rfl rfl rfl rfl Ju rfl (u9 H mm6 mm5 mm4 mm3 mm2 mm1 m0) fun w H=>nt<|?_
   refine ⟨⟨_,_,H,(aB mm2 (aB mm3 (aL))),(aN)⟩,?_⟩
   refine dA rfl<|pr 1 E rfl fun a E=>nt<|eV<|?_
   clear hI
   exact aD<|have H:=H.frs [4,1,2,3,4] rfl;X22 ⟨E.to rfl,H,(Y8 Y0),mm5,mm4,mm3,mm2,mm1,m0,hm⟩
  ·refine al E H rfl rfl rfl rfl Jt fun j8 w a H E=>nt<|?_
   refine ⟨⟨_,_,H,(aB mm2 (aB mm3 (aL))),(aN)⟩,?_⟩
   refine cP rfl<|oD (i:=4) (K:=(kyI .i64)) E H (wn rfl) rfl rfl rfl rfl rfl rfl (fD U2) U80 Fz Js b4 fun j9 a H E=>?_
   obtain ⟨k0,k1,k2,k3,k4,k5,k6,rfl,h⟩:=E5 H;clear H;have H:=h
   refine nt<|?_
   refine ⟨⟨_,_,H,(aB mm2 (aB mm3 (aL))),(aN)⟩,?_⟩
   refine aZ E rfl (wn rfl) rfl rfl (fun w hW=>(bD E rfl rfl)) fun a E=>aZ E rfl (wn rfl) rfl rfl (fun w hW=>(dK E rfl rfl rfl)) fun a E=>aZ E rfl (wn rfl) rfl rfl (fun w hW=>(dK E rfl rfl rfl)) fun a E=>cP rfl<|bC (i:=0) E H (wn rfl) rfl rfl rfl rfl rfl rfl Ju rfl (u9 H mm6 mm5 mm4 mm3 mm2 mm1 m0) fun w H=>nt<|?_
   refine ⟨⟨_,_,H,(aB mm2 (aB mm3 (aL))),(aN)⟩,?_⟩
   refine dA rfl<|pr 1 E rfl fun a E=>nt<|eV<|?_
   clear hI
   exact aD<|have H:=H.frs [4,1,2,3,4] rfl;X22 ⟨E.to rfl,H,(Y8 Y0),mm5,mm4,mm3,mm2,mm1,m0,hm⟩
 ·clear E H hm
  rintro a w ⟨c6,e5,P,Q,R,S,T,U,c7,c8,e6,V,X,Y,Z,c9,d0,d1,d2,d3,d4,k,E,H,m,d5,d6,d7,d8,d9,e0,hm⟩
  unfold tH at hm
  refine sq<|pr 1 E rfl fun a E=>nt<|wif E hm rfl (fun hm=>?_) fun hm=>?_
  ·refine wp_seq<|sq<|pr 1 E rfl fun a E=>lb E H 3 rfl rfl rfl rfl rfl rfl rfl U4 rfl fun a E=>nt<|wif E hm rfl (fun hm=>?_) fun hm=>?_
   ·refine sq<|bd hm fun g4 f1 hm=>cJ E rfl rfl rfl rfl rfl xU (eS H f1)<|?_
    rintro _ w ⟨g5,g6,g7,g8,g9,i0,rfl,H⟩ a E
    refine bC (i:=2) E H (wn rfl) rfl rfl rfl rfl rfl rfl bV rfl (bF H m0 mm1 mm2 mm3 mm4 mm5) fun w H=>nt<|wp_ret<|aP<|aP<|eC E rfl (dH (i:=2) (us:=(bA g4 g5 g6 g7 g8 g9 i0)) H rfl rfl rfl U36 rfl bV)<|have H:=H.drs [1,1,1];?_
    cases hm
    exact X7 ⟨rfl,H.reads (aA m0 (aA mm1 (aA mm2 (aA mm3 (aA mm4 (aA mm5 (aA (t6 (m _ J)) (fun r hr=>(t6 (m r hr))))))))))⟩
   ·refine wp_skip<|aD<|sq<|pr 1 E rfl fun a E=>sv E rfl rfl rfl (cD (i:=3) (us:=[.int .i64 V,.int .i64 X,.bool Y,.int .i64 Z,P,Q,R,S,T,U]) E H rfl rfl rfl rfl U36 rfl bV) fun a E=>bC (i:=2) E H (wn rfl) rfl rfl rfl rfl rfl rfl bV rfl (bF H d5 d6 d7 d8 d9 e0) fun w H=>nt<|wp_ret<|aP<|?_
    refine eC E rfl (dH (i:=2) (us:=[.int .i64 V,.int .i64 X,.bool Y,.int .i64 Z,P,Q,R,S,T,U]) H rfl rfl rfl U36 rfl bV)<|have H:=H.drs [1,1,1];?_
    cases hm
    exact X7 ⟨rfl,H.reads (aA d5 (aA d6 (aA d7 (aA d8 (aA d9 (aA e0 (aA (m _ J) (m))))))))⟩
  ·refine wp_skip<|aD<|sq<|pr 1 E rfl fun a E=>lb E H 1 rfl rfl rfl rfl rfl rfl rfl U40 rfl fun a E=>bd hm fun b5 f2 hm=>cJ E rfl rfl rfl rfl rfl DG (Ay H (m _ L) f2)<|?_
   rintro _ w ⟨b6,rfl,H⟩ a E
   refine pr 1 E rfl fun a E=>nx<|pr 2 E rfl fun a E=>have H:=H.thaw (i:=0) rfl;bd hm fun e7 f3 hm=>xk E rfl rfl rfl rfl rfl DK (C6 H (t1 (m _ f0)) m0 f3) fun w H a E=>pr 1 E rfl fun a E=>nt<|aT (fun a w=>∃ e1 N,Env 103 a [(0,pt l 0),(3,pt f 0),(4,pt B 0),(7,b6),(8,.int .i64 e1)]∧Sep w (Blk l 82 [C,D,I,M,p,q,s,.map (some e),t]::Blk f 43 (aS x20 o x y z)::Blk B 36 bO::cC Tryz.prog 2 (kyI .i64) cW true e u::Fo) N∧(∀ r,r ∈ rs→r ∈ N)∧rSl kS b6 b5 ∈ N∧oV u x20 c2 b5 b0 b1 e1=some r) ?_ ?_
   ·refine aT (fun a w=>∃ b2 F,Env 103 a [(0,pt l 0),(3,pt f 0),(4,pt B 0),(7,b6),(8,.int .i64 e7),(47,.bool b2)]∧Sep w (Blk l 82 [C,D,I,M,p,q,s,.map (some e),t]::Blk f 43 (aS x20 o x y z)::Blk B 36 bO::cC Tryz.prog 2 (kyI .i64) cW true e u::Fo) F∧(∀ r,r ∈ rs→r ∈ F)∧rSl kS b6 b5 ∈ F∧oW u x20 c2 b5 b0 b1 e7 b2=some r) ?_ ?_
    ·refine wp_region_lit<|pr 3 E rfl fun a E=>cs hm (fun n hm=>?_) fun n hm=>?_
     ·exact pk 3 E (kc 40 rfl n) rfl fun a E=>aQ E (ws' (d:=40) E rfl rfl rfl rfl n) rfl rfl (bT (i:=0) E H rfl rfl rfl rfl U80 rfl) fun a E=>aQ E (ws' (d:=40) E rfl rfl rfl rfl n) rfl rfl (F2 (i:=4) E H rfl rfl rfl U80) fun a E=>pk 2 E (kc 40 rfl n) rfl fun a E=>nt<|have H:=H.drop 3;⟨_,_,E.to rfl,H,(Y1 m),m0,hm⟩
     ·exact pk 7 E (kc 40 rfl n) rfl fun a E=>nt<|have H:=H.drop 3;⟨_,_,E.to rfl,H,(Y1 m),m0,hm⟩
    ·clear E H hm
     rintro a w ⟨b2,F,E,H,b7,b8,hm⟩
     unfold oW at hm
     refine wif E hm rfl (fun hm=>?_) fun hm=>?_
     ·exact wp_region_lit<|pr 1 E rfl fun a E=>nt<|⟨_,_,E.to rfl,H,b7,b8,hm⟩
     ·exact wp_skip<|aD<|⟨_,_,E.to rfl,H,b7,b8,hm⟩
   ·clear E H hm
    rintro a w ⟨e1,N,E,H,c,f4,hm⟩
    unfold oV at hm
    refine wp_seq<|sq<|pr 2 E rfl fun a E=>nt<|wif E hm rfl (fun hm=>?_) fun hm=>?_
    ·refine sq<|pr 1 E rfl fun a E=>bd hm fun i1 f5 hm=>cJ E rfl rfl rfl rfl rfl xU (eS H f5)<|?_
     rintro _ w ⟨i2,i3,i4,i5,i6,i7,rfl,H⟩ a E
     refine bC (i:=2) E H (wn rfl) rfl rfl rfl rfl rfl rfl bV rfl (bF H m0 mm1 mm2 mm3 mm4 mm5) fun w H=>nt<|wp_ret<|aP<|eC E rfl (dH (i:=2) (us:=(bA i1 i2 i3 i4 i5 i6 i7)) H rfl rfl rfl U36 rfl bV)<|have H:=H.drs [1,1];?_
     cases hm
     exact X7 ⟨rfl,H.reads (aA m0 (aA mm1 (aA mm2 (aA mm3 (aA mm4 (aA mm5 (aA (t6 (c _ J)) (fun r hr=>(t6 (c r hr))))))))))⟩
    ·refine wp_skip<|aD<|wp_seq<|dw [(0,0),(1,0),(2,0),(3,0),(4,0),(5,0),(6,0),(7,0),(8,0),(9,1),(10,0),(11,0),(12,0),(13,0),(14,1),(15,1),(16,2)] [0,1] [] H (by kernel_rfl) (fun _ _ _ h=>False.elim h.2) fun w W0 hI H=>fn 3 E rfl fun a E=>fb E rfl (wn rfl) rfl rfl rfl rfl m0 rfl U56 rfl fun a E=>fn 1 E rfl fun a E=>fb E rfl (wn rfl) rfl rfl rfl rfl mm1 rfl U2 rfl fun a E=>fn 1 E rfl fun a E=>?_
     refine fb E rfl (wn rfl) rfl rfl rfl rfl mm1 rfl U2 rfl fun a E=>fn 1 E rfl fun a E=>cE rfl<|bd hm fun b9 f6 hm=>cJ E rfl rfl rfl rfl rfl LX (Ls H (c _ J) f4 f6)<|?_
     rintro _ w ⟨e8,l9,rfl,H⟩ a E
     refine nt<|?_
     refine ⟨⟨_,_,H,(aB mm1 (aB mm2 (aL))),(aN)⟩,?_⟩
     refine fn 4 E rfl fun a E=>cE rfl<|pr 1 E rfl fun a E=>nt<|?_
     refine ⟨⟨_,_,H,(aB mm1 (aB mm2 (aL))),(aN)⟩,?_⟩
     refine cE rfl<|pr 1 E rfl fun a E=>nt<|?_
     refine ⟨⟨_,_,H,(aB mm1 (aB mm2 (aL))),(aN)⟩,?_⟩
     refine bQ rfl<|pr 1 E rfl fun a E=>nt<|bR<|?_
     clear hI
     refine aD<|wp_seq<|sq<|pr 2 E rfl fun a E=>nt<|wif E hm rfl (fun hm=>?_) fun hm=>?_
     ·refine sq<|pr 1 E rfl fun a E=>?_
      obtain ⟨q99,e2,rfl⟩:=H.rowform (i:=0) rfl
      refine sv E rfl rfl rfl (cN E rfl (E.evs rfl) (v:=.agg #[.int .i64 131,.int .i64 0,.bool false,.int .i64 0,.slice none 0 0,.slice none 0 0,.slice none 0 0,.slice none 0 0,.slice none 0 0,(.slice q99 b9.2.1.length e2)]) (by kernel_rfl)) fun a E=>bC (i:=3) E H (wn rfl) rfl rfl rfl rfl rfl rfl bV rfl rfl fun w H=>nt<|wp_ret<|aP<|eC E rfl (dH (i:=3) (us:=[.int .i64 131,.int .i64 0,.bool false,.int .i64 0,.slice none 0 0,.slice none 0 0,.slice none 0 0,.slice none 0 0,.slice none 0 0,(.slice q99 b9.2.1.length e2)]) H rfl rfl rfl U36 rfl bV)<|have H:=H.thaw (i:=0) rfl;have H:=H.nilSl bE;have H:=H.nilSl aG;?_
      refine have H:=H.nilSl aK;have H:=H.nilSl aU;have H:=H.nilSl bN;have H:=H.drs [1,1];?_
      cases hm
      exact X7 ⟨rfl,H.reads (aA mm4 (aA mm3 (aA mm2 (aA mm1 (aA m0 (aA mm5 (aA (t7 (c _ J)) (fun r hr=>(t7 (c r hr))))))))))⟩
     ·refine wp_skip<|aD<|aT (fun a w=>∃ b3 b g j G,Env 103 a [(0,pt l 0),(3,pt f 0),(4,pt B 0),(8,.int .i64 b),(9,e8),(13,b3),(14,.int .i64 j)]∧Sep w (Blk l 82 [C,D,I,M,p,q,s,.map (some e),t]::Blk f 43 (aS x20 o x y z)::Blk B 36 bO::Row 48 bE b3 g::cC Tryz.prog 2 (kyI .i64) cW true e u::Fo) G∧(∀ r,r ∈ rs→r ∈ G)∧rSl bG e8 b9.1 ∈ G∧tG u x20 b9 b g j=some r) ?_ ?_
      ·refine bd hm fun k7 c0 hm=>?_
       have hI:eK [Blk l 82 [C,D,I,M,p,q,s,.map (some e),t],Blk f 43 (aS x20 o x y z)] [] { w with drawn:=w.drawn+1 }:=⟨_,_,H.kept (Kp.drawn _ w _),(aB mm1 (aB mm2 (aL))),(aN)⟩
       refine lZ _ (.go 0 0 (.go 1 0 (.go 2 0 (.go 3 0 (.go 4 0 (.go 5 0 (.alt 6 (.go 7 0 (.go 8 0 (.go 9 0 (.go 10 0 (.go 11 0 (.go 12 1 (.go 13 1 (.go 14 1 (.go 15 1 (.go 16 2 .nil)))))))))) 12 (.go 6 1 (.go 7 0 (.go 8 0 (.go 9 0 (.go 10 0 (.go 11 0 (.go 13 1 (.go 14 1 (.go 15 1 (.go 16 2 .nil))))))))))))))))) [16] mI (by kernel_rfl) (fun _ _ _ h=>False.elim h.2) hI<|have H:=H.kept (Kp.drawn _ w (w.drawn+1));?_
       generalize ({ w with drawn:=w.drawn+1 }:World)=w at H hI ⊢
       replace hI:∃ W,eK [Blk l 82 [C,D,I,M,p,q,s,.map (some e),t],Blk f 43 (aS x20 o x y z)] [] W:=⟨_,hI⟩
       obtain ⟨W0,hI⟩:=hI
       refine aZ E rfl (wn rfl) rfl rfl (fun w hW=>(bD E rfl rfl)) fun a E=>aZ E rfl (wn rfl) rfl rfl (fun w hW=>(wE E rfl rfl)) fun a E=>aZ E rfl (wn rfl) rfl rfl (fun w hW=>lB E rfl rfl (v:=pt l 0) (Fw _ _)) fun a E=>aZ E rfl (wn rfl) rfl rfl (fun w hW=>gK E rfl rfl (z7 (us:=[C,D]) m0 rfl U31 rfl dP w hW)) fun a E=>aZ E rfl (wn rfl) rfl rfl (fun w hW=>lB E rfl rfl (v:=pt f 5) (Rw _ _)) fun a E=>aZ E rfl (wn rfl) rfl rfl (fun w hW=>gK E rfl rfl (mE mm1 rfl U40 rfl w hW)) fun a E=>?_
       refine mS rfl rfl ?_ ?_
       ·refine cJ E rfl rfl rfl rfl rfl Vf (P9 (x1:=(⟨b0,b1⟩:aW)) H (t1 (c _ c3)) (t1 (c _ c4)) (t1 (c _ L)) (t1 (c _ c5)) c0)<|?_
        rintro _ w ⟨k8,k9,l0,rfl,H⟩ a E
        refine nt<|?_
        refine ⟨⟨_,_,H,(aB mm2 (aB mm3 (aL))),(aN)⟩,?_⟩
        refine aZ E rfl (wn rfl) rfl rfl (fun w hW=>(bD E rfl rfl)) fun a E=>aZ E rfl (wn rfl) rfl rfl (fun w hW=>(dK E rfl rfl rfl)) fun a E=>aZ E rfl (wn rfl) rfl rfl (fun w hW=>(dK E rfl rfl rfl)) fun a E=>aZ E rfl (wn rfl) rfl rfl (fun w hW=>(dK E rfl rfl rfl)) fun a E=>aZ E rfl (wn rfl) rfl rfl (fun w hW=>(dK E rfl rfl rfl)) fun a E=>cP rfl<|al E H rfl rfl rfl rfl lR fun l1 w a H E=>nt<|?_
        refine ⟨⟨_,_,H,(aB mm3 (aB mm4 (aL))),(aN)⟩,?_⟩
        refine cP rfl<|bC (i:=0) E H (wn rfl) rfl rfl rfl rfl rfl rfl dP rfl (lN H m0 mm1) fun w H=>nt<|?_
        refine ⟨⟨_,_,H,(aB mm3 (aB mm4 (aL))),(aN)⟩,?_⟩
        refine cP rfl<|pr 1 E rfl fun a E=>nt<|?_
        refine ⟨⟨_,_,H,(aB mm3 (aB mm4 (aL))),(aN)⟩,?_⟩
        refine cP rfl<|pr 1 E rfl fun a E=>nt<|?_
        refine ⟨⟨_,_,H,(aB mm3 (aB mm4 (aL))),(aN)⟩,?_⟩
        refine dA rfl<|pr 1 E rfl fun a E=>nt<|eV<|?_
        clear hI
        exact aD<|have H:=H.drs [0,1];have H:=H.frs [4,1,4,4,4] rfl;X5 ⟨E.to rfl,H,(Y3 c),mm2,hm⟩
       ·refine al E H rfl rfl rfl rfl lR fun l2 w a H E=>nt<|?_
        refine ⟨⟨_,_,H,(aB mm2 (aB mm3 (aL))),(aN)⟩,?_⟩
        refine cP rfl<|cJ E rfl rfl rfl rfl rfl Vf (P9 (x1:=(⟨b0,b1⟩:aW)) H (t1 (c _ c3)) (t1 (c _ c4)) (t1 (c _ L)) (t1 (c _ c5)) c0)<|?_
        rintro _ w ⟨l3,l4,l5,rfl,H⟩ a E
        refine nt<|?_
        refine ⟨⟨_,_,H,(aB mm3 (aB mm4 (aL))),(aN)⟩,?_⟩
        refine aZ E rfl (wn rfl) rfl rfl (fun w hW=>(bD E rfl rfl)) fun a E=>aZ E rfl (wn rfl) rfl rfl (fun w hW=>(dK E rfl rfl rfl)) fun a E=>aZ E rfl (wn rfl) rfl rfl (fun w hW=>(dK E rfl rfl rfl)) fun a E=>aZ E rfl (wn rfl) rfl rfl (fun w hW=>(dK E rfl rfl rfl)) fun a E=>aZ E rfl (wn rfl) rfl rfl (fun w hW=>(dK E rfl rfl rfl)) fun a E=>cP rfl<|bC (i:=1) E H (wn rfl) rfl rfl rfl rfl rfl rfl dP rfl (lN H m0 mm1) fun w H=>nt<|?_
        refine ⟨⟨_,_,H,(aB mm3 (aB mm4 (aL))),(aN)⟩,?_⟩
        refine cP rfl<|pr 1 E rfl fun a E=>nt<|?_
        refine ⟨⟨_,_,H,(aB mm3 (aB mm4 (aL))),(aN)⟩,?_⟩
        refine cP rfl<|pr 1 E rfl fun a E=>nt<|?_
        refine ⟨⟨_,_,H,(aB mm3 (aB mm4 (aL))),(aN)⟩,?_⟩
        refine dA rfl<|pr 1 E rfl fun a E=>nt<|eV<|?_
        clear hI
        exact aD<|have H:=H.drs [1,1];have H:=H.frs [4,1,4,4,4] rfl;X5 ⟨E.to rfl,H,(Y3 c),mm2,hm⟩
      ·clear E H hm
       rintro a w ⟨b3,b,g,j,G,E,H,O,c1,hm⟩
       unfold tG at hm
       refine sq<|pr 5 E rfl fun a E=>?_
       obtain ⟨q108,A,rfl⟩:=H.rowform (i:=3) rfl
       refine sv E rfl rfl rfl (cN E rfl (E.evs rfl) (v:=.agg #[.int .i64 b,.int .i64 j,.bool (b == 0),.int .i64 0,(.slice q108 g.length A),.slice none 0 0,.slice none 0 0,.slice none 0 0,.slice none 0 0,.slice none 0 0]) (by kernel_rfl)) fun a E=>al E H rfl rfl rfl rfl iO fun l6 w a H E=>bC (i:=0) E H (wn rfl) rfl rfl rfl rfl rfl rfl bV rfl rfl fun w H=>nx<|pr 4 E rfl fun a E=>?_
       obtain ⟨q111,l7,rfl⟩:=H.slform c1
       refine bC (i:=1) E H (wn rfl) rfl rfl rfl rfl rfl rfl EB rfl rfl fun w H=>nt<|wp_seq<|dw [(0,0),(1,0),(2,0),(3,0),(4,0),(5,0),(6,0),(7,0),(8,0),(9,0),(10,2)] [0,1,2] [] H (by kernel_rfl) (fun _ _ _ h=>False.elim h.2) fun w W0 hI H=>fn 3 E rfl fun a E=>fb E rfl (wn rfl) rfl rfl rfl rfl mm1 rfl U80 rfl fun a E=>fn 1 E rfl fun a E=>fb E rfl (wn rfl) rfl rfl rfl rfl mm2 rfl U2 rfl fun a E=>fn 1 E rfl fun a E=>?_
       refine fb E rfl (wn rfl) rfl rfl rfl rfl mm2 rfl U40 rfl fun a E=>fbn E [.int .i64 b,.int .i64 j,.bool (b == 0),.int .i64 0,(.slice q108 g.length A),.slice none 0 0,.slice none 0 0,.slice none 0 0,.slice none 0 0,.slice none 0 0] rfl (wn rfl) rfl rfl rfl rfl m0 rfl U36 rfl bV fun a E=>?_
       obtain ⟨q113,e3,rfl⟩:=H.slform (O _ L)
       refine cB E rfl (wn rfl) rfl rfl (fun w hW=>(cN E rfl (E.evs rfl) (v:=.agg #[.bool false,(.slice q113 x20.Pieces.length e3),.int .i64 b,.int .i64 j,.bool (b == 0),.int .i64 0,(.slice q108 g.length A),.slice none 0 0,.slice none 0 0,.slice none 0 0,.slice none 0 0,.slice none 0 0]) (by kernel_rfl))) fun a E=>?_
       refine bQ rfl<|have H:=H.thaw (i:=4) rfl;bd hm fun l8 e4 hm=>C9 (i:=4) (K:=(kyI .i64)) (v:=(⟨false,x20.Pieces,(⟨b,j,b == 0,0,g,(⟨[],[]⟩:aW),[],[],[]⟩:aE)⟩:bJ)) (cs:=[.bool false,(.slice q113 x20.Pieces.length e3),.int .i64 b,.int .i64 j,.bool (b == 0),.int .i64 0,(.slice q108 g.length A),.slice none 0 0,.slice none 0 0,.slice none 0 0,.slice none 0 0,.slice none 0 0]) E H (wn rfl) rfl rfl rfl rfl rfl rfl (fD U2) U80 e4 (fun ok hr=>(D3 (hr _ (t1 (O _ L))) (hr _ m0) (Sl.nil _ _ _) (Sl.nil _ _ _) (Sl.nil _ _ _) (Sl.nil _ _ _) (Sl.nil _ _ _))) fun w H=>nt<|bR<|?_
       clear hI
       refine aD<|sq<|sv E rfl rfl rfl (cD (i:=0) (us:=[.int .i64 b,.int .i64 j,.bool (b == 0),.int .i64 0,(.slice q108 g.length A),.slice none 0 0,.slice none 0 0,.slice none 0 0,.slice none 0 0,.slice none 0 0]) E H rfl rfl rfl rfl U36 rfl bV) fun a E=>bC (i:=3) E H (wn rfl) rfl rfl rfl rfl rfl rfl bV rfl rfl fun w H=>nt<|wp_ret<|eC E rfl (dH (i:=3) (us:=[.int .i64 b,.int .i64 j,.bool (b == 0),.int .i64 0,(.slice q108 g.length A),.slice none 0 0,.slice none 0 0,.slice none 0 0,.slice none 0 0,.slice none 0 0]) H rfl rfl rfl U36 rfl bV)<|have H:=H.nilSl aG;have H:=H.nilSl aK;?_
       refine have H:=H.nilSl aU;have H:=H.nilSl bN;have H:=H.nilSl (kI .i64);have H:=H.drs [0,1,1];?_
       cases hm
       exact X7 ⟨rfl,H.reads (aA mm5 (aA mm4 (aA mm3 (aA mm2 (aA mm1 (aA m0 (aA (t6 c1) (fun r hr=>(t6 (O r hr))))))))))⟩

def tM(i:List aF)(j:List aI)(m:List aH)(k:List aM)(c:List aJ)(d:List aC)(e:List ((Int)×aE))(f:List ((Int)×bJ))(g:List ((Int)×aE))(x20:aV)(t:Bool):Option (aE×(List aF)×(List aI)×(List aH)×(List aM)×(List aJ)×(List aC)×(List ((Int)×aE))×(List ((Int)×bJ))×(List ((Int)×aE))):=
  if t=true then ((eH 1).bind fun s=>some (s,i,j,m,k,c,d,e,f,g)) else (if (x20.Kind == 2)=true then ((vT i j m k f x20).bind fun n=>some (n.1,i,j,m,n.2.1,c,d,e,n.2.2,g)) else (if (x20.Kind == 3)=true then ((wP i j k c d f x20).bind fun b=>some (b.1,b.2.1,b.2.2.1,m,b.2.2.2.1,b.2.2.2.2.1,b.2.2.2.2.2.1,e,b.2.2.2.2.2.2,g)) else (if (x20.Kind == 4)=true then ((wK g x20).bind fun p=>some (p.1,i,j,m,k,c,d,e,f,p.2)) else (if (x20.Kind == 5)=true then ((wS i j m k x20).bind fun q=>some (q.1,i,j,q.2,k,c,d,e,f,g)) else (if (x20.Kind == 6)=true then ((vP i j m k x20).bind fun l=>some (l.1,l.2.1,l.2.2.1,l.2.2.2,k,c,d,e,f,g)) else (if (x20.Kind == 7)=true then ((zE i j m x20).bind fun o=>some ((⟨0,0,false,0,[],(⟨[],[]⟩:aW),[],[],[]⟩:aE),o.1,o.2.1,o.2.2,k,c,d,e,f,g)) else none))))))
def mP(n:List aF)(o:List aI)(i:List aH)(j:List aM)(b:List aJ)(c:List aC)(d:List ((Int)×aE))(e:List ((Int)×bJ))(f:List ((Int)×aE))(x20:aV)(p:Bool):Option (aE×(List aF)×(List aI)×(List aH)×(List aM)×(List aJ)×(List aC)×(List ((Int)×aE))×(List ((Int)×bJ))×(List ((Int)×aE))):=
  if p=true then (if (x20.Kind == 1)=true then ((oS n o i j b c d x20).bind fun g=>some (g.1,g.2.1,g.2.2.1,i,j,g.2.2.2.1,g.2.2.2.2.1,g.2.2.2.2.2,e,f)) else (if (x20.Kind == 8)=true then ((wV b c d x20).bind fun k=>some (k.1,n,o,i,j,k.2.1,k.2.2.1,k.2.2.2,e,f)) else (if (x20.Kind == 9)=true then ((wU b c d x20).bind fun l=>some (l.1,n,o,i,j,l.2.1,l.2.2.1,l.2.2.2,e,f)) else (if (x20.Kind == 10)=true then ((uN b c d x20).bind fun m=>some (m.1,n,o,i,j,m.2.1,m.2.2.1,m.2.2.2,e,f)) else none)))) else (if (decide (x20.Kind ≥ 5))=true then (tM n o i j b c d e f x20 (sEq x20.Prefix (ByteArray.mk #[]))) else (tM n o i j b c d e f x20 false))
def mQ(g:List aF)(i:List aI)(j:List aH)(k:List aM)(b:List aJ)(c:List aC)(d:List ((Int)×aE))(e:List ((Int)×bJ))(f:List ((Int)×aE))(x20:aV)(l:Bool):Option (aE×(List aF)×(List aI)×(List aH)×(List aM)×(List aJ)×(List aC)×(List ((Int)×aE))×(List ((Int)×bJ))×(List ((Int)×aE))):=
  if l=true then ((eH 1).bind fun m=>some (m,g,i,j,k,b,c,d,e,f)) else (if (x20.Kind == 1)=true then (mP g i j k b c d e f x20 (x20.Kind == 1)) else (mP g i j k b c d e f x20 (decide (x20.Kind ≥ 8))))
def eA(i:List aF)(j:List aI)(k:List aH)(l:List aM)(c:List aJ)(d:List aC)(e:List ((Int)×aE))(f:List ((Int)×bJ))(g:List ((Int)×aE))(x20:aV):Option (aE×(List aF)×(List aI)×(List aH)×(List aM)×(List aJ)×(List aC)×(List ((Int)×aE))×(List ((Int)×bJ))×(List ((Int)×aE))):=
  (oI x20).bind fun b=>if (!b)=true then (mQ i j k l c d e f g x20 (!b)) else (mQ i j k l c d e f g x20 (decide (x20.Kind > 10)))
theorem iR{G t u x:Nat}{X Y Z b0 J K n o p q:Value}{b1:List aF}{b2:List aI}{b3:List aH}{b4:List aM}{L:List aJ}{M:List aC}{z A:List ((Int)×aE)}{B:List ((Int)×bJ)}{x20:aV}(H:Sep w (Blk G 82 [X,Y,Z,b0,J,K,.map (some t),.map (some u),.map (some x)]::cC Tryz.prog 2 (kyI .i64) bI true t z::cC Tryz.prog 2 (kyI .i64) cW true u B::cC Tryz.prog 2 (kyI .i64) bI true x A::Fo) rs)(f:rSl aG X b1 ∈ rs)(g:rSl aK Y b2 ∈ rs)(k:rSl aR Z b3 ∈ rs)(e:rSl bG b0 b4 ∈ rs)(l:rSl aY J L ∈ rs)(m:rSl aO K M ∈ rs)(N:rSl cF n x20.Pieces ∈ rs)(b5:rSl aG o x20.Store.Nodes ∈ rs)(b6:rSl aK p x20.Store.Turns ∈ rs)(b7:rSl kS q x20.Gone ∈ rs)(O:x4 Tryz.prog ∈ rs){r:aE×(List aF)×(List aI)×(List aH)×(List aM)×(List aJ)×(List aC)×(List ((Int)×aE))×(List ((Int)×bJ))×(List ((Int)×aE))}(hm:eA b1 b2 b3 b4 L M z B A x20=some r) :
    Calls Tryz.prog 6 [pt G 0,.agg (aS x20 n o p q).toArray].toArray w (Ret fun v w'=>∃ j5 j6 j7 j8 j9 k0 k1 d3 d4 d5 d6 d7,.agg (bA r.1 j5 j6 j7 j8 j9 k0).toArray=v∧Sep w' (Blk G 82 [k1,d3,d4,d5,d6,d7,.map (some t),.map (some u),.map (some x)]::cC Tryz.prog 2 (kyI .i64) bI true t r.2.2.2.2.2.2.2.1::cC Tryz.prog 2 (kyI .i64) cW true u r.2.2.2.2.2.2.2.2.1::cC Tryz.prog 2 (kyI .i64) bI true x r.2.2.2.2.2.2.2.2.2::Fo) (rSl bE j5 r.1.Results::rSl aG j6 r.1.Store.Nodes::rSl aK j7 r.1.Store.Turns::rSl aU j8 r.1.Events::rSl bN j9 r.1.Mounts::rSl (kI .i64) k0 r.1.Wounded::rSl aG k1 r.2.1::rSl aK d3 r.2.2.1::rSl aR d4 r.2.2.2.1::rSl bG d5 r.2.2.2.2.1::rSl aY d6 r.2.2.2.2.2.1::rSl aO d7 r.2.2.2.2.2.2.1::rs)):=by
 unfold eA at hm
 refine ent Tryz.func6 rfl Tryz.ntmps6 rfl rfl fun a E=>sq<|bS E H (wn rfl) rfl rfl rfl rfl rfl fun C w a H E=>al E H rfl rfl rfl rfl iO fun D w a H E=>nx<|sv E rfl rfl rfl (cN E rfl (E.evs rfl) (v:=.agg #[.nilFunc,.func (.func 13) #[] #[],.func (.func 14) #[] #[],.func (.func 15) #[] #[],.func (.func 16) #[] #[],.func (.func 17) #[] #[],.func (.func 18) #[] #[],.func (.func 19) #[] #[],.func (.func 20) #[] #[],.func (.func 21) #[] #[],.func (.func 22) #[] #[]]) (by kernel_rfl)) fun a E=>al E H rfl rfl rfl rfl KL fun F w a H E=>bC (i:=0) E H (wn rfl) rfl rfl rfl rfl rfl rfl KM rfl rfl fun w H=>nt<|?_
 refine wp_seq<|wp_block<|aT (fun a w=>∃ b8 P,Env 46 a [(0,pt G 0),(3,pt C 0),(4,pt D 0),(5,pt F 0),(7,.bool b8)]∧Sep w (Blk G 82 [X,Y,Z,b0,J,K,.map (some t),.map (some u),.map (some x)]::Blk C 43 (aS x20 n o p q)::Blk D 36 bO::Blk F 64 [.nilFunc,.func (.func 13) #[] #[],.func (.func 14) #[] #[],.func (.func 15) #[] #[],.func (.func 16) #[] #[],.func (.func 17) #[] #[],.func (.func 18) #[] #[],.func (.func 19) #[] #[],.func (.func 20) #[] #[],.func (.func 21) #[] #[],.func (.func 22) #[] #[]]::cC Tryz.prog 2 (kyI .i64) bI true t z::cC Tryz.prog 2 (kyI .i64) cW true u B::cC Tryz.prog 2 (kyI .i64) bI true x A::Fo) P∧(∀ r,r ∈ rs→r ∈ P)∧mQ b1 b2 b3 b4 L M z B A x20 b8=some r) ?_ ?_
 ·refine sq<|sv E rfl rfl rfl (cD (i:=2) (us:=(aS x20 n o p q)) E H rfl rfl rfl rfl U43 rfl G4) fun a E=>bd hm fun n8 c5 hm=>xk E rfl rfl rfl rfl rfl KN (Gf H N b5 b6 b7 c5) fun w H a E=>pr 2 E rfl fun a E=>nt<|wif E hm rfl (fun hm=>?_) fun hm=>?_
  ·exact wp_skip<|aD<|have H:=H.frs [6,6,6,3,4,5,6] rfl;⟨_,_,E.to rfl,H,Y0,hm⟩
  ·exact wp_region_lit<|pr 1 E rfl fun a E=>lb E H 2 rfl rfl rfl rfl rfl rfl rfl U3 rfl fun a E=>pr 2 E rfl fun a E=>nt<|have H:=H.frs [6,6,6,3,4,5,6] rfl;⟨_,_,E.to rfl,H,Y0,hm⟩
 ·clear E H hm
  rintro a w ⟨b8,P,E,H,s,hm⟩
  unfold mQ at hm
  refine wif E hm rfl (fun hm=>?_) fun hm=>?_
  ·refine sq<|bd hm fun k2 d8 hm=>cJ E rfl rfl rfl rfl rfl xU (eS H d8)<|?_
   rintro _ w ⟨k3,k4,k5,k6,k7,k8,rfl,H⟩ a E
   refine bC (i:=2) E H (wn rfl) rfl rfl rfl rfl rfl rfl bV rfl (bF H m0 mm1 mm2 mm3 mm4 mm5) fun w H=>nt<|wp_ret<|bU<|aP<|eC E rfl (dH (i:=2) (us:=(bA k2 k3 k4 k5 k6 k7 k8)) H rfl rfl rfl U36 rfl bV)<|have H:=H.drs [1,1,1];?_
   cases hm
   exact X12 ⟨rfl,H.reads (aA m0 (aA mm1 (aA mm2 (aA mm3 (aA mm4 (aA mm5 (aA (t6 (s _ f)) (aA (t6 (s _ g)) (aA (t6 (s _ k)) (aA (t6 (s _ e)) (aA (t6 (s _ l)) (aA (t6 (s _ m)) (fun r hr=>(t6 (s r hr)))))))))))))))⟩
  ·refine aT (fun a w=>∃ b9 Q,Env 46 a [(0,pt G 0),(3,pt C 0),(4,pt D 0),(5,pt F 0),(15,.bool b9)]∧Sep w (Blk G 82 [X,Y,Z,b0,J,K,.map (some t),.map (some u),.map (some x)]::Blk C 43 (aS x20 n o p q)::Blk D 36 bO::Blk F 64 [.nilFunc,.func (.func 13) #[] #[],.func (.func 14) #[] #[],.func (.func 15) #[] #[],.func (.func 16) #[] #[],.func (.func 17) #[] #[],.func (.func 18) #[] #[],.func (.func 19) #[] #[],.func (.func 20) #[] #[],.func (.func 21) #[] #[],.func (.func 22) #[] #[]]::cC Tryz.prog 2 (kyI .i64) bI true t z::cC Tryz.prog 2 (kyI .i64) cW true u B::cC Tryz.prog 2 (kyI .i64) bI true x A::Fo) Q∧(∀ r,r ∈ rs→r ∈ Q)∧mP b1 b2 b3 b4 L M z B A x20 b9=some r) ?_ ?_
   ·refine sq<|pr 1 E rfl fun a E=>lb E H 1 rfl rfl rfl rfl rfl rfl rfl U3 rfl fun a E=>pr 2 E rfl fun a E=>nt<|wif E hm rfl (fun hm=>?_) fun hm=>?_
    ·exact wp_skip<|aD<|⟨_,_,E.to rfl,H,s,hm⟩
    ·exact wp_region_lit<|pr 1 E rfl fun a E=>lb E H 1 rfl rfl rfl rfl rfl rfl rfl U3 rfl fun a E=>pr 2 E rfl fun a E=>nt<|⟨_,_,E.to rfl,H,s,hm⟩
   ·clear E H hm
    rintro a w ⟨b9,Q,E,H,c,hm⟩
    unfold mP at hm
    refine wif E hm rfl (fun hm=>?_) fun hm=>?_
    ·refine wp_seq<|dw [(0,0),(1,0),(2,0),(3,0),(4,0),(5,0),(6,1),(7,2)] [1,3] [] H (by kernel_rfl) (fun _ _ _ h=>False.elim h.2) fun w W0 hI H=>fn 1 E rfl fun a E=>fbn E (aS x20 n o p q) rfl (wn rfl) rfl rfl rfl rfl m0 rfl U43 rfl G4 fun a E=>fn 1 E rfl fun a E=>fb E rfl (wn rfl) rfl rfl rfl rfl m0 rfl U3 rfl fun a E=>cs hm (fun c0 hm=>?_) fun c0 hm=>?_
     ·refine cB E rfl (wn rfl) rfl rfl (fun w hW=>rA (j:=1) E rfl rfl rfl c0 rfl U64 O5) fun a E=>?_
      refine fb E rfl (wn rfl) rfl rfl rfl rfl mm1 rfl U63 rfl fun a E=>cE rfl<|have H:=H.frs [6,6,5,5,5,6,6] rfl;bd hm fun k9 d9 hm=>cJ E rfl rfl rfl rfl rfl Pm (V5 H (c _ f) (c _ g) (c _ k) (c _ e) (c _ l) (c _ m) (c _ N) (c _ O) d9)<|?_
      rintro _ w ⟨l0,l1,l2,l3,l4,l5,p3,p4,p5,p6,rfl,H⟩ a E
      refine nt<|?_
      refine ⟨⟨_,_,H,(aB mm2 (aB mm4 (aL))),(aN)⟩,?_⟩
      refine bQ rfl<|bC (i:=3) E H (wn rfl) rfl rfl rfl rfl rfl rfl bV rfl (bF H m0 mm1 mm2 mm3 mm4 mm5) fun w H=>nt<|bR<|?_
      clear hI
      refine aD<|wp_ret<|bU<|aP<|eC E rfl (dH (i:=3) (us:=(bA k9.1 l0 l1 l2 l3 l4 l5)) H rfl rfl rfl U36 rfl bV)<|have H:=H.drs [2,2,2];?_
      cases hm
      exact X12 ⟨rfl,H.reads (aA m0 (aA mm1 (aA mm2 (aA mm3 (aA mm4 (aA mm5 (aA mm6 (aA (t1 mm6) (aA (t2 (t8 (c _ k))) (aA (t2 (t8 (c _ e))) (aA (t2 mm6) (aA (t3 mm6) (fun r hr=>(t2 (t8 (c r hr))))))))))))))))⟩
     ·refine cs hm (fun c1 hm=>?_) fun c1 hm=>?_
      ·refine cB E rfl (wn rfl) rfl rfl (fun w hW=>rA (j:=8) E rfl rfl rfl c1 rfl U64 O5) fun a E=>?_
       refine fb E rfl (wn rfl) rfl rfl rfl rfl mm1 rfl U63 rfl fun a E=>cE rfl<|have H:=H.frs [6,6,5,5,5,6,6] rfl;bd hm fun l6 e0 hm=>cJ E rfl rfl rfl rfl rfl Pm (V4 H (c _ l) (c _ m) e0)<|?_
       rintro _ w ⟨l7,l8,l9,m1,m2,m3,p7,p8,rfl,H⟩ a E
       refine nt<|?_
       refine ⟨⟨_,_,H,(aB mm2 (aB mm4 (aL))),(aN)⟩,?_⟩
       refine bQ rfl<|bC (i:=3) E H (wn rfl) rfl rfl rfl rfl rfl rfl bV rfl (bF H m0 mm1 mm2 mm3 mm4 mm5) fun w H=>nt<|bR<|?_
       clear hI
       refine aD<|wp_ret<|bU<|aP<|eC E rfl (dH (i:=3) (us:=(bA l6.1 l7 l8 l9 m1 m2 m3)) H rfl rfl rfl U36 rfl bV)<|have H:=H.drs [2,2,2];?_
       cases hm
       exact X12 ⟨rfl,H.reads (aA m0 (aA mm1 (aA mm2 (aA mm3 (aA mm4 (aA mm5 (aA (t8 (c _ f)) (aA (t8 (c _ g)) (aA (t8 (c _ k)) (aA (t8 (c _ e)) (aA mm6 (aA (t1 mm6) (fun r hr=>(t8 (c r hr)))))))))))))))⟩
      ·refine cs hm (fun c2 hm=>?_) fun c2 hm=>?_
       ·refine cB E rfl (wn rfl) rfl rfl (fun w hW=>rA (j:=9) E rfl rfl rfl c2 rfl U64 O5) fun a E=>?_
        refine fb E rfl (wn rfl) rfl rfl rfl rfl mm1 rfl U63 rfl fun a E=>cE rfl<|have H:=H.frs [6,6,5,5,5,6,6] rfl;bd hm fun m4 e1 hm=>cJ E rfl rfl rfl rfl rfl Pm (V3 H (c _ l) (c _ m) e1)<|?_
        rintro _ w ⟨m5,m6,m7,m8,m9,n0,p9,q0,rfl,H⟩ a E
        refine nt<|?_
        refine ⟨⟨_,_,H,(aB mm2 (aB mm4 (aL))),(aN)⟩,?_⟩
        refine bQ rfl<|bC (i:=3) E H (wn rfl) rfl rfl rfl rfl rfl rfl bV rfl (bF H m0 mm1 mm2 mm3 mm4 mm5) fun w H=>nt<|bR<|?_
        clear hI
        refine aD<|wp_ret<|bU<|aP<|eC E rfl (dH (i:=3) (us:=(bA m4.1 m5 m6 m7 m8 m9 n0)) H rfl rfl rfl U36 rfl bV)<|have H:=H.drs [2,2,2];?_
        cases hm
        exact X12 ⟨rfl,H.reads (aA m0 (aA mm1 (aA mm2 (aA mm3 (aA mm4 (aA mm5 (aA (t8 (c _ f)) (aA (t8 (c _ g)) (aA (t8 (c _ k)) (aA (t8 (c _ e)) (aA mm6 (aA (t1 mm6) (fun r hr=>(t8 (c r hr)))))))))))))))⟩
       ·refine cs hm (fun c3 hm=>?_) fun c3 hm=>?_
        ·refine cB E rfl (wn rfl) rfl rfl (fun w hW=>rA (j:=10) E rfl rfl rfl c3 rfl U64 O5) fun a E=>?_
         refine fb E rfl (wn rfl) rfl rfl rfl rfl mm1 rfl U63 rfl fun a E=>cE rfl<|have H:=H.frs [6,6,5,5,5,6,6] rfl;bd hm fun n1 e2 hm=>cJ E rfl rfl rfl rfl rfl Pm (Aw H (c _ l) (c _ m) e2)<|?_
         rintro _ w ⟨n2,n3,n4,n5,n6,n7,q1,q2,rfl,H⟩ a E
         refine nt<|?_
         refine ⟨⟨_,_,H,(aB mm2 (aB mm4 (aL))),(aN)⟩,?_⟩
         refine bQ rfl<|bC (i:=3) E H (wn rfl) rfl rfl rfl rfl rfl rfl bV rfl (bF H m0 mm1 mm2 mm3 mm4 mm5) fun w H=>nt<|bR<|?_
         clear hI
         refine aD<|wp_ret<|bU<|aP<|eC E rfl (dH (i:=3) (us:=(bA n1.1 n2 n3 n4 n5 n6 n7)) H rfl rfl rfl U36 rfl bV)<|have H:=H.drs [2,2,2];?_
         cases hm
         exact X12 ⟨rfl,H.reads (aA m0 (aA mm1 (aA mm2 (aA mm3 (aA mm4 (aA mm5 (aA (t8 (c _ f)) (aA (t8 (c _ g)) (aA (t8 (c _ k)) (aA (t8 (c _ e)) (aA mm6 (aA (t1 mm6) (fun r hr=>(t8 (c r hr)))))))))))))))⟩
        ·exact (bW hm rfl).elim
    ·refine aT (fun a w=>∃ c4 I,Env 46 a [(0,pt G 0),(3,pt C 0),(4,pt D 0),(5,pt F 0),(29,.bool c4)]∧Sep w (Blk G 82 [X,Y,Z,b0,J,K,.map (some t),.map (some u),.map (some x)]::Blk C 43 (aS x20 n o p q)::Blk D 36 bO::Blk F 64 [.nilFunc,.func (.func 13) #[] #[],.func (.func 14) #[] #[],.func (.func 15) #[] #[],.func (.func 16) #[] #[],.func (.func 17) #[] #[],.func (.func 18) #[] #[],.func (.func 19) #[] #[],.func (.func 20) #[] #[],.func (.func 21) #[] #[],.func (.func 22) #[] #[]]::cC Tryz.prog 2 (kyI .i64) bI true t z::cC Tryz.prog 2 (kyI .i64) cW true u B::cC Tryz.prog 2 (kyI .i64) bI true x A::Fo) I∧(∀ r,r ∈ rs→r ∈ I)∧tM b1 b2 b3 b4 L M z B A x20 c4=some r) ?_ ?_
     ·refine wp_region_lit<|pr 1 E rfl fun a E=>lb E H 1 rfl rfl rfl rfl rfl rfl rfl U3 rfl fun a E=>pr 2 E rfl fun a E=>cs hm (fun y hm=>?_) fun y hm=>?_
      ·exact pk 1 E (kc 33 rfl y) rfl fun a E=>aQ E (ws' (d:=33) E rfl rfl rfl rfl y) rfl rfl (bT (i:=1) E H rfl rfl rfl rfl U9 rfl) fun a E=>pk 3 E (kc 33 rfl y) rfl fun a E=>nt<|⟨_,_,E.to rfl,H,c,hm⟩
      ·exact pk 5 E (kc 33 rfl y) rfl fun a E=>nt<|⟨_,_,E.to rfl,H,c,hm⟩
     ·clear E H hm
      rintro a w ⟨c4,I,E,H,b,hm⟩
      unfold tM at hm
      refine wif E hm rfl (fun hm=>?_) fun hm=>?_
      ·refine sq<|bd hm fun e3 c6 hm=>cJ E rfl rfl rfl rfl rfl xU (eS H c6)<|?_
       rintro _ w ⟨e4,e5,e6,e7,e8,e9,rfl,H⟩ a E
       refine bC (i:=2) E H (wn rfl) rfl rfl rfl rfl rfl rfl bV rfl (bF H m0 mm1 mm2 mm3 mm4 mm5) fun w H=>nt<|wp_ret<|bU<|aP<|eC E rfl (dH (i:=2) (us:=(bA e3 e4 e5 e6 e7 e8 e9)) H rfl rfl rfl U36 rfl bV)<|have H:=H.drs [1,1,1];?_
       cases hm
       exact X12 ⟨rfl,H.reads (aA m0 (aA mm1 (aA mm2 (aA mm3 (aA mm4 (aA mm5 (aA (t6 (b _ f)) (aA (t6 (b _ g)) (aA (t6 (b _ k)) (aA (t6 (b _ e)) (aA (t6 (b _ l)) (aA (t6 (b _ m)) (fun r hr=>(t6 (b r hr)))))))))))))))⟩
      ·refine wp_skip<|bY<|aD<|wp_seq<|dw [(0,0),(1,0),(2,0),(3,0),(4,0),(5,0),(6,1),(7,2)] [1,3] [] H (by kernel_rfl) (fun _ _ _ h=>False.elim h.2) fun w W0 hI H=>fn 1 E rfl fun a E=>fb E rfl (wn rfl) rfl rfl rfl rfl m0 rfl U3 rfl fun a E=>cs hm (fun R hm=>?_) fun R hm=>?_
       ·refine cB E rfl (wn rfl) rfl rfl (fun w hW=>rA (j:=2) E rfl rfl rfl R rfl U64 O5) fun a E=>?_
        refine fb E rfl (wn rfl) rfl rfl rfl rfl mm1 rfl U63 rfl fun a E=>fn 1 E rfl fun a E=>fbn E (aS x20 n o p q) rfl (wn rfl) rfl rfl rfl rfl m0 rfl U43 rfl G4 fun a E=>cE rfl<|have H:=H.frs [6,5,5,5,5,6,6] rfl;bd hm fun f0 c7 hm=>aX E (wn rfl) rfl rfl (bP E rfl rfl rfl (LW _)) (T2 H (b _ f) (b _ g) (b _ k) (b _ e) (b _ N) (b _ O) c7)<|?_
        rintro _ w ⟨f1,f2,f3,f4,f5,f6,n9,rfl,H⟩ a E
        refine nt<|?_
        refine ⟨⟨_,_,H,(aB mm2 (aB mm4 (aL))),(aN)⟩,?_⟩
        refine bQ rfl<|bC (i:=3) E H (wn rfl) rfl rfl rfl rfl rfl rfl bV rfl (bF H m0 mm1 mm2 mm3 mm4 mm5) fun w H=>nt<|bR<|?_
        clear hI
        refine aD<|wp_ret<|eC E rfl (dH (i:=3) (us:=(bA f0.1 f1 f2 f3 f4 f5 f6)) H rfl rfl rfl U36 rfl bV)<|have H:=H.drs [2,2,2];have H:=H.frs [3,2,3,3] rfl;?_
        cases hm
        exact X12 ⟨rfl,H.reads (aA m0 (aA mm1 (aA mm2 (aA mm3 (aA mm4 (aA mm5 (aA (t7 (b _ f)) (aA (t7 (b _ g)) (aA (t7 (b _ k)) (aA mm6 (aA (t7 (b _ l)) (aA (t7 (b _ m)) (fun r hr=>(t7 (b r hr)))))))))))))))⟩
       ·refine cs hm (fun S hm=>?_) fun S hm=>?_
        ·refine cB E rfl (wn rfl) rfl rfl (fun w hW=>rA (j:=3) E rfl rfl rfl S rfl U64 O5) fun a E=>?_
         refine fb E rfl (wn rfl) rfl rfl rfl rfl mm1 rfl U63 rfl fun a E=>fn 1 E rfl fun a E=>fbn E (aS x20 n o p q) rfl (wn rfl) rfl rfl rfl rfl m0 rfl U43 rfl G4 fun a E=>cE rfl<|have H:=H.frs [6,5,5,5,5,6,6] rfl;bd hm fun f7 c8 hm=>aX E (wn rfl) rfl rfl (bP E rfl rfl rfl (LU _)) (U7 H (b _ f) (b _ g) (b _ e) (b _ l) (b _ m) (b _ O) c8)<|?_
         rintro _ w ⟨f8,f9,g0,g1,g2,g3,o0,o1,o2,o3,o4,rfl,H⟩ a E
         refine nt<|?_
         refine ⟨⟨_,_,H,(aB mm2 (aB mm4 (aL))),(aN)⟩,?_⟩
         refine bQ rfl<|bC (i:=3) E H (wn rfl) rfl rfl rfl rfl rfl rfl bV rfl (bF H m0 mm1 mm2 mm3 mm4 mm5) fun w H=>nt<|bR<|?_
         clear hI
         refine aD<|wp_ret<|eC E rfl (dH (i:=3) (us:=(bA f7.1 f8 f9 g0 g1 g2 g3)) H rfl rfl rfl U36 rfl bV)<|have H:=H.drs [2,2,2];have H:=H.frs [3,2,3,3] rfl;?_
         cases hm
         exact X12 ⟨rfl,H.reads (aA m0 (aA mm1 (aA mm2 (aA mm3 (aA mm4 (aA mm5 (aA mm6 (aA (t1 mm6) (aA (t3 (t8 (b _ k))) (aA (t2 mm6) (aA (t3 mm6) (aA (t4 mm6) (fun r hr=>(t3 (t8 (b r hr))))))))))))))))⟩
        ·refine cs hm (fun T hm=>?_) fun T hm=>?_
         ·refine cB E rfl (wn rfl) rfl rfl (fun w hW=>rA (j:=4) E rfl rfl rfl T rfl U64 O5) fun a E=>?_
          refine fb E rfl (wn rfl) rfl rfl rfl rfl mm1 rfl U63 rfl fun a E=>fn 1 E rfl fun a E=>fbn E (aS x20 n o p q) rfl (wn rfl) rfl rfl rfl rfl m0 rfl U43 rfl G4 fun a E=>cE rfl<|have H:=H.frs [5,5,5,5,5,6,6] rfl;bd hm fun g4 c9 hm=>aX E (wn rfl) rfl rfl (bP E rfl rfl rfl (LT _)) (U6 H c9)<|?_
          rintro _ w ⟨g5,g6,g7,g8,g9,i0,rfl,H⟩ a E
          refine nt<|?_
          refine ⟨⟨_,_,H,(aB mm2 (aB mm4 (aL))),(aN)⟩,?_⟩
          refine bQ rfl<|bC (i:=3) E H (wn rfl) rfl rfl rfl rfl rfl rfl bV rfl (bF H m0 mm1 mm2 mm3 mm4 mm5) fun w H=>nt<|bR<|?_
          clear hI
          refine aD<|wp_ret<|eC E rfl (dH (i:=3) (us:=(bA g4.1 g5 g6 g7 g8 g9 i0)) H rfl rfl rfl U36 rfl bV)<|have H:=H.drs [2,2,2];have H:=H.frs [1,3,3,3] rfl;?_
          cases hm
          exact X12 ⟨rfl,H.reads (aA m0 (aA mm1 (aA mm2 (aA mm3 (aA mm4 (aA mm5 (aA (t6 (b _ f)) (aA (t6 (b _ g)) (aA (t6 (b _ k)) (aA (t6 (b _ e)) (aA (t6 (b _ l)) (aA (t6 (b _ m)) (fun r hr=>(t6 (b r hr)))))))))))))))⟩
         ·refine cs hm (fun U hm=>?_) fun U hm=>?_
          ·refine cB E rfl (wn rfl) rfl rfl (fun w hW=>rA (j:=5) E rfl rfl rfl U rfl U64 O5) fun a E=>?_
           refine fb E rfl (wn rfl) rfl rfl rfl rfl mm1 rfl U63 rfl fun a E=>fn 1 E rfl fun a E=>fbn E (aS x20 n o p q) rfl (wn rfl) rfl rfl rfl rfl m0 rfl U43 rfl G4 fun a E=>cE rfl<|bd hm fun i1 d0 hm=>aX E (wn rfl) rfl rfl (bP E rfl rfl rfl (LR _)) (V2 H (b _ f) (b _ g) (b _ k) (b _ e) d0)<|?_
           rintro _ w ⟨i2,i3,i4,i5,i6,i7,o5,rfl,H⟩ a E
           refine nt<|?_
           refine ⟨⟨_,_,H,(aB mm1 (aB mm3 (aL))),(aN)⟩,?_⟩
           refine bQ rfl<|bC (i:=2) E H (wn rfl) rfl rfl rfl rfl rfl rfl bV rfl (bF H m0 mm1 mm2 mm3 mm4 mm5) fun w H=>nt<|bR<|?_
           clear hI
           refine aD<|wp_ret<|eC E rfl (dH (i:=2) (us:=(bA i1.1 i2 i3 i4 i5 i6 i7)) H rfl rfl rfl U36 rfl bV)<|have H:=H.drs [1,1,1];?_
           cases hm
           exact X12 ⟨rfl,H.reads (aA m0 (aA mm1 (aA mm2 (aA mm3 (aA mm4 (aA mm5 (aA (t7 (b _ f)) (aA (t7 (b _ g)) (aA mm6 (aA (t7 (b _ e)) (aA (t7 (b _ l)) (aA (t7 (b _ m)) (fun r hr=>(t7 (b r hr)))))))))))))))⟩
          ·refine cs hm (fun V hm=>?_) fun V hm=>?_
           ·refine cB E rfl (wn rfl) rfl rfl (fun w hW=>rA (j:=6) E rfl rfl rfl V rfl U64 O5) fun a E=>?_
            refine fb E rfl (wn rfl) rfl rfl rfl rfl mm1 rfl U63 rfl fun a E=>fn 1 E rfl fun a E=>fbn E (aS x20 n o p q) rfl (wn rfl) rfl rfl rfl rfl m0 rfl U43 rfl G4 fun a E=>cE rfl<|bd hm fun i8 d1 hm=>aX E (wn rfl) rfl rfl (bP E rfl rfl rfl (LL _)) (S7 H (b _ f) (b _ g) (b _ k) (b _ e) (b _ b5) (b _ b6) (b _ b7) d1)<|?_
            rintro _ w ⟨i9,j0,j1,j2,j3,j4,o6,o7,o8,rfl,H⟩ a E
            refine nt<|?_
            refine ⟨⟨_,_,H,(aB mm1 (aB mm3 (aL))),(aN)⟩,?_⟩
            refine bQ rfl<|bC (i:=2) E H (wn rfl) rfl rfl rfl rfl rfl rfl bV rfl (bF H m0 mm1 mm2 mm3 mm4 mm5) fun w H=>nt<|bR<|?_
            clear hI
            refine aD<|wp_ret<|eC E rfl (dH (i:=2) (us:=(bA i8.1 i9 j0 j1 j2 j3 j4)) H rfl rfl rfl U36 rfl bV)<|have H:=H.drs [1,1,1];?_
            cases hm
            exact X12 ⟨rfl,H.reads (aA m0 (aA mm1 (aA mm2 (aA mm3 (aA mm4 (aA mm5 (aA mm6 (aA (t1 mm6) (aA (t2 mm6) (aA (t1 (t8 (b _ e))) (aA (t1 (t8 (b _ l))) (aA (t1 (t8 (b _ m))) (fun r hr=>(t1 (t8 (b r hr))))))))))))))))⟩
           ·refine cs hm (fun W hm=>?_) fun W hm=>?_
            ·refine cB E rfl (wn rfl) rfl rfl (fun w hW=>rA (j:=7) E rfl rfl rfl W rfl U64 O5) fun a E=>?_
             refine fb E rfl (wn rfl) rfl rfl rfl rfl mm1 rfl U63 rfl fun a E=>fn 1 E rfl fun a E=>fbn E (aS x20 n o p q) rfl (wn rfl) rfl rfl rfl rfl m0 rfl U43 rfl G4 fun a E=>cE rfl<|bd hm fun o9 d2 hm=>aX E (wn rfl) rfl rfl (bP E rfl rfl rfl (LG _)) (Am H (b _ f) (b _ g) (b _ k) d2)<|?_
             rintro _ w ⟨p0,p1,p2,rfl,H⟩ a E
             refine nt<|?_
             refine ⟨⟨_,_,H,(aB mm1 (aB mm3 (aL))),(aN)⟩,?_⟩
             refine bQ rfl<|bC (i:=2) E H (wn rfl) rfl rfl rfl rfl rfl rfl bV rfl rfl fun w H=>nt<|bR<|?_
             clear hI
             refine aD<|wp_ret<|eC E rfl (dH (i:=2) (us:=bO) H rfl rfl rfl U36 rfl bV)<|have H:=H.nilSl bE;have H:=H.nilSl aG;have H:=H.nilSl aK;have H:=H.nilSl aU;have H:=H.nilSl bN;have H:=H.nilSl (kI .i64);?_
             refine have H:=H.drs [1,1,1];?_
             cases hm
             exact X12 ⟨rfl,H.reads (aA mm5 (aA mm4 (aA mm3 (aA mm2 (aA mm1 (aA m0 (aA mm6 (aA (t1 mm6) (aA (t2 mm6) (aA (t1 (t8 (b _ e))) (aA (t1 (t8 (b _ l))) (aA (t1 (t8 (b _ m))) (fun r hr=>(t1 (t8 (b r hr))))))))))))))))⟩
            ·exact (bW hm rfl).elim

def yK(b:List aM):Option (List aM):=
  (ck (b.length ≤ LIM)).bind fun c=>some (b)
theorem Z6{k:Nat}{l b c d e f g i j:Value}{o:List aM}(H:Sep w (Blk k 82 [b,c,d,l,e,f,g,i,j]::Fo) rs)(m:rSl bG l o ∈ rs){r:(List aM)}(hm:yK o=some r) :
    Calls Tryz.prog 11 [pt k 0].toArray w (Ret fun v w'=>∃ p,p=v∧Sep w' (Row 89 bG p r::Blk k 82 [b,c,d,l,e,f,g,i,j]::Fo) (rs)):=by
 unfold yK at hm
 refine ent Tryz.func11 rfl Tryz.ntmps11 rfl rfl fun a E=>sq<|pr 1 E rfl fun a E=>nx<|pr 3 E rfl fun a E=>lb E H 0 rfl rfl rfl rfl rfl rfl rfl U56 rfl fun a E=>bk hm fun n hm=>aX E (wn rfl) rfl rfl (cG E rfl rfl (Vk _)) (kO H m n) fun q w H a E=>pr 1 E rfl fun a E=>?_
 refine nt<|wp_ret<|bB E rfl rfl<|?_
 cases hm
 exact ⟨_,rfl,H.reads Y0⟩

def wW(b:List aH):Option (List aH):=
  (ck (b.length ≤ LIM)).bind fun c=>some (b)
theorem V6{k:Nat}{l b c d e f g i j:Value}{o:List aH}(H:Sep w (Blk k 82 [b,c,l,d,e,f,g,i,j]::Fo) rs)(m:rSl aR l o ∈ rs){r:(List aH)}(hm:wW o=some r) :
    Calls Tryz.prog 10 [pt k 0].toArray w (Ret fun v w'=>∃ p,p=v∧Sep w' (Row 60 aR p r::Blk k 82 [b,c,l,d,e,f,g,i,j]::Fo) (rs)):=by
 unfold wW at hm
 refine ent Tryz.func10 rfl Tryz.ntmps10 rfl rfl fun a E=>sq<|pr 1 E rfl fun a E=>nx<|pr 3 E rfl fun a E=>lb E H 0 rfl rfl rfl rfl rfl rfl rfl U54 rfl fun a E=>bk hm fun n hm=>aX E (wn rfl) rfl rfl (cG E rfl rfl (DY _)) (oZ H m n) fun q w H a E=>pr 1 E rfl fun a E=>?_
 refine nt<|wp_ret<|bB E rfl rfl<|?_
 cases hm
 exact ⟨_,rfl,H.reads Y0⟩

def yL(b:List aF)(c:List aI):Option aW:=
  (ck (b.length ≤ LIM)).bind fun d=>(ck (c.length ≤ LIM)).bind fun e=>some ((⟨b,c⟩:aW))
theorem Z7{o:Nat}{p q d e f g j k l:Value}{b:List aF}{c:List aI}(H:Sep w (Blk o 82 [p,q,d,e,f,g,j,k,l]::Fo) rs)(s:rSl aG p b ∈ rs)(t:rSl aK q c ∈ rs){r:aW}(hm:yL b c=some r) :
    Calls Tryz.prog 9 [pt o 0].toArray w (Ret fun v w'=>∃ y z,.agg #[y,z]=v∧Sep w' (Blk o 82 [p,q,d,e,f,g,j,k,l]::Fo) (rSl aG y r.Nodes::rSl aK z r.Turns::rs)):=by
 unfold yL at hm
 refine ent Tryz.func9 rfl Tryz.ntmps9 rfl rfl fun a E=>sq<|al E H rfl rfl rfl rfl lR fun A w a H E=>nt<|wp_seq<|dw [(0,0),(1,0),(2,0),(3,0),(4,0),(6,0),(7,0),(8,0),(9,0),(10,0),(5,1),(11,1),(12,0),(13,2)] [1] [] H (by kernel_rfl) (fun _ _ _ h=>False.elim h.2) fun w W0 hI H=>fn 4 E rfl fun a E=>fb E rfl (wn rfl) rfl rfl rfl rfl m0 rfl U28 rfl fun a E=>fn 4 E rfl fun a E=>?_
 refine fb E rfl (wn rfl) rfl rfl rfl rfl m0 rfl U29 rfl fun a E=>cE rfl<|bk hm fun u hm=>aX E (wn rfl) rfl rfl (cG E rfl rfl (DO _)) (qD H s u) fun B w H a E=>nt<|?_
 refine ⟨⟨_,_,H,(aB mm2 (aL)),(aN)⟩,?_⟩
 refine cE rfl<|bk hm fun x hm=>aX E (wn rfl) rfl rfl (cG E rfl rfl (DP _)) (qE H t x) fun C w H a E=>nt<|?_
 refine ⟨⟨_,_,H,(aB mm3 (aL)),(aN)⟩,?_⟩
 obtain ⟨q36,m,rfl⟩:=H.rowform (i:=1) rfl
 obtain ⟨q38,n,rfl⟩:=H.rowform (i:=0) rfl
 refine cB E rfl (wn rfl) rfl rfl (fun w hW=>(cN E rfl (E.evs rfl) (v:=.agg #[(.slice q36 b.length m),(.slice q38 c.length n)]) (by kernel_rfl))) fun a E=>?_
 refine bQ rfl<|bC (i:=2) E H (wn rfl) rfl rfl rfl rfl rfl rfl dP rfl rfl fun w H=>nt<|bR<|?_
 clear hI
 refine aD<|wp_ret<|eC E rfl (dH (i:=2) (us:=[(.slice q36 b.length m),(.slice q38 c.length n)]) H rfl rfl rfl U31 rfl dP)<|have H:=H.thaw (i:=1) rfl;have H:=H.thaw (i:=0) rfl;have H:=H.drop 0;?_
 cases hm
 exact ⟨_,_,rfl,H.reads (aA mm1 (aA m0 (fun r hr=>(t2 hr))))⟩

def zL:Option Bool:=
  zA.bind fun u=>Do u (some (false)) fun j=>(jP (ByteArray.mk #[47,97])).bind fun p=>(eA j.1 j.2.1 j.2.2 ([]:List aM) ([]:List aJ) ([]:List aC) [] [] [] (⟨1,1,0,0,false,p,(ByteArray.mk #[]),0,0,(⟨[],[]⟩:aW),[],(⟨0,0,(ByteArray.mk #[]),false⟩:aJ)⟩:aV)).bind fun d=>(jP (ByteArray.mk #[47,97])).bind fun q=>(eA d.2.1 d.2.2.1 d.2.2.2.1 d.2.2.2.2.1 d.2.2.2.2.2.1 d.2.2.2.2.2.2.1 d.2.2.2.2.2.2.2.1 d.2.2.2.2.2.2.2.2.1 d.2.2.2.2.2.2.2.2.2 (⟨1,1,0,0,false,q,(ByteArray.mk #[]),0,0,(⟨[],[]⟩:aW),[],(⟨0,0,(ByteArray.mk #[]),false⟩:aJ)⟩:aV)).bind fun c=>(jP (ByteArray.mk #[47,97,47,98])).bind fun s=>(eA c.2.1 c.2.2.1 c.2.2.2.1 c.2.2.2.2.1 c.2.2.2.2.2.1 c.2.2.2.2.2.2.1 c.2.2.2.2.2.2.2.1 c.2.2.2.2.2.2.2.2.1 c.2.2.2.2.2.2.2.2.2 (⟨2,0,5,1,false,s,(ByteArray.mk #[]),0,0,(⟨[],[]⟩:aW),[],(⟨0,0,(ByteArray.mk #[]),false⟩:aJ)⟩:aV)).bind fun e=>(jP (ByteArray.mk #[47,97,47,99])).bind fun t=>(eA e.2.1 e.2.2.1 e.2.2.2.1 e.2.2.2.2.1 e.2.2.2.2.2.1 e.2.2.2.2.2.2.1 e.2.2.2.2.2.2.2.1 e.2.2.2.2.2.2.2.2.1 e.2.2.2.2.2.2.2.2.2 (⟨1,2,0,0,false,t,(ByteArray.mk #[]),0,0,(⟨[],[]⟩:aW),[],(⟨0,0,(ByteArray.mk #[]),false⟩:aJ)⟩:aV)).bind fun f=>(eA f.2.1 f.2.2.1 f.2.2.2.1 f.2.2.2.2.1 f.2.2.2.2.2.1 f.2.2.2.2.2.2.1 f.2.2.2.2.2.2.2.1 f.2.2.2.2.2.2.2.2.1 f.2.2.2.2.2.2.2.2.2 (⟨3,0,5,0,true,[],(ByteArray.mk #[]),0,0,(⟨[],[]⟩:aW),[],(⟨0,0,(ByteArray.mk #[]),false⟩:aJ)⟩:aV)).bind fun g=>(eA g.2.1 g.2.2.1 g.2.2.2.1 g.2.2.2.2.1 g.2.2.2.2.2.1 g.2.2.2.2.2.2.1 g.2.2.2.2.2.2.2.1 g.2.2.2.2.2.2.2.2.1 g.2.2.2.2.2.2.2.2.2 (⟨5,0,0,0,false,[],(ByteArray.mk #[47,97]),1,0,(⟨[],[]⟩:aW),[],(⟨0,0,(ByteArray.mk #[]),false⟩:aJ)⟩:aV)).bind fun b=>(jP (ByteArray.mk #[47,97,47,100])).bind fun k=>(eA b.2.1 b.2.2.1 b.2.2.2.1 b.2.2.2.2.1 b.2.2.2.2.2.1 b.2.2.2.2.2.2.1 b.2.2.2.2.2.2.2.1 b.2.2.2.2.2.2.2.2.1 b.2.2.2.2.2.2.2.2.2 (⟨1,3,0,0,false,k,(ByteArray.mk #[]),0,0,(⟨[],[]⟩:aW),[],(⟨0,0,(ByteArray.mk #[]),false⟩:aJ)⟩:aV)).bind fun i=>if (d.1.Err == 0)=true then (if (c.1.Err == 0)=true then (if ((c.1.Results.length:Int) == 2)=true then (if e.1.Yes=true then (if (f.1.Err == 131)=true then (if (g.1.Err == 0)=true then ((yL i.2.1 i.2.2.1).bind fun l=>if ((l.Nodes.length:Int) == 3)=true then (if (b.1.Epoch == 1)=true then (if ((b.1.Store.Nodes.length:Int) == 1)=true then (if (i.1.Err == 131)=true then ((wW i.2.2.2.1).bind fun m=>if ((m.length:Int) == 2)=true then ((yK i.2.2.2.2.1).bind fun n=>if ((n.length:Int) == 0)=true then ((E7 (⟨[],[]⟩:aW) ([(⟨(ByteArray.mk #[]),0,0⟩:aH)]:List aH)).bind fun o=>Do o (some (true)) fun v=>some (false)) else (some (false))) else (some (false))) else (some (false))) else (some (false))) else (some (false))) else (some (false))) else (some (false))) else (some (false))) else (some (false))) else (some (false))) else (some (false))) else (some (false))
theorem Ba(H:Sep w (Fo) rs)(D:x4 Tryz.prog ∈ rs){r:Bool}(hm:zL=some r) :
    Calls Tryz.prog 4 [].toArray w (Ret fun v w'=>.bool r=v∧Sep w' (Fo) (rs)):=by
 unfold zL at hm
 refine ent Tryz.func4 rfl Tryz.ntmps4 rfl rfl fun a E=>sq<|pr 1 E rfl fun a E=>nx<|bd hm fun o8 m4 hm=>cJ E rfl rfl rfl rfl rfl cf5 (F4 H m4)<|?_
 rintro _ w (⟨rfl,rfl,H⟩ | ⟨F,rfl,i6,m5,m6,m7,S,T,C,rfl,H⟩) a E
 ·replace hm:=Fh hm
  refine pr 1 E rfl fun a E=>nt<|wp_seq<|sq<|pr 1 E rfl fun a E=>sv E rfl rfl rfl (yV E rfl rfl rfl (v:=.bool true) (by kernel_rfl)) fun a E=>nt<|wp_cond_true (E.eval rfl)<|sq<|?_
  refine pr 1 E rfl fun a E=>nt<|wp_ret<|aP<|bB E rfl rfl<|?_
  cases hm
  exact ⟨rfl,H.reads Y0⟩
 ·replace hm:=Fi hm
  refine pr 1 E rfl fun a E=>nt<|wp_seq<|sq<|pr 1 E rfl fun a E=>sv E rfl rfl rfl (yV E rfl rfl rfl (v:=.bool false) (by kernel_rfl)) fun a E=>nt<|wp_cond_false (E.eval rfl)<|wp_skip<|?_
  refine aD<|sq<|pr 1 E rfl fun a E=>bd hm fun G k1 hm=>cJ E rfl rfl rfl rfl rfl cf8 (oH H k1)<|?_
  rintro _ w ⟨o4,rfl,H⟩ a E
  obtain ⟨q15,c3,rfl⟩:=H.rowform (i:=0) rfl
  refine sv E rfl rfl rfl (cN E rfl (E.evs rfl) (v:=.agg #[.int .i64 1,.int .i64 1,.int .i64 0,.int .i64 0,.bool false,(.slice q15 G.length c3),.string (ByteArray.mk #[]),.int .i64 0,.int .i64 0,.slice none 0 0,.slice none 0 0,.slice none 0 0,.int .i64 0,.int .i64 0,.string (ByteArray.mk #[]),.bool false]) (by kernel_rfl)) fun a E=>have H:=H.thaw (i:=0) rfl;have H:=H.nilSl aG;have H:=H.nilSl aK;have H:=H.nilSl kS;have H:=H.nilSl bG;have H:=H.nilSl aY;have H:=H.nilSl aO;bd hm fun b k2 hm=>?_
  refine cJ E rfl rfl rfl rfl rfl cf6 (iR (x20:=(⟨1,1,0,0,false,G,(ByteArray.mk #[]),0,0,(⟨[],[]⟩:aW),[],(⟨0,0,(ByteArray.mk #[]),false⟩:aJ)⟩:aV)) H (t1 mm6) (t2 mm6) (t3 mm6) mm2 mm1 m0 mm6 mm5 mm4 mm3 (t2 (t8 D)) k2)<|?_
  rintro _ w ⟨I,J,K,L,M,N,c4,c5,c6,c7,c8,c9,rfl,H⟩ a E
  refine al E H rfl rfl rfl rfl iO fun c2 w a H E=>bC (i:=0) E H (wn rfl) rfl rfl rfl rfl rfl rfl bV rfl (bF H m0 mm1 mm2 mm3 mm4 mm5) fun w H=>?_
  replace H:Sep w (Blk c2 36 (bA b.1 I J K L M N)::Blk i6 82 [c4,c5,c6,c7,c8,c9,.map (some S),.map (some T),.map (some C)]::cC Tryz.prog 2 (kyI .i64) bI true S b.2.2.2.2.2.2.2.1::cC Tryz.prog 2 (kyI .i64) cW true T b.2.2.2.2.2.2.2.2.1::cC Tryz.prog 2 (kyI .i64) bI true C b.2.2.2.2.2.2.2.2.2::Fo) _:=H
  refine nx<|pr 1 E rfl fun a E=>bd hm fun O k3 hm=>cJ E rfl rfl rfl rfl rfl cf8 (oH H k3)<|?_
  rintro _ w ⟨o5,rfl,H⟩ a E
  obtain ⟨q35,d0,rfl⟩:=H.rowform (i:=0) rfl
  refine sv E rfl rfl rfl (cN E rfl (E.evs rfl) (v:=.agg #[.int .i64 1,.int .i64 1,.int .i64 0,.int .i64 0,.bool false,(.slice q35 O.length d0),.string (ByteArray.mk #[]),.int .i64 0,.int .i64 0,.slice none 0 0,.slice none 0 0,.slice none 0 0,.int .i64 0,.int .i64 0,.string (ByteArray.mk #[]),.bool false]) (by kernel_rfl)) fun a E=>have H:=H.thaw (i:=0) rfl;have H:=H.nilSl aG;have H:=H.nilSl aK;have H:=H.nilSl kS;have H:=H.frs [0,4,4,4,4] rfl;bd hm fun f k4 hm=>cJ E rfl rfl rfl rfl rfl cf6 (iR (x20:=(⟨1,1,0,0,false,O,(ByteArray.mk #[]),0,0,(⟨[],[]⟩:aW),[],(⟨0,0,(ByteArray.mk #[]),false⟩:aJ)⟩:aV)) H (t4 mm6) (t5 mm6) (t6 mm6) (t7 mm6) (t8 mm6) (t1 (t8 mm6)) mm3 mm2 mm1 m0 (t2 (t8 (t8 (t8 D)))) k4)<|?_
  rintro _ w ⟨U,V,W,X,Y,Z,j4,j5,j6,j7,j8,j9,rfl,H⟩ a E
  refine al E H rfl rfl rfl rfl iO fun d1 w a H E=>bC (i:=0) E H (wn rfl) rfl rfl rfl rfl rfl rfl bV rfl (bF H m0 mm1 mm2 mm3 mm4 mm5) fun w H=>nx<|pr 1 E rfl fun a E=>bd hm fun P k5 hm=>cJ E rfl rfl rfl rfl rfl cf8 (oH H k5)<|?_
  rintro _ w ⟨o6,rfl,H⟩ a E
  obtain ⟨q55,d2,rfl⟩:=H.rowform (i:=0) rfl
  refine sv E rfl rfl rfl (cN E rfl (E.evs rfl) (v:=.agg #[.int .i64 2,.int .i64 0,.int .i64 5,.int .i64 1,.bool false,(.slice q55 P.length d2),.string (ByteArray.mk #[]),.int .i64 0,.int .i64 0,.slice none 0 0,.slice none 0 0,.slice none 0 0,.int .i64 0,.int .i64 0,.string (ByteArray.mk #[]),.bool false]) (by kernel_rfl)) fun a E=>have H:=H.thaw (i:=0) rfl;have H:=H.nilSl aG;have H:=H.nilSl aK;have H:=H.nilSl kS;have H:=H.frs [5,1,5,5,5,5] rfl;bd hm fun c k6 hm=>cJ E rfl rfl rfl rfl rfl cf6 (iR (x20:=(⟨2,0,5,1,false,P,(ByteArray.mk #[]),0,0,(⟨[],[]⟩:aW),[],(⟨0,0,(ByteArray.mk #[]),false⟩:aJ)⟩:aV)) H (t4 mm6) (t5 mm6) (t6 mm6) (t7 mm6) (t8 mm6) (t1 (t8 mm6)) mm3 mm2 mm1 m0 (t2 (t8 (t8 (t8 (t8 (t8 D)))))) k6)<|?_
  rintro _ w ⟨b0,b1,b2,b3,b4,b5,d3,d4,d5,d6,d7,d8,rfl,H⟩ a E
  refine al E H rfl rfl rfl rfl iO fun d9 w a H E=>bC (i:=0) E H (wn rfl) rfl rfl rfl rfl rfl rfl bV rfl (bF H m0 mm1 mm2 mm3 mm4 mm5) fun w H=>nx<|pr 1 E rfl fun a E=>bd hm fun Q k7 hm=>cJ E rfl rfl rfl rfl rfl cf8 (oH H k7)<|?_
  rintro _ w ⟨o7,rfl,H⟩ a E
  obtain ⟨q75,e0,rfl⟩:=H.rowform (i:=0) rfl
  refine sv E rfl rfl rfl (cN E rfl (E.evs rfl) (v:=.agg #[.int .i64 1,.int .i64 2,.int .i64 0,.int .i64 0,.bool false,(.slice q75 Q.length e0),.string (ByteArray.mk #[]),.int .i64 0,.int .i64 0,.slice none 0 0,.slice none 0 0,.slice none 0 0,.int .i64 0,.int .i64 0,.string (ByteArray.mk #[]),.bool false]) (by kernel_rfl)) fun a E=>have H:=H.thaw (i:=0) rfl;have H:=H.nilSl aG;have H:=H.nilSl aK;have H:=H.nilSl kS;have H:=H.frs [6,6,2,6,6,6,6] rfl;?_
  replace H:Sep w (Blk i6 82 [d3,d4,d5,d6,d7,d8,.map (some S),.map (some T),.map (some C)]::cC Tryz.prog 2 (kyI .i64) bI true S c.2.2.2.2.2.2.2.1::cC Tryz.prog 2 (kyI .i64) cW true T c.2.2.2.2.2.2.2.2.1::cC Tryz.prog 2 (kyI .i64) bI true C c.2.2.2.2.2.2.2.2.2::Blk d9 36 (bA c.1 b0 b1 b2 b3 b4 b5)::Blk d1 36 (bA f.1 U V W X Y Z)::Blk c2 36 (bA b.1 I J K L M N)::Fo) (rSl kS (.slice none 0 0) ([]:List ByteArray)::rSl aK (.slice none 0 0) ([]:List aI)::rSl aG (.slice none 0 0) ([]:List aF)::rSl cF (.slice q75 Q.length e0) Q::rSl bE b0 c.1.Results::rSl aG b1 c.1.Store.Nodes::rSl aK b2 c.1.Store.Turns::rSl aU b3 c.1.Events::rSl bN b4 c.1.Mounts::rSl (kI .i64) b5 c.1.Wounded::rSl aG d3 c.2.1::rSl aK d4 c.2.2.1::rSl aR d5 c.2.2.2.1::rSl bG d6 c.2.2.2.2.1::rSl aY d7 c.2.2.2.2.2.1::rSl aO d8 c.2.2.2.2.2.2.1::rSl kS (.slice none 0 0) ([]:List ByteArray)::rSl aK (.slice none 0 0) ([]:List aI)::rSl aG (.slice none 0 0) ([]:List aF)::rSl cF (.slice q55 P.length d2) P::rSl bE U f.1.Results::rSl aG V f.1.Store.Nodes::rSl aK W f.1.Store.Turns::rSl aU X f.1.Events::rSl bN Y f.1.Mounts::rSl (kI .i64) Z f.1.Wounded::rSl aG j4 f.2.1::rSl aK j5 f.2.2.1::rSl aR j6 f.2.2.2.1::rSl bG j7 f.2.2.2.2.1::rSl aY j8 f.2.2.2.2.2.1::rSl aO j9 f.2.2.2.2.2.2.1::rSl kS (.slice none 0 0) ([]:List ByteArray)::rSl aK (.slice none 0 0) ([]:List aI)::rSl aG (.slice none 0 0) ([]:List aF)::rSl cF (.slice q35 O.length d0) O::rSl bE I b.1.Results::rSl aG J b.1.Store.Nodes::rSl aK K b.1.Store.Turns::rSl aU L b.1.Events::rSl bN M b.1.Mounts::rSl (kI .i64) N b.1.Wounded::rSl aG c4 b.2.1::rSl aK c5 b.2.2.1::rSl aR c6 b.2.2.2.1::rSl bG c7 b.2.2.2.2.1::rSl aY c8 b.2.2.2.2.2.1::rSl aO c9 b.2.2.2.2.2.2.1::rSl aO (.slice none 0 0) ([]:List aC)::rSl aY (.slice none 0 0) ([]:List aJ)::rSl bG (.slice none 0 0) ([]:List aM)::rSl kS (.slice none 0 0) ([]:List ByteArray)::rSl aK (.slice none 0 0) ([]:List aI)::rSl aG (.slice none 0 0) ([]:List aF)::rSl cF (.slice q15 G.length c3) G::rSl aG m5 F.1::rSl aK m6 F.2.1::rSl aR m7 F.2.2::rs):=H
  refine bd hm fun l k8 hm=>cJ E rfl rfl rfl rfl rfl cf6 (iR (x20:=(⟨1,2,0,0,false,Q,(ByteArray.mk #[]),0,0,(⟨[],[]⟩:aW),[],(⟨0,0,(ByteArray.mk #[]),false⟩:aJ)⟩:aV)) H (t4 mm6) (t5 mm6) (t6 mm6) (t7 mm6) (t8 mm6) (t1 (t8 mm6)) mm3 mm2 mm1 m0 (t2 (t8 (t8 (t8 (t8 (t8 (t8 (t8 D)))))))) k8)<|?_
  rintro _ w ⟨e1,e2,e3,e4,e5,e6,m8,m9,n0,n1,n2,n3,rfl,H⟩ a E
  refine al E H rfl rfl rfl rfl iO fun k0 w a H E=>bC (i:=0) E H (wn rfl) rfl rfl rfl rfl rfl rfl bV rfl (bF H m0 mm1 mm2 mm3 mm4 mm5) fun w H=>nx<|pr 1 E rfl fun a E=>sv E rfl rfl rfl (cN E rfl (E.evs rfl) (v:=.agg #[.int .i64 3,.int .i64 0,.int .i64 5,.int .i64 0,.bool true,.slice none 0 0,.string (ByteArray.mk #[]),.int .i64 0,.int .i64 0,.slice none 0 0,.slice none 0 0,.slice none 0 0,.int .i64 0,.int .i64 0,.string (ByteArray.mk #[]),.bool false]) (by kernel_rfl)) fun a E=>have H:=H.nilSl cF;have H:=H.nilSl aG;have H:=H.nilSl aK;have H:=H.nilSl kS;?_
  refine have H:=H.frs [7,7,7,3,7,7,7,7] rfl;bd hm fun m k9 hm=>cJ E rfl rfl rfl rfl rfl cf6 (iR (x20:=(⟨3,0,5,0,true,[],(ByteArray.mk #[]),0,0,(⟨[],[]⟩:aW),[],(⟨0,0,(ByteArray.mk #[]),false⟩:aJ)⟩:aV)) H (t4 mm6) (t5 mm6) (t6 mm6) (t7 mm6) (t8 mm6) (t1 (t8 mm6)) mm3 mm2 mm1 m0 (t2 (t8 (t8 (t8 (t8 (t8 (t8 (t8 (t8 (t8 D)))))))))) k9)<|?_
  rintro _ w ⟨e7,e8,e9,f0,f1,f2,l0,l1,l2,l3,l4,l5,rfl,H⟩ a E
  refine al E H rfl rfl rfl rfl iO fun f3 w a H E=>bC (i:=0) E H (wn rfl) rfl rfl rfl rfl rfl rfl bV rfl (bF H m0 mm1 mm2 mm3 mm4 mm5) fun w H=>nx<|pr 1 E rfl fun a E=>sv E rfl rfl rfl (cN E rfl (E.evs rfl) (v:=.agg #[.int .i64 5,.int .i64 0,.int .i64 0,.int .i64 0,.bool false,.slice none 0 0,.string (ByteArray.mk #[47,97]),.int .i64 1,.int .i64 0,.slice none 0 0,.slice none 0 0,.slice none 0 0,.int .i64 0,.int .i64 0,.string (ByteArray.mk #[]),.bool false]) (by kernel_rfl)) fun a E=>have H:=H.nilSl cF;have H:=H.nilSl aG;have H:=H.nilSl aK;have H:=H.nilSl kS;?_
  refine have H:=H.frs [8,8,8,8,4,8,8,8,8] rfl;bd hm fun g i7 hm=>cJ E rfl rfl rfl rfl rfl cf6 (iR (x20:=(⟨5,0,0,0,false,[],(ByteArray.mk #[47,97]),1,0,(⟨[],[]⟩:aW),[],(⟨0,0,(ByteArray.mk #[]),false⟩:aJ)⟩:aV)) H (t4 mm6) (t5 mm6) (t6 mm6) (t7 mm6) (t8 mm6) (t1 (t8 mm6)) mm3 mm2 mm1 m0 (t2 (t8 (t8 (t8 (t8 (t8 (t8 (t8 (t8 (t8 (t8 (t8 D)))))))))))) i7)<|?_
  rintro _ w ⟨b6,b7,b8,b9,c0,c1,f4,f5,f6,f7,f8,f9,rfl,H⟩ a E
  refine al E H rfl rfl rfl rfl iO fun g0 w a H E=>bC (i:=0) E H (wn rfl) rfl rfl rfl rfl rfl rfl bV rfl (bF H m0 mm1 mm2 mm3 mm4 mm5) fun w H=>?_
  replace H:Sep w (Blk g0 36 (bA g.1 b6 b7 b8 b9 c0 c1)::Blk i6 82 [f4,f5,f6,f7,f8,f9,.map (some S),.map (some T),.map (some C)]::cC Tryz.prog 2 (kyI .i64) bI true S g.2.2.2.2.2.2.2.1::cC Tryz.prog 2 (kyI .i64) cW true T g.2.2.2.2.2.2.2.2.1::cC Tryz.prog 2 (kyI .i64) bI true C g.2.2.2.2.2.2.2.2.2::Blk f3 36 (bA m.1 e7 e8 e9 f0 f1 f2)::Blk k0 36 (bA l.1 e1 e2 e3 e4 e5 e6)::Blk d9 36 (bA c.1 b0 b1 b2 b3 b4 b5)::Blk d1 36 (bA f.1 U V W X Y Z)::Blk c2 36 (bA b.1 I J K L M N)::Fo) _:=H
  refine nx<|pr 1 E rfl fun a E=>bd hm fun R i8 hm=>cJ E rfl rfl rfl rfl rfl cf8 (oH H i8)<|?_
  rintro _ w ⟨n4,rfl,H⟩ a E
  obtain ⟨q125,g1,rfl⟩:=H.rowform (i:=0) rfl
  refine sv E rfl rfl rfl (cN E rfl (E.evs rfl) (v:=.agg #[.int .i64 1,.int .i64 3,.int .i64 0,.int .i64 0,.bool false,(.slice q125 R.length g1),.string (ByteArray.mk #[]),.int .i64 0,.int .i64 0,.slice none 0 0,.slice none 0 0,.slice none 0 0,.int .i64 0,.int .i64 0,.string (ByteArray.mk #[]),.bool false]) (by kernel_rfl)) fun a E=>have H:=H.thaw (i:=0) rfl;have H:=H.nilSl aG;have H:=H.nilSl aK;have H:=H.nilSl kS;have H:=H.frs [9,9,9,9,9,5,9,9,9,9] rfl;bd hm fun j i9 hm=>cJ E rfl rfl rfl rfl rfl cf6 (iR (x20:=(⟨1,3,0,0,false,R,(ByteArray.mk #[]),0,0,(⟨[],[]⟩:aW),[],(⟨0,0,(ByteArray.mk #[]),false⟩:aJ)⟩:aV)) H (t4 mm6) (t5 mm6) (t6 mm6) (t7 mm6) (t8 mm6) (t1 (t8 mm6)) mm3 mm2 mm1 m0 (t2 (t8 (t8 (t8 (t8 (t8 (t8 (t8 (t8 (t8 (t8 (t8 (t8 (t8 D)))))))))))))) i9)<|?_
  rintro _ w ⟨g2,g3,g4,g5,g6,g7,g8,g9,i0,i1,i2,i3,rfl,H⟩ a E
  refine al E H rfl rfl rfl rfl iO fun l6 w a H E=>bC (i:=0) E H (wn rfl) rfl rfl rfl rfl rfl rfl bV rfl (bF H m0 mm1 mm2 mm3 mm4 mm5) fun w H=>nx<|pr 1 E rfl fun a E=>lb E H 10 rfl rfl rfl rfl rfl rfl rfl U26 rfl fun a E=>pr 2 E rfl fun a E=>cs hm (fun t hm=>?_) fun t hm=>?_
  ·refine pk 1 E (kc 41 rfl t) rfl fun a E=>aQ E (ws' (d:=41) E rfl rfl rfl rfl t) rfl rfl (bT (i:=9) E H rfl rfl rfl rfl U26 rfl) fun a E=>pk 3 E (kc 41 rfl t) rfl fun a E=>cs hm (fun o hm=>?_) fun o hm=>?_
   ·refine pk 1 E (kc 46 rfl o) rfl fun a E=>aQ E (ws' (d:=46) E rfl rfl rfl rfl o) rfl rfl (bT (i:=9) E H rfl rfl rfl rfl U27 rfl) fun a E=>aQ E (ws' (d:=46) E rfl rfl rfl rfl o) rfl rfl (dB E H rfl rfl (t2 (t8 (t8 (t8 (t8 (t8 (t8 (t8 (t8 (t8 mm6)))))))))) U27) fun a E=>pk 3 E (kc 46 rfl o) rfl fun a E=>cs hm (fun u hm=>?_) fun u hm=>?_
    ·refine pk 1 E (kc 52 rfl u) rfl fun a E=>aQ E (ws' (d:=52) E rfl rfl rfl rfl u) rfl rfl (bT (i:=8) E H rfl rfl rfl rfl U4 rfl) fun a E=>pk 2 E (kc 52 rfl u) rfl fun a E=>cs hm (fun y hm=>?_) fun y hm=>?_
     ·refine pk 1 E (kc 56 rfl y) rfl fun a E=>aQ E (ws' (d:=56) E rfl rfl rfl rfl y) rfl rfl (bT (i:=7) E H rfl rfl rfl rfl U26 rfl) fun a E=>pk 3 E (kc 56 rfl y) rfl fun a E=>cs hm (fun z hm=>?_) fun z hm=>?_
      ·refine pk 1 E (kc 61 rfl z) rfl fun a E=>aQ E (ws' (d:=61) E rfl rfl rfl rfl z) rfl rfl (bT (i:=6) E H rfl rfl rfl rfl U26 rfl) fun a E=>pk 3 E (kc 61 rfl z) rfl fun a E=>cs hm (fun n hm=>?_) fun n hm=>?_
       ·refine pk 1 E (kc 66 rfl n) rfl fun a E=>have H:=H.frs [10,10,10,10,10,10,10,10,10,9,10] rfl;bd hm fun i4 j0 hm=>aX E (ws' (d:=66) E rfl rfl rfl rfl n) rfl rfl (cG E rfl rfl (cf9 _)) (Z7 H mm6 (t1 mm6) j0)<|?_
        rintro _ w ⟨i5,l7,rfl,H⟩ a E
        refine aQ E (ws' (d:=66) E rfl rfl rfl rfl n) rfl rfl (Ye E rfl rfl (v:=i5) (by kernel_rfl)) fun a E=>aQ E (ws' (d:=66) E rfl rfl rfl rfl n) rfl rfl (dB E H rfl rfl m0 U28) fun a E=>pk 3 E (kc 66 rfl n) rfl fun a E=>cs hm (fun A hm=>?_) fun A hm=>?_
        ·refine pk 1 E (kc 73 rfl A) rfl fun a E=>aQ E (ws' (d:=73) E rfl rfl rfl rfl A) rfl rfl (bT (i:=5) E H rfl rfl rfl rfl U2 rfl) fun a E=>pk 3 E (kc 73 rfl A) rfl fun a E=>cs hm (fun p hm=>?_) fun p hm=>?_
         ·refine pk 2 E (kc 78 rfl p) rfl fun a E=>aQ E (ws' (d:=78) E rfl rfl rfl rfl p) rfl rfl (bT (i:=5) E H rfl rfl rfl rfl U28 rfl) fun a E=>aQ E (ws' (d:=78) E rfl rfl rfl rfl p) rfl rfl (dB E H rfl rfl (t5 (t8 mm6)) U28) fun a E=>pk 3 E (kc 78 rfl p) rfl fun a E=>cs hm (fun B hm=>?_) fun B hm=>?_
          ·refine pk 1 E (kc 85 rfl B) rfl fun a E=>aQ E (ws' (d:=85) E rfl rfl rfl rfl B) rfl rfl (bT (i:=1) E H rfl rfl rfl rfl U26 rfl) fun a E=>pk 3 E (kc 85 rfl B) rfl fun a E=>cs hm (fun q hm=>?_) fun q hm=>?_
           ·refine pk 1 E (kc 90 rfl q) rfl fun a E=>bd hm fun l8 j1 hm=>aX E (ws' (d:=90) E rfl rfl rfl rfl q) rfl rfl (cG E rfl rfl (ME _)) (V6 H (t4 mm6) j1)<|?_
            rintro _ w ⟨l9,rfl,H⟩ a E
            refine aQ E (ws' (d:=90) E rfl rfl rfl rfl q) rfl rfl (lC (i:=0) E H rfl rfl rfl U54) fun a E=>pk 3 E (kc 90 rfl q) rfl fun a E=>cs hm (fun s hm=>?_) fun s hm=>?_
            ·refine pk 1 E (kc 96 rfl s) rfl fun a E=>have H:=H.frs [11,11,11,11,11,11,11,11,11,11,10,11] rfl;bd hm fun m1 j2 hm=>aX E (ws' (d:=96) E rfl rfl rfl rfl s) rfl rfl (cG E rfl rfl (MF _)) (Z6 H (t5 mm6) j2)<|?_
             rintro _ w ⟨m2,rfl,H⟩ a E
             refine aQ E (ws' (d:=96) E rfl rfl rfl rfl s) rfl rfl (lC (i:=0) E H rfl rfl rfl U56) fun a E=>pk 3 E (kc 96 rfl s) rfl fun a E=>cs hm (fun k hm=>?_) fun k hm=>?_
             ·refine aQ E (ws' (d:=102) E rfl rfl rfl rfl k) rfl rfl (cN E rfl (E.evs rfl) (v:=.agg #[.slice none 0 0,.slice none 0 0]) (by kernel_rfl)) fun a E=>aQ E (ws' (d:=102) E rfl rfl rfl rfl k) rfl rfl (cN E rfl (E.evs rfl) (v:=.agg Mt.toArray) (by kernel_rfl)) fun a E=>hG (e:=60) (d:=aR) (cs:=[.string (ByteArray.mk #[]),.int .i64 0,.int .i64 0]) (xs:=[(⟨(ByteArray.mk #[]),0,0⟩:aH)]) E H (ws' (d:=102) E rfl rfl rfl rfl k) rfl rfl rfl (E.evs rfl) (by kernel_rfl) rfl rfl (fun ok hr=>(Rows.single (d:=aR) (cs:=[.string (ByteArray.mk #[]),.int .i64 0,.int .i64 0]) (x:=(⟨(ByteArray.mk #[]),0,0⟩:aH)) vF)) fun m3 w a H E=>have H:=H.nilSl aG;have H:=H.nilSl aK;have H:=H.thaw (i:=0) rfl;?_
              replace H:Sep w (Row 89 bG m2 m1::Blk i6 82 [g8,g9,i0,i1,i2,i3,.map (some S),.map (some T),.map (some C)]::Row 60 aR l9 l8::Blk l6 36 (bA j.1 g2 g3 g4 g5 g6 g7)::cC Tryz.prog 2 (kyI .i64) bI true S j.2.2.2.2.2.2.2.1::cC Tryz.prog 2 (kyI .i64) cW true T j.2.2.2.2.2.2.2.2.1::cC Tryz.prog 2 (kyI .i64) bI true C j.2.2.2.2.2.2.2.2.2::Blk g0 36 (bA g.1 b6 b7 b8 b9 c0 c1)::Blk f3 36 (bA m.1 e7 e8 e9 f0 f1 f2)::Blk k0 36 (bA l.1 e1 e2 e3 e4 e5 e6)::Blk d9 36 (bA c.1 b0 b1 b2 b3 b4 b5)::Blk d1 36 (bA f.1 U V W X Y Z)::Blk c2 36 (bA b.1 I J K L M N)::Fo) (rSl aR m3 ([(⟨(ByteArray.mk #[]),0,0⟩:aH)]:List aH)::rSl aK (.slice none 0 0) ([]:List aI)::rSl aG (.slice none 0 0) ([]:List aF)::rSl aG i5 i4.Nodes::rSl aK l7 i4.Turns::rSl bE g2 j.1.Results::rSl aG g3 j.1.Store.Nodes::rSl aK g4 j.1.Store.Turns::rSl aU g5 j.1.Events::rSl bN g6 j.1.Mounts::rSl (kI .i64) g7 j.1.Wounded::rSl aG g8 j.2.1::rSl aK g9 j.2.2.1::rSl aR i0 j.2.2.2.1::rSl bG i1 j.2.2.2.2.1::rSl aY i2 j.2.2.2.2.2.1::rSl aO i3 j.2.2.2.2.2.2.1::rSl kS (.slice none 0 0) ([]:List ByteArray)::rSl aK (.slice none 0 0) ([]:List aI)::rSl aG (.slice none 0 0) ([]:List aF)::rSl cF (.slice q125 R.length g1) R::rSl bE b6 g.1.Results::rSl aG b7 g.1.Store.Nodes::rSl aK b8 g.1.Store.Turns::rSl aU b9 g.1.Events::rSl bN c0 g.1.Mounts::rSl (kI .i64) c1 g.1.Wounded::rSl aG f4 g.2.1::rSl aK f5 g.2.2.1::rSl aR f6 g.2.2.2.1::rSl bG f7 g.2.2.2.2.1::rSl aY f8 g.2.2.2.2.2.1::rSl aO f9 g.2.2.2.2.2.2.1::rSl kS (.slice none 0 0) ([]:List ByteArray)::rSl aK (.slice none 0 0) ([]:List aI)::rSl aG (.slice none 0 0) ([]:List aF)::rSl cF (.slice none 0 0) ([]:List cH)::rSl bE e7 m.1.Results::rSl aG e8 m.1.Store.Nodes::rSl aK e9 m.1.Store.Turns::rSl aU f0 m.1.Events::rSl bN f1 m.1.Mounts::rSl (kI .i64) f2 m.1.Wounded::rSl aG l0 m.2.1::rSl aK l1 m.2.2.1::rSl aR l2 m.2.2.2.1::rSl bG l3 m.2.2.2.2.1::rSl aY l4 m.2.2.2.2.2.1::rSl aO l5 m.2.2.2.2.2.2.1::rSl kS (.slice none 0 0) ([]:List ByteArray)::rSl aK (.slice none 0 0) ([]:List aI)::rSl aG (.slice none 0 0) ([]:List aF)::rSl cF (.slice none 0 0) ([]:List cH)::rSl bE e1 l.1.Results::rSl aG e2 l.1.Store.Nodes::rSl aK e3 l.1.Store.Turns::rSl aU e4 l.1.Events::rSl bN e5 l.1.Mounts::rSl (kI .i64) e6 l.1.Wounded::rSl aG m8 l.2.1::rSl aK m9 l.2.2.1::rSl aR n0 l.2.2.2.1::rSl bG n1 l.2.2.2.2.1::rSl aY n2 l.2.2.2.2.2.1::rSl aO n3 l.2.2.2.2.2.2.1::rSl kS (.slice none 0 0) ([]:List ByteArray)::rSl aK (.slice none 0 0) ([]:List aI)::rSl aG (.slice none 0 0) ([]:List aF)::rSl cF (.slice q75 Q.length e0) Q::rSl bE b0 c.1.Results::rSl aG b1 c.1.Store.Nodes::rSl aK b2 c.1.Store.Turns::rSl aU b3 c.1.Events::rSl bN b4 c.1.Mounts::rSl (kI .i64) b5 c.1.Wounded::rSl aG d3 c.2.1::rSl aK d4 c.2.2.1::rSl aR d5 c.2.2.2.1::rSl bG d6 c.2.2.2.2.1::rSl aY d7 c.2.2.2.2.2.1::rSl aO d8 c.2.2.2.2.2.2.1::rSl kS (.slice none 0 0) ([]:List ByteArray)::rSl aK (.slice none 0 0) ([]:List aI)::rSl aG (.slice none 0 0) ([]:List aF)::rSl cF (.slice q55 P.length d2) P::rSl bE U f.1.Results::rSl aG V f.1.Store.Nodes::rSl aK W f.1.Store.Turns::rSl aU X f.1.Events::rSl bN Y f.1.Mounts::rSl (kI .i64) Z f.1.Wounded::rSl aG j4 f.2.1::rSl aK j5 f.2.2.1::rSl aR j6 f.2.2.2.1::rSl bG j7 f.2.2.2.2.1::rSl aY j8 f.2.2.2.2.2.1::rSl aO j9 f.2.2.2.2.2.2.1::rSl kS (.slice none 0 0) ([]:List ByteArray)::rSl aK (.slice none 0 0) ([]:List aI)::rSl aG (.slice none 0 0) ([]:List aF)::rSl cF (.slice q35 O.length d0) O::rSl bE I b.1.Results::rSl aG J b.1.Store.Nodes::rSl aK K b.1.Store.Turns::rSl aU L b.1.Events::rSl bN M b.1.Mounts::rSl (kI .i64) N b.1.Wounded::rSl aG c4 b.2.1::rSl aK c5 b.2.2.1::rSl aR c6 b.2.2.2.1::rSl bG c7 b.2.2.2.2.1::rSl aY c8 b.2.2.2.2.2.1::rSl aO c9 b.2.2.2.2.2.2.1::rSl aO (.slice none 0 0) ([]:List aC)::rSl aY (.slice none 0 0) ([]:List aJ)::rSl bG (.slice none 0 0) ([]:List aM)::rSl kS (.slice none 0 0) ([]:List ByteArray)::rSl aK (.slice none 0 0) ([]:List aI)::rSl aG (.slice none 0 0) ([]:List aF)::rSl cF (.slice q15 G.length c3) G::rSl aG m5 F.1::rSl aK m6 F.2.1::rSl aR m7 F.2.2::rs):=H
              refine bd hm fun n5 j3 hm=>aX E (ws' (d:=102) E rfl rfl rfl rfl k) rfl rfl (cG E rfl rfl (BD _)) (Cz (x1:=(⟨[],[]⟩:aW)) H mm2 mm1 m0 j3)<|?_
              rintro _ w (⟨rfl,rfl,H⟩ | ⟨n6,rfl,n7,n8,n9,o0,o1,o2,o3,rfl,H⟩) a E
              ·replace hm:=Fh hm
               refine aQ E (ws' (d:=102) E rfl rfl rfl rfl k) rfl rfl (yV E rfl rfl rfl (v:=.bool true) (by kernel_rfl)) fun a E=>pk 2 E (kc 102 rfl k) rfl fun a E=>nt<|wp_ret<|bB E rfl rfl<|have H:=H.drs [0,0,0,0,0,0,0,0,0,0,0,0,0];?_
               cases hm
               exact ⟨rfl,H.reads (Y3 (Y8 (Y8 (Y8 (Y8 (Y8 (Y8 (Y8 (Y8 (Y8 (Y8 (Y8 (Y8 (Y8 (Y8 (Y8 Y0))))))))))))))))⟩
              ·replace hm:=Fi hm
               refine aQ E (ws' (d:=102) E rfl rfl rfl rfl k) rfl rfl (yV E rfl rfl rfl (v:=.bool false) (by kernel_rfl)) fun a E=>pk 2 E (kc 102 rfl k) rfl fun a E=>nt<|wp_ret<|bB E rfl rfl<|have H:=H.drs [0,0,0,0,0,0,0,0,0,0,0,0,0,0,0,0,0];?_
               cases hm
               exact ⟨rfl,H.reads (Y6 (Y8 (Y8 (Y8 (Y8 (Y8 (Y8 (Y8 (Y8 (Y8 (Y8 (Y8 (Y8 (Y8 (Y8 (Y8 Y0))))))))))))))))⟩
             ·refine pk 7 E (kc 102 rfl k) rfl fun a E=>nt<|wp_ret<|bB E rfl rfl<|have H:=H.drs [0,0,0,0,0,0,0,0,0,0,0,0,0];?_
              cases hm
              exact ⟨rfl,H.reads (Y8 (Y8 (Y8 (Y8 (Y8 (Y8 (Y8 (Y8 (Y8 (Y8 (Y8 (Y8 (Y8 (Y8 (Y8 Y0)))))))))))))))⟩
            ·refine pk 13 E (kc 96 rfl s) rfl fun a E=>nt<|wp_ret<|bB E rfl rfl<|have H:=H.drs [0,0,0,0,0,0,0,0,0,0,0,0];?_
             cases hm
             exact ⟨rfl,H.reads (Y8 (Y8 (Y8 (Y8 (Y8 (Y8 (Y8 (Y8 (Y8 (Y8 (Y8 (Y8 (Y8 (Y8 (Y8 Y0)))))))))))))))⟩
           ·refine pk 19 E (kc 90 rfl q) rfl fun a E=>nt<|wp_ret<|bB E rfl rfl<|have H:=H.drs [0,0,0,0,0,0,0,0,0,0,0];?_
            cases hm
            exact ⟨rfl,H.reads (Y8 (Y8 (Y8 (Y8 (Y8 (Y8 (Y8 (Y8 (Y8 (Y8 (Y8 (Y8 (Y8 (Y8 (Y8 Y0)))))))))))))))⟩
          ·refine pk 24 E (kc 85 rfl B) rfl fun a E=>nt<|wp_ret<|bB E rfl rfl<|have H:=H.drs [0,0,0,0,0,0,0,0,0,0,0];?_
           cases hm
           exact ⟨rfl,H.reads (Y8 (Y8 (Y8 (Y8 (Y8 (Y8 (Y8 (Y8 (Y8 (Y8 (Y8 (Y8 (Y8 (Y8 (Y8 Y0)))))))))))))))⟩
         ·refine pk 31 E (kc 78 rfl p) rfl fun a E=>nt<|wp_ret<|bB E rfl rfl<|have H:=H.drs [0,0,0,0,0,0,0,0,0,0,0];?_
          cases hm
          exact ⟨rfl,H.reads (Y8 (Y8 (Y8 (Y8 (Y8 (Y8 (Y8 (Y8 (Y8 (Y8 (Y8 (Y8 (Y8 (Y8 (Y8 Y0)))))))))))))))⟩
        ·refine pk 36 E (kc 73 rfl A) rfl fun a E=>nt<|wp_ret<|bB E rfl rfl<|have H:=H.drs [0,0,0,0,0,0,0,0,0,0,0];?_
         cases hm
         exact ⟨rfl,H.reads (Y8 (Y8 (Y8 (Y8 (Y8 (Y8 (Y8 (Y8 (Y8 (Y8 (Y8 (Y8 (Y8 (Y8 (Y8 Y0)))))))))))))))⟩
       ·refine pk 43 E (kc 66 rfl n) rfl fun a E=>nt<|wp_ret<|bB E rfl rfl<|have H:=H.drs [0,0,0,0,0,0,0,0,0,0,0];?_
        cases hm
        exact ⟨rfl,H.reads (Y6 (Y8 (Y8 (Y8 (Y8 (Y8 (Y8 (Y8 (Y8 (Y8 (Y8 (Y8 (Y8 (Y8 (Y8 Y0)))))))))))))))⟩
      ·refine pk 48 E (kc 61 rfl z) rfl fun a E=>nt<|wp_ret<|bB E rfl rfl<|have H:=H.drs [0,0,0,0,0,0,0,0,0,0,0];?_
       cases hm
       exact ⟨rfl,H.reads (Y6 (Y8 (Y8 (Y8 (Y8 (Y8 (Y8 (Y8 (Y8 (Y8 (Y8 (Y8 (Y8 (Y8 (Y8 Y0)))))))))))))))⟩
     ·refine pk 53 E (kc 56 rfl y) rfl fun a E=>nt<|wp_ret<|bB E rfl rfl<|have H:=H.drs [0,0,0,0,0,0,0,0,0,0,0];?_
      cases hm
      exact ⟨rfl,H.reads (Y6 (Y8 (Y8 (Y8 (Y8 (Y8 (Y8 (Y8 (Y8 (Y8 (Y8 (Y8 (Y8 (Y8 (Y8 Y0)))))))))))))))⟩
    ·refine pk 57 E (kc 52 rfl u) rfl fun a E=>nt<|wp_ret<|bB E rfl rfl<|have H:=H.drs [0,0,0,0,0,0,0,0,0,0,0];?_
     cases hm
     exact ⟨rfl,H.reads (Y6 (Y8 (Y8 (Y8 (Y8 (Y8 (Y8 (Y8 (Y8 (Y8 (Y8 (Y8 (Y8 (Y8 (Y8 Y0)))))))))))))))⟩
   ·refine pk 63 E (kc 46 rfl o) rfl fun a E=>nt<|wp_ret<|bB E rfl rfl<|have H:=H.drs [0,0,0,0,0,0,0,0,0,0,0];?_
    cases hm
    exact ⟨rfl,H.reads (Y6 (Y8 (Y8 (Y8 (Y8 (Y8 (Y8 (Y8 (Y8 (Y8 (Y8 (Y8 (Y8 (Y8 (Y8 Y0)))))))))))))))⟩
  ·refine pk 68 E (kc 41 rfl t) rfl fun a E=>nt<|wp_ret<|bB E rfl rfl<|have H:=H.drs [0,0,0,0,0,0,0,0,0,0,0];?_
   cases hm
   exact ⟨rfl,H.reads (Y6 (Y8 (Y8 (Y8 (Y8 (Y8 (Y8 (Y8 (Y8 (Y8 (Y8 (Y8 (Y8 (Y8 (Y8 Y0)))))))))))))))⟩

def bZ(rec_1:Int→Int→(List aF)→(List aI)→(List aH)→(List aM)→(List aJ)→(List aC)→(List ((Int)×aE))→(List ((Int)×bJ))→(List ((Int)×aE))→Option Bool)(e:Int)(c:Int)(f:Int)(b:aE×(List aF)×(List aI)×(List aH)×(List aM)×(List aJ)×(List aC)×(List ((Int)×aE))×(List ((Int)×bJ))×(List ((Int)×aE)))(d:Bool):Option Bool:=
  if d=true then (some (false)) else (rec_1 (IntKind.i64.wrap (e+c)) (IntKind.i64.wrap (f+1)) b.2.1 b.2.2.1 b.2.2.2.1 b.2.2.2.2.1 b.2.2.2.2.2.1 b.2.2.2.2.2.2.1 b.2.2.2.2.2.2.2.1 b.2.2.2.2.2.2.2.2.1 b.2.2.2.2.2.2.2.2.2)
def iT(rec_1:Int→Int→(List aF)→(List aI)→(List aH)→(List aM)→(List aJ)→(List aC)→(List ((Int)×aE))→(List ((Int)×bJ))→(List ((Int)×aE))→Option Bool)(d:Int)(c:Int)(e:Int)(b:aE×(List aF)×(List aI)×(List aH)×(List aM)×(List aJ)×(List aC)×(List ((Int)×aE))×(List ((Int)×bJ))×(List ((Int)×aE)))(f:dE)(g:Bool):Option Bool:=
  if g=true then (some (false)) else (if (c == 1)=true then (if (f.Kind != 7)=true then ((idx b.1.Events 0).bind fun i=>if (i.Num != (IntKind.i64.wrap (d+c)))=true then (bZ rec_1 d c e b true) else (if (f.Kind == 1)=true then ((idx b.1.Events 0).bind fun j=>if (j.Kind != 1)=true then (bZ rec_1 d c e b true) else (if (f.Kind == 2)=true then ((idx b.1.Events 0).bind fun k=>if (k.Kind != 2)=true then (bZ rec_1 d c e b true) else (if (f.Kind == 3)=true then ((idx b.1.Events 0).bind fun l=>bZ rec_1 d c e b (l.Kind != 3)) else (bZ rec_1 d c e b false))) else (if (f.Kind == 3)=true then ((idx b.1.Events 0).bind fun m=>bZ rec_1 d c e b (m.Kind != 3)) else (bZ rec_1 d c e b false)))) else (if (f.Kind == 2)=true then ((idx b.1.Events 0).bind fun n=>if (n.Kind != 2)=true then (bZ rec_1 d c e b true) else (if (f.Kind == 3)=true then ((idx b.1.Events 0).bind fun o=>bZ rec_1 d c e b (o.Kind != 3)) else (bZ rec_1 d c e b false))) else (if (f.Kind == 3)=true then ((idx b.1.Events 0).bind fun p=>bZ rec_1 d c e b (p.Kind != 3)) else (bZ rec_1 d c e b false))))) else (bZ rec_1 d c e b false)) else (bZ rec_1 d c e b false))
def dR(rec_1:Int→Int→(List aF)→(List aI)→(List aH)→(List aM)→(List aJ)→(List aC)→(List ((Int)×aE))→(List ((Int)×bJ))→(List ((Int)×aE))→Option Bool)(e:Int)(f:Int)(g:dE)(b:aE×(List aF)×(List aI)×(List aH)×(List aM)×(List aJ)×(List aC)×(List ((Int)×aE))×(List ((Int)×bJ))×(List ((Int)×aE)))(i:Bool)(c:Int):Option Bool:=
  (eA b.2.1 b.2.2.1 b.2.2.2.1 b.2.2.2.2.1 b.2.2.2.2.2.1 b.2.2.2.2.2.2.1 b.2.2.2.2.2.2.2.1 b.2.2.2.2.2.2.2.2.1 b.2.2.2.2.2.2.2.2.2 (⟨10,0,0,0,false,[],(ByteArray.mk #[]),max (IntKind.i64.wrap ((IntKind.i64.wrap (e+c)) - c)) 0,0,(⟨[],[]⟩:aW),[],(⟨1,0,(ByteArray.mk #[]),false⟩:aJ)⟩:aV)).bind fun d=>if (decide (c > 3))=true then (some (i)) else (if (d.1.Err != 0)=true then (iT rec_1 e c f d g true) else (iT rec_1 e c f d g ((d.1.Events.length:Int) != c)))
def eT(rec_1:Int→Int→(List aF)→(List aI)→(List aH)→(List aM)→(List aJ)→(List aC)→(List ((Int)×aE))→(List ((Int)×bJ))→(List ((Int)×aE))→Option Bool)(d:Int)(e:Int)(b:dE)(c:aE×(List aF)×(List aI)×(List aH)×(List aM)×(List aJ)×(List aC)×(List ((Int)×aE))×(List ((Int)×bJ))×(List ((Int)×aE)))(f:Bool)(g:Bool):Option Bool:=
  if g=true then (dR rec_1 d e b c f 1) else (if (b.Kind == 7)=true then ((idx c.1.Results 1).bind fun i=>dR rec_1 d e b c f (i.Names.length:Int)) else (dR rec_1 d e b c f 0))
def fL(rec_1:Int→Int→(List aF)→(List aI)→(List aH)→(List aM)→(List aJ)→(List aC)→(List ((Int)×aE))→(List ((Int)×bJ))→(List ((Int)×aE))→Option Bool)(c:Int)(d:Int)(b:dE)(e:aE×(List aF)×(List aI)×(List aH)×(List aM)×(List aJ)×(List aC)×(List ((Int)×aE))×(List ((Int)×bJ))×(List ((Int)×aE)))(f:Bool)(g:Bool):Option Bool:=
  if g=true then (if (b.Kind == 1)=true then (eT rec_1 c d b e f (b.Kind == 1)) else (if (b.Kind == 2)=true then (eT rec_1 c d b e f (b.Kind == 2)) else (eT rec_1 c d b e f (b.Kind == 3)))) else (dR rec_1 c d b e f 0)
def dS(rec_1:Int→Int→(List aF)→(List aI)→(List aH)→(List aM)→(List aJ)→(List aC)→(List ((Int)×aE))→(List ((Int)×bJ))→(List ((Int)×aE))→Option Bool)(d:Int)(e:Int)(b:dE)(g:Bool)(i:(List aF))(j:(List aI))(k:(List aH))(l:(List aM))(m:(List aJ))(n:(List aC))(o:(List ((Int)×aE)))(p:(List ((Int)×bJ)))(q:(List ((Int)×aE)))(s:Bool):Option Bool:=
  if s=true then (some (g)) else ((zR ([b]:List dE)).bind fun f=>(eA i j k l m n o p q (⟨1,0,0,0,false,f,(ByteArray.mk #[]),0,0,(⟨[],[]⟩:aW),[],(⟨0,0,(ByteArray.mk #[]),false⟩:aJ)⟩:aV)).bind fun c=>if (decide ((f.length:Int) > 0))=true then (fL rec_1 d e b c g (c.1.Err == 0)) else (fL rec_1 d e b c g false))
def cI(d:Bool)(f:List dE)(e:aE×(List aF)×(List aI)×(List aH)×(List aM)×(List aJ)×(List aC)×(List ((Int)×aE))×(List ((Int)×bJ))×(List ((Int)×aE))):Nat→Int→Int→(List aF)→(List aI)→(List aH)→(List aM)→(List aJ)→(List aC)→(List ((Int)×aE))→(List ((Int)×bJ))→(List ((Int)×aE))→Option Bool
  | 0,_,_,_,_,_,_,_,_,_,_,_=>none
  | s+1,g,c,i,j,k,l,m,n,o,p,q=>
    if (decide (c < (f.length:Int)))=true then ((idx f c).bind fun b=>if (decide ((b.Path.size:Int) > 1000))=true then (dS (cI d f e s) g c b d i j k l m n o p q true) else (if (decide ((b.Data.size:Int) > 1000))=true then (dS (cI d f e s) g c b d i j k l m n o p q true) else (dS (cI d f e s) g c b d i j k l m n o p q (decide (b.Version ≥ 281474976710656))))) else (if d=true then (some (e.1.Err == 0)) else (some (false)))
def jV(d:List dE):Option Bool:=
  zL.bind fun e=>zA.bind fun f=>Do f (some (false)) fun c=>if (decide ((d.length:Int) > 40))=true then (some (e)) else ((eA c.1 c.2.1 c.2.2 ([]:List aM) ([]:List aJ) ([]:List aC) [] [] [] (⟨8,0,0,0,false,[],(ByteArray.mk #[]),0,0,(⟨[],[]⟩:aW),[],(⟨1,1,(ByteArray.mk #[47]),true⟩:aJ)⟩:aV)).bind fun b=>cI e d b (((d.length:Int) - 0:Int).toNat+1) 0 0 b.2.1 b.2.2.1 b.2.2.2.1 b.2.2.2.2.1 b.2.2.2.2.2.1 b.2.2.2.2.2.2.1 b.2.2.2.2.2.2.2.1 b.2.2.2.2.2.2.2.2.1 b.2.2.2.2.2.2.2.2.2)
theorem I2{e0:Value}{d5:List dE}(H:Sep w (Fo) rs)(j5:rSl sX e0 d5 ∈ rs)(j2:x4 Tryz.prog ∈ rs){r:Bool}(hm:jV d5=some r) :
    Calls Tryz.prog 3 [e0].toArray w (Ret fun v w'=>.bool r=v∧Sep w' (Fo) (rs)):=by
 unfold jV at hm
 refine ent Tryz.func3 rfl Tryz.ntmps3 rfl rfl fun a E=>sq<|pr 1 E rfl fun a E=>nx<|bd hm fun Y p3 hm=>xk E rfl rfl rfl rfl rfl cf4 (Ba H j2 p3) fun w H a E=>pr 1 E rfl fun a E=>nx<|bd hm fun q9 p4 hm=>?_
 refine cJ E rfl rfl rfl rfl rfl cf5 (F4 H p4)<|?_
 rintro _ w (⟨rfl,rfl,H⟩ | ⟨p7,rfl,b2,p8,p9,q0,D,F,G,rfl,H⟩) a E
 ·replace hm:=Fh hm
  refine pr 1 E rfl fun a E=>nt<|wp_seq<|sq<|pr 1 E rfl fun a E=>sv E rfl rfl rfl (yV E rfl rfl rfl (v:=.bool true) (by kernel_rfl)) fun a E=>pr 5 E rfl fun a E=>nt<|wp_cond_true (E.eval rfl)<|?_
  refine sq<|pr 1 E rfl fun a E=>sv E rfl rfl rfl (yV E rfl rfl rfl (v:=.bool false) (by kernel_rfl)) fun a E=>pr 4 E rfl fun a E=>nt<|wp_ret<|aP<|bB E rfl rfl<|?_
  cases hm
  exact ⟨rfl,H.reads Y0⟩
 ·replace hm:=Fi hm
  refine pr 1 E rfl fun a E=>nt<|wp_seq<|sq<|pr 1 E rfl fun a E=>sv E rfl rfl rfl (yV E rfl rfl rfl (v:=.bool false) (by kernel_rfl)) fun a E=>pr 2 E rfl fun a E=>aQ E (ws E rfl rfl rfl rfl) rfl rfl (dB E H rfl rfl (t3 j5) U22) fun a E=>pr 2 E rfl fun a E=>?_
  refine nt<|wif E hm rfl (fun hm=>?_) fun hm=>?_
  ·refine sq<|pr 1 E rfl fun a E=>sv E rfl rfl rfl (yV E rfl rfl rfl (v:=.bool true) (by kernel_rfl)) fun a E=>pr 4 E rfl fun a E=>nt<|wp_ret<|aP<|bB E rfl rfl<|have H:=H.drs [0,0,0,0];?_
   cases hm
   exact ⟨rfl,H.reads (Y3 Y0)⟩
  ·refine wp_skip<|aD<|sq<|pr 1 E rfl fun a E=>sv E rfl rfl rfl (cN E rfl (E.evs rfl) (v:=.agg #[.int .i64 1,.int .i64 1,.string (ByteArray.mk #[47]),.bool true]) (by kernel_rfl)) fun a E=>sv E rfl rfl rfl (cN E rfl (E.evs rfl) (v:=.agg #[.int .i64 8,.int .i64 0,.int .i64 0,.int .i64 0,.bool false,.slice none 0 0,.string (ByteArray.mk #[]),.int .i64 0,.int .i64 0,.slice none 0 0,.slice none 0 0,.slice none 0 0,.int .i64 1,.int .i64 1,.string (ByteArray.mk #[47]),.bool true]) (by kernel_rfl)) fun a E=>have H:=H.nilSl cF;have H:=H.nilSl aG;have H:=H.nilSl aK;?_
   refine have H:=H.nilSl kS;have H:=H.nilSl bG;have H:=H.nilSl aY;have H:=H.nilSl aO;bd hm fun I m9 hm=>cJ E rfl rfl rfl rfl rfl cf6 (iR (x20:=(⟨8,0,0,0,false,[],(ByteArray.mk #[]),0,0,(⟨[],[]⟩:aW),[],(⟨1,1,(ByteArray.mk #[47]),true⟩:aJ)⟩:aV)) H (t1 mm6) (t2 mm6) (t3 mm6) mm2 mm1 m0 mm6 mm5 mm4 mm3 (t2 (t8 j2)) m9)<|?_
   rintro _ w ⟨c9,d0,d1,d2,d3,d4,q1,q2,q3,q4,q5,q6,rfl,H⟩ a E
   refine al E H rfl rfl rfl rfl iO fun J w a H E=>bC (i:=0) E H (wn rfl) rfl rfl rfl rfl rfl rfl bV rfl (bF H m0 mm1 mm2 mm3 mm4 mm5) fun w H=>nx<|pr 1 E rfl fun a E=>nt<|wp_seq<|sq<|pr 1 E rfl fun a E=>nt<|?_
   refine wp_block<|cA (fun c0 a w=>∃ f7 f8 f9 g0 g1 g2 y C g3 g4 g5 g6 g7 g8 g9 i0 i1 S,Env 171 a [(0,e0),(3,.bool Y),(4,pt b2 0),(5,pt J 0),(6,.int .i64 y),(7,.int .i64 C)]∧Sep w (Blk b2 82 [f7,f8,f9,g0,g1,g2,.map (some D),.map (some F),.map (some G)]::Blk J 36 (bA I.1 c9 d0 d1 d2 d3 d4)::cC Tryz.prog 2 (kyI .i64) bI true D g9::cC Tryz.prog 2 (kyI .i64) cW true F i0::cC Tryz.prog 2 (kyI .i64) bI true G i1::Fo) S∧(∀ r,r ∈ rs→r ∈ S)∧rSl aG f7 g3 ∈ S∧rSl aK f8 g4 ∈ S∧rSl aR f9 g5 ∈ S∧rSl bG g0 g6 ∈ S∧rSl aY g1 g7 ∈ S∧rSl aO g2 g8 ∈ S∧cI Y d5 I c0 y C g3 g4 g5 g6 g7 g8 g9 i0 i1=some r) (((d5.length:Int) - 0:Int).toNat+1) ?_ ?_
   ·exact have H:=H.frs [4,4,4,3,4] rfl;X18 ⟨E.to rfl,H,(Y6 (Y8 (Y8 Y0))),mm6,(t1 mm6),(t2 mm6),(t3 mm6),(t4 mm6),(t5 mm6),hm⟩
   ·clear E H hm
    rintro c0 a w ⟨f7,f8,f9,g0,g1,g2,y,C,g3,g4,g5,g6,g7,g8,g9,i0,i1,S,E,H,b1,i2,i3,i4,i5,i6,i7,hm⟩
    cases c0 with
    | zero=>exact (bW hm rfl).elim
    | succ c0=>
     unfold cI at hm
     refine wp_seq<|sq<|pr 2 E rfl fun a E=>sv E rfl rfl rfl (dB E H rfl rfl (b1 _ j5) U22) fun a E=>pr 1 E rfl fun a E=>nt<|wif E hm rfl (fun hm=>?_) fun hm=>?_
     ·refine wp_skip<|aD<|wp_seq<|wp_block<|sq<|pr 2 E rfl fun a E=>bd hm fun g n0 hm=>dF E H (wn rfl) rfl rfl rfl rfl rfl (b1 _ j5) U22 G3 n0 fun q65 a H E=>ldf G2 E H rfl rfl rfl rfl rfl m0 U45 rfl G3 fun a E=>?_
      refine al E H rfl rfl rfl rfl CE fun b0 w a H E=>bC (i:=0) E H (wn rfl) rfl rfl rfl rfl rfl rfl G3 rfl rfl fun w H=>nt<|wp_seq<|aT (fun a w=>∃ j6 T,Env 171 a [(0,e0),(3,.bool Y),(4,pt b2 0),(5,pt J 0),(6,.int .i64 y),(7,.int .i64 C),(8,pt b0 0),(55,.bool j6)]∧Sep w (Blk b2 82 [f7,f8,f9,g0,g1,g2,.map (some D),.map (some F),.map (some G)]::Blk J 36 (bA I.1 c9 d0 d1 d2 d3 d4)::Blk b0 45 (jN g)::cC Tryz.prog 2 (kyI .i64) bI true D g9::cC Tryz.prog 2 (kyI .i64) cW true F i0::cC Tryz.prog 2 (kyI .i64) bI true G i1::Fo) T∧(∀ r,r ∈ rs→r ∈ T)∧rSl aG f7 g3 ∈ T∧rSl aK f8 g4 ∈ T∧rSl aR f9 g5 ∈ T∧rSl bG g0 g6 ∈ T∧rSl aY g1 g7 ∈ T∧rSl aO g2 g8 ∈ T∧dS (cI Y d5 I c0) y C g Y g3 g4 g5 g6 g7 g8 g9 i0 i1 j6=some r) ?_ ?_
      ·refine wp_region_lit<|pr 1 E rfl fun a E=>lb E H 0 rfl rfl rfl rfl rfl rfl rfl U9 rfl fun a E=>pr 3 E rfl fun a E=>cs hm (fun b3 hm=>?_) fun b3 hm=>?_
       ·exact pk 10 E (kc 45 rfl b3) rfl fun a E=>nt<|have H:=H.frs [5,5,5,3,5,5] rfl;⟨_,_,E.to rfl,H,(Y1 b1),(t1 i2),(t1 i3),(t1 i4),(t1 i5),(t1 i6),(t1 i7),hm⟩
       ·refine pk 1 E (kc 45 rfl b3) rfl fun a E=>aQ E (ws' (d:=45) E rfl rfl rfl rfl b3) rfl rfl (bT (i:=0) E H rfl rfl rfl rfl U9 rfl) fun a E=>pk 4 E (kc 45 rfl b3) rfl fun a E=>cs hm (fun b4 hm=>?_) fun b4 hm=>?_
        ·exact pk 4 E (kc 51 rfl b4) rfl fun a E=>nt<|have H:=H.frs [5,5,5,3,5,5] rfl;⟨_,_,E.to rfl,H,(Y1 b1),(t1 i2),(t1 i3),(t1 i4),(t1 i5),(t1 i6),(t1 i7),hm⟩
        ·exact pk 1 E (kc 51 rfl b4) rfl fun a E=>aQ E (ws' (d:=51) E rfl rfl rfl rfl b4) rfl rfl (bT (i:=0) E H rfl rfl rfl rfl U2 rfl) fun a E=>pk 2 E (kc 51 rfl b4) rfl fun a E=>nt<|have H:=H.frs [5,5,5,3,5,5] rfl;⟨_,_,E.to rfl,H,(Y1 b1),(t1 i2),(t1 i3),(t1 i4),(t1 i5),(t1 i6),(t1 i7),hm⟩
      ·clear E H hm
       rintro a w ⟨j6,T,E,H,e1,n1,n2,n3,n4,n5,n6,hm⟩
       unfold dS at hm
       refine wif E hm rfl (fun hm=>?_) fun hm=>?_
       ·refine sq<|pr 2 E rfl fun a E=>nt<|wp_ret<|aP<|bU<|aP<|aP<|bU<|?_
        refine aP<|bB E rfl rfl<|have H:=H.drs [0,0,0,0,0,0];?_
        cases hm
        exact ⟨rfl,H.reads e1⟩
       ·refine wp_skip<|aD<|sq<|sv E rfl rfl rfl (cD (i:=2) (us:=(jN g)) E H rfl rfl rfl rfl U45 rfl G3) fun a E=>hG (e:=45) (d:=sX) (cs:=[.int .i64 g.Kind,.string g.Path,.string g.Data,.int .i64 g.Version,.int .i64 g.Owner,.bool g.Turns]) (xs:=[g]) E H (wn rfl) rfl rfl rfl (E.evs rfl) (by kernel_rfl) rfl rfl (fun ok hr=>(Rows.single (d:=sX) (cs:=[.int .i64 g.Kind,.string g.Path,.string g.Data,.int .i64 g.Version,.int .i64 g.Owner,.bool g.Turns]) (x:=g) O2)) fun q7 w a H E=>have H:=H.thaw (i:=0) rfl;bd hm fun m3 n7 hm=>cJ E rfl rfl rfl rfl rfl cf7 (Gd H m0 n7)<|?_
        rintro _ w ⟨q8,rfl,H⟩ a E
        refine pr 1 E rfl fun a E=>nx<|pr 2 E rfl fun a E=>?_
        obtain ⟨q86,p5,rfl⟩:=H.rowform (i:=0) rfl
        refine sv E rfl rfl rfl (cN E rfl (E.evs rfl) (v:=.agg #[.int .i64 1,.int .i64 0,.int .i64 0,.int .i64 0,.bool false,(.slice q86 m3.length p5),.string (ByteArray.mk #[]),.int .i64 0,.int .i64 0,.slice none 0 0,.slice none 0 0,.slice none 0 0,.int .i64 0,.int .i64 0,.string (ByteArray.mk #[]),.bool false]) (by kernel_rfl)) fun a E=>have H:=H.thaw (i:=0) rfl;have H:=H.nilSl aG;have H:=H.nilSl aK;have H:=H.nilSl kS;have H:=H.frs [2,2,5,5,5,5] rfl;bd hm fun c n8 hm=>cJ E rfl rfl rfl rfl rfl cf6 (iR (x20:=(⟨1,0,0,0,false,m3,(ByteArray.mk #[]),0,0,(⟨[],[]⟩:aW),[],(⟨0,0,(ByteArray.mk #[]),false⟩:aJ)⟩:aV)) H (t5 n1) (t5 n2) (t5 n3) (t5 n4) (t5 n5) (t5 n6) mm3 mm2 mm1 m0 (t5 (e1 _ j2)) n8)<|?_
        rintro _ w ⟨j3,m4,m5,m6,m7,m8,d6,d7,d8,d9,b8,b9,rfl,H⟩ a E
        refine al E H rfl rfl rfl rfl iO fun e2 w a H E=>bC (i:=0) E H (wn rfl) rfl rfl rfl rfl rfl rfl bV rfl (bF H m0 mm1 mm2 mm3 mm4 mm5) fun w H=>nx<|pr 1 E rfl fun a E=>nt<|aT (fun a w=>∃ z A,Env 171 a [(0,e0),(3,.bool Y),(4,pt b2 0),(5,pt J 0),(6,.int .i64 y),(7,.int .i64 C),(8,pt b0 0),(11,.int .i64 z)]∧Sep w (Blk b2 82 [d6,d7,d8,d9,b8,b9,.map (some D),.map (some F),.map (some G)]::Blk J 36 (bA I.1 c9 d0 d1 d2 d3 d4)::Blk b0 45 (jN g)::cC Tryz.prog 2 (kyI .i64) bI true D c.2.2.2.2.2.2.2.1::cC Tryz.prog 2 (kyI .i64) cW true F c.2.2.2.2.2.2.2.2.1::cC Tryz.prog 2 (kyI .i64) bI true G c.2.2.2.2.2.2.2.2.2::Fo) A∧(∀ r,r ∈ rs→r ∈ A)∧rSl aG d6 c.2.1 ∈ A∧rSl aK d7 c.2.2.1 ∈ A∧rSl aR d8 c.2.2.2.1 ∈ A∧rSl bG d9 c.2.2.2.2.1 ∈ A∧rSl aY b8 c.2.2.2.2.2.1 ∈ A∧rSl aO b9 c.2.2.2.2.2.2.1 ∈ A∧dR (cI Y d5 I c0) y C g c Y z=some r) ?_ ?_
        ·refine aT (fun a w=>∃ i8 q,Env 171 a [(0,e0),(3,.bool Y),(4,pt b2 0),(5,pt J 0),(6,.int .i64 y),(7,.int .i64 C),(8,pt b0 0),(10,pt e2 0),(11,.int .i64 0),(71,.bool i8)]∧Sep w (Blk b2 82 [d6,d7,d8,d9,b8,b9,.map (some D),.map (some F),.map (some G)]::Blk J 36 (bA I.1 c9 d0 d1 d2 d3 d4)::Blk b0 45 (jN g)::Blk e2 36 (bA c.1 j3 m4 m5 m6 m7 m8)::cC Tryz.prog 2 (kyI .i64) bI true D c.2.2.2.2.2.2.2.1::cC Tryz.prog 2 (kyI .i64) cW true F c.2.2.2.2.2.2.2.2.1::cC Tryz.prog 2 (kyI .i64) bI true G c.2.2.2.2.2.2.2.2.2::Fo) q∧(∀ r,r ∈ rs→r ∈ q)∧rSl aG d6 c.2.1 ∈ q∧rSl aK d7 c.2.2.1 ∈ q∧rSl aR d8 c.2.2.2.1 ∈ q∧rSl bG d9 c.2.2.2.2.1 ∈ q∧rSl aY b8 c.2.2.2.2.2.1 ∈ q∧rSl aO b9 c.2.2.2.2.2.2.1 ∈ q∧rSl bE j3 c.1.Results ∈ q∧fL (cI Y d5 I c0) y C g c Y i8=some r) ?_ ?_
         ·refine wp_region_lit<|pr 1 E rfl fun a E=>sv E rfl rfl rfl (dB E H rfl rfl (t1 (t8 mm6)) U40) fun a E=>pr 2 E rfl fun a E=>cs hm (fun b5 hm=>?_) fun b5 hm=>?_
          ·exact pk 1 E (kc 67 rfl b5) rfl fun a E=>aQ E (ws' (d:=67) E rfl rfl rfl rfl b5) rfl rfl (bT (i:=0) E H rfl rfl rfl rfl U26 rfl) fun a E=>pk 2 E (kc 67 rfl b5) rfl fun a E=>nt<|have H:=H.frs [4,4,4,3,6,6,6] rfl;⟨_,_,E.to rfl,H,(Y1 (Y8 (Y8 e1))),mm6,(t1 mm6),(t2 mm6),(t3 mm6),(t4 mm6),(t5 mm6),m0,hm⟩
          ·exact pk 4 E (kc 67 rfl b5) rfl fun a E=>nt<|have H:=H.frs [4,4,4,3,6,6,6] rfl;⟨_,_,E.to rfl,H,(Y1 (Y8 (Y8 e1))),mm6,(t1 mm6),(t2 mm6),(t3 mm6),(t4 mm6),(t5 mm6),m0,hm⟩
         ·clear E H hm
          rintro a w ⟨i8,q,E,H,c1,c2,c3,c4,c5,c6,c7,e3,hm⟩
          unfold fL at hm
          refine wif E hm rfl (fun hm=>?_) fun hm=>?_
          ·refine sq<|pr 1 E rfl fun a E=>lb E H 2 rfl rfl rfl rfl rfl rfl rfl U3 rfl fun a E=>nt<|wp_block<|aT (fun a w=>∃ i9 s,Env 171 a [(0,e0),(3,.bool Y),(4,pt b2 0),(5,pt J 0),(6,.int .i64 y),(7,.int .i64 C),(8,pt b0 0),(10,pt e2 0),(11,.int .i64 0),(73,.int .i64 g.Kind),(74,.bool i9)]∧Sep w (Blk b2 82 [d6,d7,d8,d9,b8,b9,.map (some D),.map (some F),.map (some G)]::Blk J 36 (bA I.1 c9 d0 d1 d2 d3 d4)::Blk b0 45 (jN g)::Blk e2 36 (bA c.1 j3 m4 m5 m6 m7 m8)::cC Tryz.prog 2 (kyI .i64) bI true D c.2.2.2.2.2.2.2.1::cC Tryz.prog 2 (kyI .i64) cW true F c.2.2.2.2.2.2.2.2.1::cC Tryz.prog 2 (kyI .i64) bI true G c.2.2.2.2.2.2.2.2.2::Fo) s∧(∀ r,r ∈ rs→r ∈ s)∧rSl aG d6 c.2.1 ∈ s∧rSl aK d7 c.2.2.1 ∈ s∧rSl aR d8 c.2.2.2.1 ∈ s∧rSl bG d9 c.2.2.2.2.1 ∈ s∧rSl aY b8 c.2.2.2.2.2.1 ∈ s∧rSl aO b9 c.2.2.2.2.2.2.1 ∈ s∧rSl bE j3 c.1.Results ∈ s∧eT (cI Y d5 I c0) y C g c Y i9=some r) ?_ ?_
           ·refine sq<|pr 2 E rfl fun a E=>nt<|wif E hm rfl (fun hm=>?_) fun hm=>?_
            ·exact wp_skip<|aD<|⟨_,_,E.to rfl,H,c1,c2,c3,c4,c5,c6,c7,e3,hm⟩
            ·refine sq<|pr 2 E rfl fun a E=>nt<|wif E hm rfl (fun hm=>?_) fun hm=>?_
             ·exact wp_skip<|aD<|⟨_,_,E.to rfl,H,c1,c2,c3,c4,c5,c6,c7,e3,hm⟩
             ·exact wp_region_lit<|pr 2 E rfl fun a E=>nt<|⟨_,_,E.to rfl,H,c1,c2,c3,c4,c5,c6,c7,e3,hm⟩
           ·clear E H hm
            rintro a w ⟨i9,s,E,H,e4,e5,e6,e7,e8,e9,f0,j9,hm⟩
            unfold eT at hm
            refine wif E hm rfl (fun hm=>?_) fun hm=>?_
            ·exact wp_region_lit<|pr 1 E rfl fun a E=>wpList_nil<|bY<|aD<|have H:=H.drop 3;⟨_,_,E.to rfl,H,e4,e5,e6,e7,e8,e9,f0,hm⟩
            ·refine sq<|pr 2 E rfl fun a E=>nt<|wif E hm rfl (fun hm=>?_) fun hm=>?_
             ·refine wp_region_lit<|pr 1 E rfl fun a E=>lb E H 3 rfl rfl rfl rfl rfl rfl rfl U27 rfl fun a E=>bd hm fun n9 k0 hm=>dF E H (wn rfl) rfl rfl rfl rfl rfl j9 U27 A9 k0 fun q251 a H E=>have H:=H.derive1 m0 (rAt (kL kS) (q251.add 4) n9.Names) (fun ok h=>K7 h);pr 1 E rfl fun a E=>Re E H (wn rfl) rfl rfl rfl rfl m0 U41 rfl fun p6 a H E=>sv E rfl rfl rfl (dB E H rfl rfl m0 U41) fun a E=>?_
              exact pr 1 E rfl fun a E=>wpList_nil<|bY<|aD<|have H:=H.drop 3;⟨_,_,E.to rfl,H,(Y3 e4),(t3 e5),(t3 e6),(t3 e7),(t3 e8),(t3 e9),(t3 f0),hm⟩
             ·exact wp_skip<|bY<|aD<|have H:=H.drop 3;⟨_,_,E.to rfl,H,e4,e5,e6,e7,e8,e9,f0,hm⟩
          ·exact wp_skip<|aD<|have H:=H.drop 3;⟨_,_,E.to rfl,H,c1,c2,c3,c4,c5,c6,c7,hm⟩
        ·clear E H hm
         rintro a w ⟨z,A,E,H,c8,k1,k2,k3,k4,k5,k6,hm⟩
         unfold dR at hm
         refine sq<|pr 4 E rfl fun a E=>nx<|pr 1 E rfl fun a E=>sv E rfl rfl rfl (cN E rfl (E.evs rfl) (v:=.agg #[.int .i64 1,.int .i64 0,.string (ByteArray.mk #[]),.bool false]) (by kernel_rfl)) fun a E=>pr 3 E rfl fun a E=>sv E rfl rfl rfl (Wz (t:=0) E rfl rfl rfl) fun a E=>sv E rfl rfl rfl (cN E rfl (E.evs rfl) (v:=.agg #[.int .i64 10,.int .i64 0,.int .i64 0,.int .i64 0,.bool false,.slice none 0 0,.string (ByteArray.mk #[]),.int .i64 (max (IntKind.i64.wrap ((IntKind.i64.wrap (y+z)) - z)) 0),.int .i64 0,.slice none 0 0,.slice none 0 0,.slice none 0 0,.int .i64 1,.int .i64 0,.string (ByteArray.mk #[]),.bool false]) (by kernel_rfl)) fun a E=>have H:=H.nilSl cF;?_
         refine have H:=H.nilSl aG;have H:=H.nilSl aK;have H:=H.nilSl kS;have H:=H.frs [2,2,5,5,5,5] rfl;bd hm fun f k7 hm=>cJ E rfl rfl rfl rfl rfl cf6 (iR (x20:=(⟨10,0,0,0,false,[],(ByteArray.mk #[]),max (IntKind.i64.wrap ((IntKind.i64.wrap (y+z)) - z)) 0,0,(⟨[],[]⟩:aW),[],(⟨1,0,(ByteArray.mk #[]),false⟩:aJ)⟩:aV)) H (t4 k1) (t4 k2) (t4 k3) (t4 k4) (t4 k5) (t4 k6) mm3 mm2 mm1 m0 (t4 (c8 _ j2)) k7)<|?_
         rintro _ w ⟨o0,o1,o2,j7,o3,o4,f1,f2,f3,f4,f5,f6,rfl,H⟩ a E
         refine al E H rfl rfl rfl rfl iO fun j8 w a H E=>bC (i:=0) E H (wn rfl) rfl rfl rfl rfl rfl rfl bV rfl (bF H m0 mm1 mm2 mm3 mm4 mm5) fun w H=>nt<|wp_seq<|sq<|pr 2 E rfl fun a E=>nt<|wif E hm rfl (fun hm=>?_) fun hm=>?_
         ·refine sq<|pr 2 E rfl fun a E=>nt<|wp_ret<|aP<|bU<|aP<|aP<|bU<|?_
          refine aP<|bB E rfl rfl<|have H:=H.drs [0,0,0,0,0,0,0];?_
          cases hm
          exact ⟨rfl,H.reads (Y8 (Y8 c8))⟩
         ·refine wp_skip<|aD<|wp_seq<|aT (fun a w=>∃ j0 u,Env 171 a [(0,e0),(3,.bool Y),(4,pt b2 0),(5,pt J 0),(6,.int .i64 (IntKind.i64.wrap (y+z))),(7,.int .i64 C),(8,pt b0 0),(11,.int .i64 z),(12,pt j8 0),(109,.bool j0)]∧Sep w (Blk b2 82 [f1,f2,f3,f4,f5,f6,.map (some D),.map (some F),.map (some G)]::Blk J 36 (bA I.1 c9 d0 d1 d2 d3 d4)::Blk b0 45 (jN g)::Blk j8 36 (bA f.1 o0 o1 o2 j7 o3 o4)::cC Tryz.prog 2 (kyI .i64) bI true D f.2.2.2.2.2.2.2.1::cC Tryz.prog 2 (kyI .i64) cW true F f.2.2.2.2.2.2.2.2.1::cC Tryz.prog 2 (kyI .i64) bI true G f.2.2.2.2.2.2.2.2.2::Fo) u∧(∀ r,r ∈ rs→r ∈ u)∧rSl aG f1 f.2.1 ∈ u∧rSl aK f2 f.2.2.1 ∈ u∧rSl aR f3 f.2.2.2.1 ∈ u∧rSl bG f4 f.2.2.2.2.1 ∈ u∧rSl aY f5 f.2.2.2.2.2.1 ∈ u∧rSl aO f6 f.2.2.2.2.2.2.1 ∈ u∧rSl aU j7 f.1.Events ∈ u∧iT (cI Y d5 I c0) y z C f g j0=some r) ?_ ?_
          ·refine wp_region_lit<|pr 1 E rfl fun a E=>lb E H 0 rfl rfl rfl rfl rfl rfl rfl U26 rfl fun a E=>pr 2 E rfl fun a E=>cs hm (fun Z hm=>?_) fun Z hm=>?_
           ·exact pk 6 E (kc 103 rfl Z) rfl fun a E=>nt<|have H:=H.frs [4,4,4,3,6,6,6] rfl;⟨_,_,E.to rfl,H,(Y8 (Y8 c8)),mm6,(t1 mm6),(t2 mm6),(t3 mm6),(t4 mm6),(t5 mm6),mm3,hm⟩
           ·exact pk 1 E (kc 103 rfl Z) rfl fun a E=>aQ E (ws' (d:=103) E rfl rfl rfl rfl Z) rfl rfl (bT (i:=0) E H rfl rfl rfl rfl U32 rfl) fun a E=>aQ E (ws' (d:=103) E rfl rfl rfl rfl Z) rfl rfl (dB E H rfl rfl mm3 U32) fun a E=>pk 3 E (kc 103 rfl Z) rfl fun a E=>nt<|have H:=H.frs [4,4,4,3,6,6,6] rfl;⟨_,_,E.to rfl,H,(Y8 (Y8 c8)),mm6,(t1 mm6),(t2 mm6),(t3 mm6),(t4 mm6),(t5 mm6),mm3,hm⟩
          ·clear E H hm
           rintro a w ⟨j0,u,E,H,j,k,l,m,n,o,p,K,hm⟩
           unfold iT at hm
           refine wif E hm rfl (fun hm=>?_) fun hm=>?_
           ·refine sq<|pr 1 E rfl fun a E=>nt<|wp_ret<|aP<|bU<|aP<|aP<|bU<|?_
            refine aP<|bB E rfl rfl<|have H:=H.drs [0,0,0,0,0,0,0];?_
            cases hm
            exact ⟨rfl,H.reads j⟩
           ·refine wp_skip<|aD<|aT (fun a w=>∃ j1 B,Env 171 a [(0,e0),(3,.bool Y),(4,pt b2 0),(5,pt J 0),(6,.int .i64 (IntKind.i64.wrap (y+z))),(7,.int .i64 C),(164,.bool j1)]∧Sep w (Blk b2 82 [f1,f2,f3,f4,f5,f6,.map (some D),.map (some F),.map (some G)]::Blk J 36 (bA I.1 c9 d0 d1 d2 d3 d4)::cC Tryz.prog 2 (kyI .i64) bI true D f.2.2.2.2.2.2.2.1::cC Tryz.prog 2 (kyI .i64) cW true F f.2.2.2.2.2.2.2.2.1::cC Tryz.prog 2 (kyI .i64) bI true G f.2.2.2.2.2.2.2.2.2::Fo) B∧(∀ r,r ∈ rs→r ∈ B)∧rSl aG f1 f.2.1 ∈ B∧rSl aK f2 f.2.2.1 ∈ B∧rSl aR f3 f.2.2.2.1 ∈ B∧rSl bG f4 f.2.2.2.2.1 ∈ B∧rSl aY f5 f.2.2.2.2.2.1 ∈ B∧rSl aO f6 f.2.2.2.2.2.2.1 ∈ B∧bZ (cI Y d5 I c0) y z C f j1=some r) ?_ ?_
            ·refine wp_region_lit<|pr 3 E rfl fun a E=>cs hm (fun b6 hm=>?_) fun b6 hm=>?_
             ·refine pk 1 E (kc 112 rfl b6) rfl fun a E=>aQ E (ws' (d:=112) E rfl rfl rfl rfl b6) rfl rfl (bT (i:=2) E H rfl rfl rfl rfl U3 rfl) fun a E=>pk 3 E (kc 112 rfl b6) rfl fun a E=>cs hm (fun b hm=>?_) fun b hm=>?_
              ·refine pk 1 E (kc 117 rfl b) rfl fun a E=>aQ E (ws' (d:=117) E rfl rfl rfl rfl b) rfl rfl (bT (i:=3) E H rfl rfl rfl rfl U32 rfl) fun a E=>bd hm fun o5 k8 hm=>dF E H (ws' (d:=117) E rfl rfl rfl rfl b) rfl rfl rfl rfl rfl K U32 sB k8 fun q173 a H E=>have H:=H.derive1 m0 (rAt (kI .i64) (q173.add 0) o5.Num) (fun ok h=>Fq h);pk 1 E (kc 117 rfl b) rfl fun a E=>aQ E (ws' (d:=117) E rfl rfl rfl rfl b) rfl rfl (nB E H rfl rfl m0 U2 rfl) fun a E=>pk 3 E (kc 117 rfl b) rfl fun a E=>cs hm (fun U hm=>?_) fun U hm=>?_
               ·exact pk 39 E (kc' (kc 125 rfl U) 117 rfl b) rfl fun a E=>nt<|have H:=H.drs [2,2];⟨_,_,E.to rfl,H,(Y2 j),(t2 k),(t2 l),(t2 m),(t2 n),(t2 o),(t2 p),hm⟩
               ·refine pk 1 E (kc 125 rfl U) rfl fun a E=>aQ E (ws' (d:=125) E rfl rfl rfl rfl U) rfl rfl (bT (i:=2) E H rfl rfl rfl rfl U3 rfl) fun a E=>pk 2 E (kc 125 rfl U) rfl fun a E=>cs hm (fun L hm=>?_) fun L hm=>?_
                ·refine pk 1 E (kc 129 rfl L) rfl fun a E=>aQ E (ws' (d:=129) E rfl rfl rfl rfl L) rfl rfl (bT (i:=3) E H rfl rfl rfl rfl U32 rfl) fun a E=>bd hm fun o6 k9 hm=>dF E H (ws' (d:=129) E rfl rfl rfl rfl L) rfl rfl rfl rfl rfl (t2 K) U32 sB k9 fun q178 a H E=>have H:=H.derive1 m0 (rAt (kI .i64) (q178.add 1) o6.Kind) (fun ok h=>oE h);pk 1 E (kc 129 rfl L) rfl fun a E=>aQ E (ws' (d:=129) E rfl rfl rfl rfl L) rfl rfl (nB E H rfl rfl m0 U3 rfl) fun a E=>pk 4 E (kc' (kc' (kc 129 rfl L) 125 rfl U) 117 rfl b) rfl fun a E=>cs hm (fun V hm=>?_) fun V hm=>?_
                 ·exact pk 26 E (kc' (kc 138 rfl V) 117 rfl b) rfl fun a E=>nt<|have H:=H.drs [2,2];⟨_,_,E.to rfl,H,(Y4 j),(t4 k),(t4 l),(t4 m),(t4 n),(t4 o),(t4 p),hm⟩
                 ·refine pk 1 E (kc 138 rfl V) rfl fun a E=>aQ E (ws' (d:=138) E rfl rfl rfl rfl V) rfl rfl (bT (i:=2) E H rfl rfl rfl rfl U3 rfl) fun a E=>pk 2 E (kc 138 rfl V) rfl fun a E=>cs hm (fun M hm=>?_) fun M hm=>?_
                  ·refine pk 1 E (kc 142 rfl M) rfl fun a E=>aQ E (ws' (d:=142) E rfl rfl rfl rfl M) rfl rfl (bT (i:=3) E H rfl rfl rfl rfl U32 rfl) fun a E=>bd hm fun o7 l0 hm=>dF E H (ws' (d:=142) E rfl rfl rfl rfl M) rfl rfl rfl rfl rfl (t4 K) U32 sB l0 fun q183 a H E=>have H:=H.derive1 m0 (rAt (kI .i64) (q183.add 1) o7.Kind) (fun ok h=>oE h);pk 1 E (kc 142 rfl M) rfl fun a E=>aQ E (ws' (d:=142) E rfl rfl rfl rfl M) rfl rfl (nB E H rfl rfl m0 U3 rfl) fun a E=>pk 4 E (kc' (kc' (kc 142 rfl M) 138 rfl V) 117 rfl b) rfl fun a E=>cs hm (fun W hm=>?_) fun W hm=>?_
                   ·exact pk 13 E (kc' (kc 151 rfl W) 117 rfl b) rfl fun a E=>nt<|have H:=H.drs [2,2];⟨_,_,E.to rfl,H,(Y6 j),(t6 k),(t6 l),(t6 m),(t6 n),(t6 o),(t6 p),hm⟩
                   ·refine pk 1 E (kc 151 rfl W) rfl fun a E=>aQ E (ws' (d:=151) E rfl rfl rfl rfl W) rfl rfl (bT (i:=2) E H rfl rfl rfl rfl U3 rfl) fun a E=>pk 2 E (kc 151 rfl W) rfl fun a E=>cs hm (fun N hm=>?_) fun N hm=>?_
                    ·refine pk 1 E (kc 155 rfl N) rfl fun a E=>aQ E (ws' (d:=155) E rfl rfl rfl rfl N) rfl rfl (bT (i:=3) E H rfl rfl rfl rfl U32 rfl) fun a E=>bd hm fun o8 l1 hm=>dF E H (ws' (d:=155) E rfl rfl rfl rfl N) rfl rfl rfl rfl rfl (t6 K) U32 sB l1 fun q188 a H E=>have H:=H.derive1 m0 (rAt (kI .i64) (q188.add 1) o8.Kind) (fun ok h=>oE h);pk 1 E (kc 155 rfl N) rfl fun a E=>aQ E (ws' (d:=155) E rfl rfl rfl rfl N) rfl rfl (nB E H rfl rfl m0 U3 rfl) fun a E=>pk 4 E (kc' (kc' (kc 155 rfl N) 151 rfl W) 117 rfl b) rfl fun a E=>nt<|?_
                     exact have H:=H.drs [2,2];⟨_,_,E.to rfl,H,(Y8 j),(t8 k),(t8 l),(t8 m),(t8 n),(t8 o),(t8 p),hm⟩
                    ·exact pk 9 E (kc' (kc' (kc 155 rfl N) 151 rfl W) 117 rfl b) rfl fun a E=>nt<|have H:=H.drs [2,2];⟨_,_,E.to rfl,H,(Y6 j),(t6 k),(t6 l),(t6 m),(t6 n),(t6 o),(t6 p),hm⟩
                  ·refine pk 10 E (kc' (kc' (kc 142 rfl M) 138 rfl V) 117 rfl b) rfl fun a E=>aQ E (ws E rfl rfl rfl rfl) rfl rfl (bT (i:=2) E H rfl rfl rfl rfl U3 rfl) fun a E=>pr 2 E rfl fun a E=>cs hm (fun O hm=>?_) fun O hm=>?_
                   ·refine pk 1 E (kc 155 rfl O) rfl fun a E=>aQ E (ws' (d:=155) E rfl rfl rfl rfl O) rfl rfl (bT (i:=3) E H rfl rfl rfl rfl U32 rfl) fun a E=>bd hm fun o9 l2 hm=>dF E H (ws' (d:=155) E rfl rfl rfl rfl O) rfl rfl rfl rfl rfl (t4 K) U32 sB l2 fun q192 a H E=>have H:=H.derive1 m0 (rAt (kI .i64) (q192.add 1) o9.Kind) (fun ok h=>oE h);pk 1 E (kc 155 rfl O) rfl fun a E=>aQ E (ws' (d:=155) E rfl rfl rfl rfl O) rfl rfl (nB E H rfl rfl m0 U3 rfl) fun a E=>pk 4 E (kc' (kc 155 rfl O) 117 rfl b) rfl fun a E=>nt<|?_
                    exact have H:=H.drs [2,2];⟨_,_,E.to rfl,H,(Y6 j),(t6 k),(t6 l),(t6 m),(t6 n),(t6 o),(t6 p),hm⟩
                   ·exact pk 9 E (kc' (kc 155 rfl O) 117 rfl b) rfl fun a E=>nt<|have H:=H.drs [2,2];⟨_,_,E.to rfl,H,(Y4 j),(t4 k),(t4 l),(t4 m),(t4 n),(t4 o),(t4 p),hm⟩
                ·refine pk 10 E (kc' (kc' (kc 129 rfl L) 125 rfl U) 117 rfl b) rfl fun a E=>aQ E (ws E rfl rfl rfl rfl) rfl rfl (bT (i:=2) E H rfl rfl rfl rfl U3 rfl) fun a E=>pr 2 E rfl fun a E=>cs hm (fun P hm=>?_) fun P hm=>?_
                 ·refine pk 1 E (kc 142 rfl P) rfl fun a E=>aQ E (ws' (d:=142) E rfl rfl rfl rfl P) rfl rfl (bT (i:=3) E H rfl rfl rfl rfl U32 rfl) fun a E=>bd hm fun p0 l3 hm=>dF E H (ws' (d:=142) E rfl rfl rfl rfl P) rfl rfl rfl rfl rfl (t2 K) U32 sB l3 fun q196 a H E=>have H:=H.derive1 m0 (rAt (kI .i64) (q196.add 1) p0.Kind) (fun ok h=>oE h);pk 1 E (kc 142 rfl P) rfl fun a E=>aQ E (ws' (d:=142) E rfl rfl rfl rfl P) rfl rfl (nB E H rfl rfl m0 U3 rfl) fun a E=>pk 4 E (kc' (kc 142 rfl P) 117 rfl b) rfl fun a E=>cs hm (fun X hm=>?_) fun X hm=>?_
                  ·exact pk 13 E (kc' (kc 151 rfl X) 117 rfl b) rfl fun a E=>nt<|have H:=H.drs [2,2];⟨_,_,E.to rfl,H,(Y4 j),(t4 k),(t4 l),(t4 m),(t4 n),(t4 o),(t4 p),hm⟩
                  ·refine pk 1 E (kc 151 rfl X) rfl fun a E=>aQ E (ws' (d:=151) E rfl rfl rfl rfl X) rfl rfl (bT (i:=2) E H rfl rfl rfl rfl U3 rfl) fun a E=>pk 2 E (kc 151 rfl X) rfl fun a E=>cs hm (fun Q hm=>?_) fun Q hm=>?_
                   ·refine pk 1 E (kc 155 rfl Q) rfl fun a E=>aQ E (ws' (d:=155) E rfl rfl rfl rfl Q) rfl rfl (bT (i:=3) E H rfl rfl rfl rfl U32 rfl) fun a E=>bd hm fun p1 l4 hm=>dF E H (ws' (d:=155) E rfl rfl rfl rfl Q) rfl rfl rfl rfl rfl (t4 K) U32 sB l4 fun q201 a H E=>have H:=H.derive1 m0 (rAt (kI .i64) (q201.add 1) p1.Kind) (fun ok h=>oE h);pk 1 E (kc 155 rfl Q) rfl fun a E=>aQ E (ws' (d:=155) E rfl rfl rfl rfl Q) rfl rfl (nB E H rfl rfl m0 U3 rfl) fun a E=>pk 4 E (kc' (kc' (kc 155 rfl Q) 151 rfl X) 117 rfl b) rfl fun a E=>nt<|?_
                    exact have H:=H.drs [2,2];⟨_,_,E.to rfl,H,(Y6 j),(t6 k),(t6 l),(t6 m),(t6 n),(t6 o),(t6 p),hm⟩
                   ·exact pk 9 E (kc' (kc' (kc 155 rfl Q) 151 rfl X) 117 rfl b) rfl fun a E=>nt<|have H:=H.drs [2,2];⟨_,_,E.to rfl,H,(Y4 j),(t4 k),(t4 l),(t4 m),(t4 n),(t4 o),(t4 p),hm⟩
                 ·refine pk 10 E (kc' (kc 142 rfl P) 117 rfl b) rfl fun a E=>aQ E (ws E rfl rfl rfl rfl) rfl rfl (bT (i:=2) E H rfl rfl rfl rfl U3 rfl) fun a E=>pr 2 E rfl fun a E=>cs hm (fun R hm=>?_) fun R hm=>?_
                  ·refine pk 1 E (kc 155 rfl R) rfl fun a E=>aQ E (ws' (d:=155) E rfl rfl rfl rfl R) rfl rfl (bT (i:=3) E H rfl rfl rfl rfl U32 rfl) fun a E=>bd hm fun p2 l5 hm=>dF E H (ws' (d:=155) E rfl rfl rfl rfl R) rfl rfl rfl rfl rfl (t2 K) U32 sB l5 fun q205 a H E=>have H:=H.derive1 m0 (rAt (kI .i64) (q205.add 1) p2.Kind) (fun ok h=>oE h);pk 1 E (kc 155 rfl R) rfl fun a E=>aQ E (ws' (d:=155) E rfl rfl rfl rfl R) rfl rfl (nB E H rfl rfl m0 U3 rfl) fun a E=>pk 4 E (kc' (kc 155 rfl R) 117 rfl b) rfl fun a E=>nt<|?_
                   exact have H:=H.drs [2,2];⟨_,_,E.to rfl,H,(Y4 j),(t4 k),(t4 l),(t4 m),(t4 n),(t4 o),(t4 p),hm⟩
                  ·exact pk 9 E (kc' (kc 155 rfl R) 117 rfl b) rfl fun a E=>nt<|have H:=H.drs [2,2];⟨_,_,E.to rfl,H,(Y2 j),(t2 k),(t2 l),(t2 m),(t2 n),(t2 o),(t2 p),hm⟩
              ·exact pk 47 E (kc 117 rfl b) rfl fun a E=>nt<|have H:=H.drs [2,2];⟨_,_,E.to rfl,H,j,k,l,m,n,o,p,hm⟩
             ·exact pk 52 E (kc 112 rfl b6) rfl fun a E=>nt<|have H:=H.drs [2,2];⟨_,_,E.to rfl,H,j,k,l,m,n,o,p,hm⟩
            ·clear E H hm
             rintro a w ⟨j1,B,E,H,j4,l6,l7,l8,l9,m1,m2,hm⟩
             unfold bZ at hm
             refine wif E hm rfl (fun hm=>?_) fun hm=>?_
             ·refine sq<|pr 1 E rfl fun a E=>nt<|wp_ret<|bU<|aP<|aP<|bU<|aP<|?_
              refine bB E rfl rfl<|have H:=H.drs [0,0,0,0,0];?_
              cases hm
              exact ⟨rfl,H.reads j4⟩
             ·exact wp_skip<|bY<|aD<|wp_region_lit<|pr 3 E rfl fun a E=>nt<|⟨c0,Nat.lt_succ_self c0,X18 ⟨E.to rfl,H,j4,l6,l7,l8,l9,m1,m2,hm⟩⟩
     ·refine wp_exit<|bH<|bH<|dZ<|aD<|sq<|pr 2 E rfl fun a E=>cs hm (fun b7 hm=>?_) fun b7 hm=>?_
      ·refine pk 1 E (kc 166 rfl b7) rfl fun a E=>aQ E (ws' (d:=166) E rfl rfl rfl rfl b7) rfl rfl (bT (i:=1) E H rfl rfl rfl rfl U26 rfl) fun a E=>pk 3 E (kc 166 rfl b7) rfl fun a E=>nt<|wp_ret<|bB E rfl rfl<|have H:=H.drs [0,0,0,0,0];?_
       cases hm
       exact ⟨rfl,H.reads b1⟩
      ·refine pk 5 E (kc 166 rfl b7) rfl fun a E=>nt<|wp_ret<|bB E rfl rfl<|have H:=H.drs [0,0,0,0,0];?_
       cases hm
       exact ⟨rfl,H.reads b1⟩

end Go.Cb
