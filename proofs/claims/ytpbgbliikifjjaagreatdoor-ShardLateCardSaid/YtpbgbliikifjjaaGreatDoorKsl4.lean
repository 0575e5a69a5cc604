/- Functions of the program, walked: each comes to its plain function. -/
import Derived.Test.YtpbgbliikifjjaaGreatDoorKsl3
import Derived.Test.YtpbgbliikifjjaaGreatDoorExsl
import Derived.Test.YtpbgbliikifjjaaGreatDoorNwsl
import Derived.Test.YtpbgbliikifjjaaGreatDoorSksl
set_option linter.unusedVariables false
set_option linter.unusedSimpArgs false
set_option maxRecDepth 20000
set_option maxHeartbeats 1000000
namespace Go.Cb
open Go.Proofs Go.RowKit
variable {w:World} {Fo:List Ob} {rs:List Rp}

def gG(c:List aN)(d:ByteArray):Nat→Int→Option Int
  | 0,_=>none
  | f+1,b=>
    if (decide (b < (c.length:Int)))=true then ((idx c b).bind fun g=>(C6 g d).bind fun e=>if e=true then (some (b)) else (gG c d f (IntKind.i64.wrap (b+1)))) else (some ((-1)))
def lK(b:List aN)(c:ByteArray):Option Int:=
  gG b c (((b.length:Int) - 0:Int).toNat+1) 0
theorem zB{j:Value}{d:List aN}{e:Nat}{f:ByteArray}(H:Sep w (Blk e 9 [.string f]::Fo) rs)(i:rSl bH j d ∈ rs){r:Int}(hm:lK d f=some r) :
    Calls Tryz.prog 120 [j,.func (.func 121) #[] #[pt e 0]].toArray w (Ret fun v w'=>.int .i64 r=v∧Sep w' (Blk e 9 [.string f]::Fo) (rs)):=by
 unfold lK at hm
 refine ent Tryz.func120 rfl Tryz.ntmps120 rfl rfl fun a E=>sq<|pr 1 E rfl fun a E=>nt<|wp_seq<|sq<|pr 1 E rfl fun a E=>sv E rfl rfl rfl (cV E H rfl rfl i U62) fun a E=>pr 1 E rfl fun a E=>?_
 refine nt<|wp_block<|bX (fun c a w=>∃ k g,Env 19 a [(0,j),(1,.func (.func 121) #[] #[pt e 0]),(7,.int .i64 (d.length:Int)),(8,.int .i64 k)]∧Sep w (Blk e 9 [.string f]::Fo) g∧(∀ r,r ∈ rs→r ∈ g)∧gG d f c k=some r) (((d.length:Int) - 0:Int).toNat+1) ?_ ?_
 ·exact ⟨_,_,E.to rfl,H,Y0,hm⟩
 ·clear E H hm
  rintro c a w ⟨k,g,E,H,b,hm⟩
  cases c with
  | zero=>exact (bU hm rfl).elim
  | succ c=>
   unfold gG at hm
   refine sq<|pr 1 E rfl fun a E=>nt<|wp_seq<|wif E hm rfl (fun hm=>?_) fun hm=>?_
   ·refine wp_skip<|aC<|wp_seq<|wp_block<|sq<|pr 2 E rfl fun a E=>nx<|pr 3 E rfl fun a E=>bd hm fun o l hm=>?_
    refine dR E H (wn rfl) rfl rfl rfl rfl rfl (b _ i) U62 iW l fun q11 a H E=>ldf eX E H rfl rfl rfl rfl rfl m0 F5 rfl iW fun a E=>bd hm fun n m hm=>aW E (wn rfl) rfl rfl (bR E rfl rfl rfl (HM _)) (Gx H m)<|?_
    rintro _ w ⟨rfl,H⟩ a E
    refine nt<|wif E hm rfl (fun hm=>?_) fun hm=>?_
    ·refine sq<|pr 2 E rfl fun a E=>nt<|wp_ret<|bW<|aP<|aP<|bW<|aP<|?_
     refine aY E rfl rfl<|?_
     cases hm
     exact ⟨rfl,H.reads (Y1 b)⟩
    ·exact wp_skip<|bZ<|aC<|wp_region_lit<|pr 2 E rfl fun a E=>nt<|⟨c,Nat.lt_succ_self c,_,_,E.to rfl,H,(Y1 b),hm⟩
   ·refine wp_exit<|bG<|bG<|dN<|aC<|sq<|pr 1 E rfl fun a E=>nt<|wp_ret<|?_
    refine aY E rfl rfl<|?_
    cases hm
    exact ⟨rfl,H.reads b⟩

def K4(b:List aN)(d:ByteArray):Option (Int×Bool):=
  (lK b d).bind fun c=>if (decide (c < 0))=true then (some (0,false)) else ((idx b c).bind fun e=>some (e.Txn,true))
theorem Lo{c:Value}{d:List aN}{e:ByteArray}(H:Sep w (Fo) rs)(b:rSl bH c d ∈ rs){r:Int×Bool}(hm:K4 d e=some r) :
    Calls Tryz.prog 68 [c,.string e].toArray w (Ret fun v w'=>.tuple #[.int .i64 r.1,.bool r.2]=v∧Sep w' (Fo) (rs)):=by
 unfold K4 at hm
 refine ent Tryz.func68 rfl Tryz.ntmps68 rfl rfl fun a E=>sq<|bS E H (wn rfl) rfl rfl rfl rfl rfl fun j w a H E=>pr 2 E rfl fun a E=>nx<|pr 1 E rfl fun a E=>sv E rfl rfl rfl (kJ E rfl rfl rfl) fun a E=>bd hm fun k f hm=>xk E rfl rfl rfl rfl rfl Fh (zB H b f) fun w H a E=>?_
 refine pr 1 E rfl fun a E=>nt<|wp_seq<|sq<|pr 2 E rfl fun a E=>nt<|wif E hm rfl (fun hm=>?_) fun hm=>?_
 ·refine sq<|pr 2 E rfl fun a E=>nt<|wp_ret<|aP<|hG E rfl rfl rfl<|have H:=H.drop 0;?_
  cases hm
  exact ⟨rfl,H.reads Y0⟩
 ·refine wp_skip<|aC<|sq<|pr 2 E rfl fun a E=>bd hm fun i g hm=>dR E H (wn rfl) rfl rfl rfl rfl rfl b U62 iW g fun q10 a H E=>have H:=H.derive1 m0 (rAt (kI .i64) (q10.add 1) i.Txn) (fun ok h=>Gi h);pr 1 E rfl fun a E=>sv E rfl rfl rfl (qT E H rfl rfl m0 U2 rfl) fun a E=>?_
  refine pr 2 E rfl fun a E=>nt<|wp_ret<|hG E rfl rfl rfl<|have H:=H.drop 0;?_
  cases hm
  exact ⟨rfl,H.reads (Y2 Y0)⟩

def yC(d:ByteArray)(b:List aN):Option Bool:=
  (K4 b d).bind fun c=>some (c.2)
theorem W8{q:ByteArray}{n c:Nat}{b d e f g i j k l:Value}{m:List aN}(H:Sep w (Blk n 28 [pt c 0]::Blk c 75 [d,e,f,b,g,i,j,k,l]::Fo) rs)(o:rSl bH b m ∈ rs){r:Bool}(hm:yC q m=some r) :
    Calls Tryz.prog 67 [.string q,pt n 0].toArray w (Ret fun v w'=>.bool r=v∧Sep w' (Blk n 28 [pt c 0]::Blk c 75 [d,e,f,b,g,i,j,k,l]::Fo) (rs)):=by
 unfold yC at hm
 refine ent Tryz.func67 rfl Tryz.ntmps67 rfl rfl fun a E=>sq<|pr 1 E rfl fun a E=>nx<|lb E H 0 rfl rfl rfl rfl rfl rfl rfl U28 rfl fun a E=>pr 2 E rfl fun a E=>lb E H 1 rfl rfl rfl rfl rfl rfl rfl U62 rfl fun a E=>pr 1 E rfl fun a E=>bd hm fun s p hm=>?_
 refine xk E rfl rfl rfl rfl rfl LH (Lo H o p) fun w H a E=>pr 5 E rfl fun a E=>nx<|pr 2 E rfl fun a E=>nt<|wp_ret<|aY E rfl rfl<|?_
 cases hm
 exact ⟨rfl,H.reads Y0⟩

def iJ(d:List ByteArray)(c:List aN):Nat→Int→Option Int
  | 0,_=>none
  | g+1,b=>
    if (decide (b < (d.length:Int)))=true then ((idx d b).bind fun e=>(yC e c).bind fun f=>if f=true then (some (b)) else (iJ d c g (IntKind.i64.wrap (b+1)))) else (some ((-1)))
def nK(b:List ByteArray)(c:List aN):Option Int:=
  iJ b c (((b.length:Int) - 0:Int).toNat+1) 0
theorem w8{m g n o p q s t u x:Value}{c:List ByteArray}{y j:Nat}{z:List aN}(H:Sep w (Row 9 kS m c::Blk y 28 [pt j 0]::Blk j 75 [n,o,p,g,q,s,t,u,x]::Fo) rs)(C:rSl bH g z ∈ rs){r:Int}(hm:nK c z=some r) :
    Calls Tryz.prog 119 [m,.func (.func 67) #[] #[pt y 0]].toArray w (Ret fun v w'=>.int .i64 r=v∧Sep w' (Blk y 28 [pt j 0]::Blk j 75 [n,o,p,g,q,s,t,u,x]::Row 9 kS m c::Fo) (rs)):=by
 unfold nK at hm
 refine ent Tryz.func119 rfl Tryz.ntmps119 rfl rfl fun a E=>sq<|pr 1 E rfl fun a E=>nt<|wp_seq<|sq<|pr 1 E rfl fun a E=>sv E rfl rfl rfl (kK (i:=0) E H rfl rfl rfl U33) fun a E=>pr 1 E rfl fun a E=>?_
 refine nt<|wp_block<|bX (fun l a w=>∃ A e,Env 19 a [(0,m),(1,.func (.func 67) #[] #[pt y 0]),(7,.int .i64 (c.length:Int)),(8,.int .i64 A)]∧Sep w (Row 9 kS m c::Blk y 28 [pt j 0]::Blk j 75 [n,o,p,g,q,s,t,u,x]::Fo) e∧(∀ r,r ∈ rs→r ∈ e)∧iJ c z l A=some r) (((c.length:Int) - 0:Int).toNat+1) ?_ ?_
 ·exact ⟨_,_,E.to rfl,H,Y0,hm⟩
 ·clear E H hm
  rintro l a w ⟨A,e,E,H,b,hm⟩
  cases l with
  | zero=>exact (bU hm rfl).elim
  | succ l=>
   unfold iJ at hm
   refine sq<|pr 1 E rfl fun a E=>nt<|wp_seq<|wif E hm rfl (fun hm=>?_) fun hm=>?_
   ·refine wp_skip<|aC<|wp_seq<|wp_block<|sq<|pr 2 E rfl fun a E=>nx<|pr 3 E rfl fun a E=>bd hm fun F f hm=>?_
    obtain ⟨G,I,B⟩:=H.rowformNE (i:=0) rfl f
    refine sv E rfl rfl rfl (dG (d:=kS) E B rfl rfl rfl rfl U33 sz9 f) fun a E=>sv E rfl rfl rfl (pO (d:=kS) (i:=0) (k:=0) E H Yn B rfl rfl rfl f rfl U9 rfl) fun a E=>have H:=H.frs [0,2,2] rfl;bd hm fun J D hm=>aW E (wn rfl) rfl rfl (bR E rfl rfl rfl (LG _)) (W8 H (b _ C) D)<|?_
    rintro _ w ⟨rfl,H⟩ a E
    refine nt<|wif E hm rfl (fun hm=>?_) fun hm=>?_
    ·refine sq<|pr 2 E rfl fun a E=>nt<|wp_ret<|bW<|aP<|aP<|bW<|aP<|?_
     refine aY E rfl rfl<|?_
     cases hm
     exact ⟨rfl,H.reads b⟩
    ·exact wp_skip<|bZ<|aC<|wp_region_lit<|pr 2 E rfl fun a E=>nt<|have H:=H.frs [1,1,2] rfl;⟨l,Nat.lt_succ_self l,_,_,E.to rfl,H,b,hm⟩
   ·refine wp_exit<|bG<|bG<|dN<|aC<|sq<|pr 1 E rfl fun a E=>nt<|wp_ret<|?_
    refine aY E rfl rfl<|have H:=H.frs [0,2,2] rfl;?_
    cases hm
    exact ⟨rfl,H.reads b⟩

def lS(d:List ByteArray)(b:List aN):Option Bool:=
  (nK d b).bind fun c=>some (decide (c ≥ 0))
theorem zY{n b d e f g i j k l:Value}{o:List ByteArray}{p c:Nat}{m:List aN}(H:Sep w (Row 9 kS n o::Blk p 28 [pt c 0]::Blk c 75 [d,e,f,b,g,i,j,k,l]::Fo) rs)(q:rSl bH b m ∈ rs){r:Bool}(hm:lS o m=some r) :
    Calls Tryz.prog 66 [n,.func (.func 67) #[] #[pt p 0]].toArray w (Ret fun v w'=>.bool r=v∧Sep w' (Blk p 28 [pt c 0]::Blk c 75 [d,e,f,b,g,i,j,k,l]::Row 9 kS n o::Fo) (rs)):=by
 unfold lS at hm
 refine ent Tryz.func66 rfl Tryz.ntmps66 rfl rfl fun a E=>sq<|pr 1 E rfl fun a E=>nx<|pr 2 E rfl fun a E=>bd hm fun t s hm=>xk E rfl rfl rfl rfl rfl Pu (w8 H q s) fun w H a E=>pr 2 E rfl fun a E=>nt<|?_
 refine wp_ret<|aY E rfl rfl<|?_
 cases hm
 exact ⟨rfl,H.reads Y0⟩

def rW(f:List aF)(g:List aJ)(c:List aK)(d:List aD)(x20:aU)(e:Int):Option (aH×(List aF)×(List aJ)×(List aK)×(List aD)):=
  if (e != 0)=true then ((dZ e).bind fun i=>some (i,f,g,c,d)) else ((oS f g c d x20.Pieces).bind fun b=>some (b.1,b.2.1,b.2.2.1,b.2.2.2.1,b.2.2.2.2))
def rX(d:List aF)(e:List aJ)(b:List aK)(c:List aD)(x20:aU)(f:Int)(g:Bool):Option (aH×(List aF)×(List aJ)×(List aK)×(List aD)):=
  if g=true then (rW d e b c x20 131) else (rW d e b c x20 f)
def q5(f:List aF)(g:List aJ)(j:List aG)(k:List aN)(c:List aK)(d:List aD)(x20:aU):Option (aH×(List aF)×(List aJ)×(List aK)×(List aD)):=
  (vO x20.Pieces).bind fun e=>(lS e k).bind fun i=>(mN j e).bind fun b=>if (b == 0)=true then (rX f g c d x20 b i) else (rX f g c d x20 b false)
theorem Cf{c:Nat}{L M u x g j k y z A l m n:Value}{N:List aF}{O:List aJ}{b1:List aG}{b2:List aN}{o:List aK}{p:List aD}{x20:aU}(H:Sep w (Blk c 75 [L,M,u,x,g,j,l,m,n]::Fo) rs)(B:rSl aE L N ∈ rs)(C:rSl aI M O ∈ rs)(T:rSl aT u b1 ∈ rs)(U:rSl bH x b2 ∈ rs)(D:rSl bB g o ∈ rs)(F:rSl aO j p ∈ rs)(G:rSl cA k x20.Pieces ∈ rs)(V:u7 Tryz.prog ∈ rs){r:aH×(List aF)×(List aJ)×(List aK)×(List aD)}(hm:q5 N O b1 b2 o p x20=some r) :
    Calls Tryz.prog 25 [pt c 0,.agg (aS x20 k y z A).toArray].toArray w (Ret fun v w'=>∃ b3 b4 b5 b6 b7 b8 b9 P Q R,.agg (bC r.1 b3 b4 b5 b6 b7 b8).toArray=v∧Sep w' (Blk c 75 [b9,P,u,x,Q,R,l,m,n]::Fo) (rSl bF b3 r.1.Results::rSl aE b4 r.1.Store.Nodes::rSl aI b5 r.1.Store.Turns::rSl aX b6 r.1.Events::rSl bM b7 r.1.Mounts::rSl (kI .i64) b8 r.1.Wounded::rSl aE b9 r.2.1::rSl aI P r.2.2.1::rSl bB Q r.2.2.2.1::rSl aO R r.2.2.2.2::rs)):=by
 unfold q5 at hm
 refine ent Tryz.func25 rfl Tryz.ntmps25 rfl rfl fun a E=>sq<|bS E H (wn rfl) rfl rfl rfl rfl rfl fun q w a H E=>bS E H (wn rfl) rfl rfl rfl rfl rfl fun s w a H E=>al E H rfl rfl rfl rfl gO fun t w a H E=>nx<|pr 1 E rfl fun a E=>lb E H 1 rfl rfl rfl rfl rfl rfl rfl U26 rfl fun a E=>bd hm fun d4 W hm=>?_
 refine cF E rfl rfl rfl rfl rfl DB (Al H G W)<|?_
 rintro _ w ⟨d5,rfl,H⟩ a E
 refine pr 1 E rfl fun a E=>nx<|pr 1 E rfl fun a E=>sv E rfl rfl rfl (kJ E rfl rfl rfl) fun a E=>have H:=H.frs [2,2,4,4,4] rfl;bd hm fun d6 X hm=>xk E rfl rfl rfl rfl rfl Vd (zY H U X) fun w H a E=>pr 1 E rfl fun a E=>nx<|?_
 refine lb E H 0 rfl rfl rfl rfl rfl rfl rfl U28 rfl fun a E=>pr 1 E rfl fun a E=>have H:=H.thaw (i:=2) rfl;have H:=H.frs [3,3,2,3] rfl;bd hm fun S Y hm=>xk E rfl rfl rfl rfl rfl DD (B2 H (t1 T) m0 Y) fun w H a E=>pr 1 E rfl fun a E=>nt<|aV (fun a w=>∃ I d,Env 30 a [(2,pt q 0),(3,pt s 0),(4,pt t 0),(7,.int .i64 I)]∧Sep w (Blk q 28 [pt c 0]::Blk s 37 (aS x20 k y z A)::Blk t 48 bN::Blk c 75 [L,M,u,x,g,j,l,m,n]::Fo) d∧(∀ r,r ∈ rs→r ∈ d)∧rW N O o p x20 I=some r) ?_ ?_
 ·refine aV (fun a w=>∃ J e,Env 30 a [(2,pt q 0),(3,pt s 0),(4,pt t 0),(7,.int .i64 S),(21,.bool J)]∧Sep w (Blk q 28 [pt c 0]::Blk s 37 (aS x20 k y z A)::Blk t 48 bN::Blk c 75 [L,M,u,x,g,j,l,m,n]::Fo) e∧(∀ r,r ∈ rs→r ∈ e)∧rX N O o p x20 S J=some r) ?_ ?_
  ·refine wp_region_lit<|pr 3 E rfl fun a E=>cs hm (fun f hm=>?_) fun f hm=>?_
   ·exact pk 2 E (kc 19 rfl f) rfl fun a E=>nt<|have H:=H.frs [0,2,3,3] rfl;⟨_,_,E.to rfl,H,(Y1 Y0),hm⟩
   ·exact pk 2 E (kc 19 rfl f) rfl fun a E=>nt<|have H:=H.frs [0,2,3,3] rfl;⟨_,_,E.to rfl,H,(Y1 Y0),hm⟩
  ·clear E H hm
   rintro a w ⟨J,e,E,H,K,hm⟩
   unfold rX at hm
   refine wif E hm rfl (fun hm=>?_) fun hm=>?_
   ·exact wp_region_lit<|pr 1 E rfl fun a E=>nt<|⟨_,_,E.to rfl,H,K,hm⟩
   ·exact wp_skip<|aC<|⟨_,_,E.to rfl,H,K,hm⟩
 ·clear E H hm
  rintro a w ⟨I,d,E,H,b,hm⟩
  unfold rW at hm
  refine wp_seq<|sq<|pr 2 E rfl fun a E=>nt<|wif E hm rfl (fun hm=>?_) fun hm=>?_
  ·refine sq<|pr 1 E rfl fun a E=>bd hm fun c0 Z hm=>cF E rfl rfl rfl rfl rfl xN (eI H Z)<|?_
   rintro _ w ⟨c1,c2,c3,c4,c5,c6,rfl,H⟩ a E
   refine bA (i:=2) E H (wn rfl) rfl rfl rfl rfl rfl rfl bV rfl (bD H m0 mm1 mm2 mm3 mm4 mm5) fun w H=>nt<|wp_ret<|aP<|dT E rfl (dD (i:=2) (us:=(bC c0 c1 c2 c3 c4 c5 c6)) H rfl rfl rfl U48 rfl bV)<|have H:=H.drs [0,0,0];?_
   cases hm
   exact X10 ⟨rfl,H.reads (aA m0 (aA mm1 (aA mm2 (aA mm3 (aA mm4 (aA mm5 (aA (t6 (b _ B)) (aA (t6 (b _ C)) (aA (t6 (b _ D)) (aA (t6 (b _ F)) (fun r hr=>(t6 (b r hr)))))))))))))⟩
  ·refine wp_skip<|aC<|sq<|lb E H 0 rfl rfl rfl rfl rfl rfl rfl U28 rfl fun a E=>pr 1 E rfl fun a E=>lb E H 1 rfl rfl rfl rfl rfl rfl rfl U26 rfl fun a E=>have H:=H.frs [2,2,2,3] rfl;bd hm fun c7 b0 hm=>cF E rfl rfl rfl rfl rfl DE (G6 H (b _ B) (b _ C) (b _ D) (b _ F) (b _ G) (b _ V) b0)<|?_
   rintro _ w ⟨c8,c9,d0,d1,d2,d3,d7,d8,d9,e0,rfl,H⟩ a E
   refine bA (i:=3) E H (wn rfl) rfl rfl rfl rfl rfl rfl bV rfl (bD H m0 mm1 mm2 mm3 mm4 mm5) fun w H=>nt<|wp_ret<|dT E rfl (dD (i:=3) (us:=(bC c7.1 c8 c9 d0 d1 d2 d3)) H rfl rfl rfl U48 rfl bV)<|have H:=H.drs [1,1,1];?_
   cases hm
   exact X10 ⟨rfl,H.reads (aA m0 (aA mm1 (aA mm2 (aA mm3 (aA mm4 (aA mm5 (aA mm6 (aA (t1 mm6) (aA (t2 mm6) (aA (t3 mm6) (fun r hr=>(t2 (t8 (b r hr))))))))))))))⟩

def pG(b:aH×(List aF)×(List aJ)×(List aK)×(List aD))(c:(List ((Int)×aH))):Option (aH×(List aF)×(List aJ)×(List aK)×(List aD)×(List ((Int)×aH))):=
  some (b.1,b.2.1,b.2.2.1,b.2.2.2.1,b.2.2.2.2,c)
def lY(b:aH×(List aF)×(List aJ)×(List aK)×(List aD))(c:List ((Int)×aH))(x20:aU)(d:Bool):Option (aH×(List aF)×(List aJ)×(List aK)×(List aD)×(List ((Int)×aH))):=
  if d=true then ((mpt (kyI .i64) c x20.Id b.1).bind fun e=>pG b e) else (pG b c)
def pH(c:List ((Int)×aH))(x20:aU)(f:List aF)(g:List aJ)(d:List aK)(e:List aD)(k:List aG)(l:List aN)(i:Bool):Option (aH×(List aF)×(List aJ)×(List aK)×(List aD)×(List ((Int)×aH))):=
  if i=true then ((dZ 2).bind fun j=>some (j,f,g,d,e,c)) else ((q5 f g k l d e x20).bind fun b=>if (x20.Id != 0)=true then (if (b.1.Err != 131)=true then (lY b c x20 (b.1.Err != 132)) else (lY b c x20 false)) else (lY b c x20 false))
def tL(b:List ((Int)×aH))(x20:aU)(e:List aF)(f:List aJ)(c:List aK)(d:List aD)(g:List aG)(i:List aN)(j:Bool)(k:Int)(l:Int)(m:Bool)(n:Int)(o:(List cP))(p:(List aF))(q:(List aJ))(s:(List bL))(t:(List oC))(u:(List Int)):Option (aH×(List aF)×(List aJ)×(List aK)×(List aD)×(List ((Int)×aH))):=
  if j=true then (some ((⟨k,l,m,n,o,(⟨p,q⟩:aR),s,t,u⟩:aH),e,f,c,d,b)) else (if (x20.Id != 0)=true then (pH b x20 e f c d g i ((b.length:Int) == 512)) else (pH b x20 e f c d g i false))
def wN(f:List aF)(g:List aJ)(i:List aG)(j:List aN)(d:List aK)(e:List aD)(c:List ((Int)×aH))(x20:aU):Option (aH×(List aF)×(List aJ)×(List aK)×(List aD)×(List ((Int)×aH))):=
  (y4 (kyI .i64) c x20.Id qG).bind fun b=>tL c x20 f g d e i j b.2 b.1.Err b.1.At b.1.Yes b.1.Epoch b.1.Results b.1.Store.Nodes b.1.Store.Turns b.1.Events b.1.Mounts b.1.Wounded
theorem U1{p g:Nat}{d4 d5 M N J L q F G I s t:Value}{f8:List aF}{f9:List aJ}{g0:List aG}{g1:List aN}{c1:List aK}{c2:List aD}{u:List ((Int)×aH)}{x20:aU}(H:Sep w (Blk p 75 [d4,d5,M,N,J,L,.map (some g),s,t]::cG Tryz.prog 2 (kyI .i64) bJ true g u::Fo) rs)(b5:rSl aE d4 f8 ∈ rs)(b6:rSl aI d5 f9 ∈ rs)(g9:rSl aT M g0 ∈ rs)(i0:rSl bH N g1 ∈ rs)(b7:rSl bB J c1 ∈ rs)(b8:rSl aO L c2 ∈ rs)(i1:rSl cA q x20.Pieces ∈ rs)(i2:u7 Tryz.prog ∈ rs){r:aH×(List aF)×(List aJ)×(List aK)×(List aD)×(List ((Int)×aH))}(hm:wN f8 f9 g0 g1 c1 c2 u x20=some r) :
    Calls Tryz.prog 37 [pt p 0,.agg (aS x20 q F G I).toArray,.func (.func 25) #[] #[]].toArray w (Ret fun v w'=>∃ i7 i8 i9 j0 j1 j2 j3 g6 g7 g8,.agg (bC r.1 i7 i8 i9 j0 j1 j2).toArray=v∧Sep w' (Blk p 75 [j3,g6,M,N,g7,g8,.map (some g),s,t]::cG Tryz.prog 2 (kyI .i64) bJ true g r.2.2.2.2.2::Fo) (rSl bF i7 r.1.Results::rSl aE i8 r.1.Store.Nodes::rSl aI i9 r.1.Store.Turns::rSl aX j0 r.1.Events::rSl bM j1 r.1.Mounts::rSl (kI .i64) j2 r.1.Wounded::rSl aE j3 r.2.1::rSl aI g6 r.2.2.1::rSl bB g7 r.2.2.2.1::rSl aO g8 r.2.2.2.2.1::rs)):=by
 unfold wN at hm
 refine ent Tryz.func37 rfl Tryz.ntmps37 rfl rfl fun a E=>sq<|bS E H (wn rfl) rfl rfl rfl rfl rfl fun m w a H E=>al E H rfl rfl rfl rfl gO fun x w a H E=>nt<|wp_seq<|aV (fun a w=>∃ d6 U V X Y Z b0 d7 b1 b2 b3 b4 d8 d9 e0 e1 e2 e3 j,Env 59 a [(0,pt p 0),(2,.func (.func 25) #[] #[]),(4,pt m 0),(6,pt x 0),(7,pt d6 0),(8,.bool d7)]∧Sep w (Blk p 75 [d4,d5,M,N,J,L,.map (some g),s,t]::Blk m 37 (aS x20 q F G I)::Blk x 48 bN::Blk d6 48 [.int .i64 b1,.int .i64 b2,.bool b3,.int .i64 b4,U,V,X,Y,Z,b0]::cG Tryz.prog 2 (kyI .i64) bJ true g u::Fo) j∧(∀ r,r ∈ rs→r ∈ j)∧rSl bF U d8 ∈ j∧rSl aE V d9 ∈ j∧rSl aI X e0 ∈ j∧rSl aX Y e1 ∈ j∧rSl bM Z e2 ∈ j∧rSl (kI .i64) b0 e3 ∈ j∧tL u x20 f8 f9 c1 c2 g0 g1 d7 b1 b2 b3 b4 d8 d9 e0 e1 e2 e3=some r) ?_ ?_
 ·refine bd hm fun k1 c3 hm=>?_
  have hI:eD [Blk m 37 (aS x20 q F G I),Blk p 75 [d4,d5,M,N,J,L,.map (some g),s,t]] [] { w with drawn:=w.drawn+1 }:=⟨_,_,H.kept (Kp.drawn _ w _),(aB mm1 (aB mm2 (aL))),(aM)⟩
  refine mA _ (.go 0 0 (.go 1 0 (.go 2 0 (.go 3 0 (.go 4 0 (.go 5 0 (.alt 6 (.go 7 0 (.go 8 0 (.go 9 0 (.go 10 1 (.go 11 1 (.go 12 2 .nil)))))) 10 (.go 6 1 (.go 7 0 (.go 8 0 (.go 9 0 (.go 11 1 (.go 12 2 .nil))))))))))))) [12] mH (by kernel_rfl) (fun _ _ _ h=>False.elim h.2) hI<|have H:=H.kept (Kp.drawn _ w (w.drawn+1));?_
  generalize ({ w with drawn:=w.drawn+1 }:World)=w at H hI ⊢
  replace hI:∃ W,eD [Blk m 37 (aS x20 q F G I),Blk p 75 [d4,d5,M,N,J,L,.map (some g),s,t]] [] W:=⟨_,hI⟩
  obtain ⟨W0,hI⟩:=hI
  refine aZ E rfl (wn rfl) rfl rfl (fun w hW=>(bE E rfl rfl)) fun a E=>aZ E rfl (wn rfl) rfl rfl (fun w hW=>(vX E rfl rfl)) fun a E=>aZ E rfl (wn rfl) rfl rfl (fun w hW=>lA E rfl rfl (v:=pt p 6) (Z6 _ _)) fun a E=>aZ E rfl (wn rfl) rfl rfl (fun w hW=>fC E rfl rfl (mB mm1 rfl U68 rfl w hW)) fun a E=>aZ E rfl (wn rfl) rfl rfl (fun w hW=>lA E rfl rfl (v:=pt m 1) (Z5 _ _)) fun a E=>aZ E rfl (wn rfl) rfl rfl (fun w hW=>fC E rfl rfl (mB m0 rfl U2 rfl w hW)) fun a E=>?_
  refine mU rfl rfl ?_ ?_
  ·refine oE (i:=3) (K:=(kyI .i64)) E H (wn rfl) rfl rfl rfl rfl rfl rfl (eS U2) U68 y8 J5 c3 fun k2 a H E=>?_
   obtain ⟨k3,k4,k5,k6,k7,k8,rfl,h⟩:=lD H;clear H;have H:=h
   refine nt<|?_
   refine ⟨⟨_,_,H,(aB mm1 (aB mm2 (aL))),(aM)⟩,?_⟩
   refine aZ E rfl (wn rfl) rfl rfl (fun w hW=>(bE E rfl rfl)) fun a E=>aZ E rfl (wn rfl) rfl rfl (fun w hW=>(dF E rfl rfl rfl)) fun a E=>aZ E rfl (wn rfl) rfl rfl (fun w hW=>(dF E rfl rfl rfl)) fun a E=>cN rfl<|al E H rfl rfl rfl rfl gO fun k9 w a H E=>nt<|?_
   refine ⟨⟨_,_,H,(aB mm2 (aB mm3 (aL))),(aM)⟩,?_⟩
   refine cN rfl<|bA (i:=0) E H (wn rfl) rfl rfl rfl rfl rfl rfl bV rfl (bD H mm5 mm4 mm3 mm2 mm1 m0) fun w H=>nt<|?_
   refine ⟨⟨_,_,H,(aB mm2 (aB mm3 (aL))),(aM)⟩,?_⟩
   refine cX rfl<|pr 1 E rfl fun a E=>nt<|eL<|?_
   clear hI
   exact aC<|have H:=H.frs [4,1,2,3,4] rfl;X19 ⟨E.to rfl,H,(Y7 Y0),mm5,mm4,mm3,mm2,mm1,m0,hm⟩
  ·refine al E H rfl rfl rfl rfl gO fun l0 w a H E=>nt<|?_
   refine ⟨⟨_,_,H,(aB mm2 (aB mm3 (aL))),(aM)⟩,?_⟩
   refine cN rfl<|oE (i:=4) (K:=(kyI .i64)) E H (wn rfl) rfl rfl rfl rfl rfl rfl (eS U2) U68 y8 J5 c3 fun l1 a H E=>?_
   obtain ⟨l2,l3,l4,l5,l6,l7,rfl,h⟩:=lD H;clear H;have H:=h
   refine nt<|?_
   refine ⟨⟨_,_,H,(aB mm2 (aB mm3 (aL))),(aM)⟩,?_⟩
   refine aZ E rfl (wn rfl) rfl rfl (fun w hW=>(bE E rfl rfl)) fun a E=>aZ E rfl (wn rfl) rfl rfl (fun w hW=>(dF E rfl rfl rfl)) fun a E=>aZ E rfl (wn rfl) rfl rfl (fun w hW=>(dF E rfl rfl rfl)) fun a E=>cN rfl<|bA (i:=0) E H (wn rfl) rfl rfl rfl rfl rfl rfl bV rfl (bD H mm5 mm4 mm3 mm2 mm1 m0) fun w H=>nt<|?_
   refine ⟨⟨_,_,H,(aB mm2 (aB mm3 (aL))),(aM)⟩,?_⟩
   refine cX rfl<|pr 1 E rfl fun a E=>nt<|eL<|?_
   clear hI
   exact aC<|have H:=H.frs [4,1,2,3,4] rfl;X19 ⟨E.to rfl,H,(Y7 Y0),mm5,mm4,mm3,mm2,mm1,m0,hm⟩
 ·clear E H hm
  rintro a w ⟨d6,U,V,X,Y,Z,b0,d7,b1,b2,b3,b4,d8,d9,e0,e1,e2,e3,j,E,H,l,e4,e5,e6,e7,e8,e9,hm⟩
  unfold tL at hm
  refine sq<|pr 1 E rfl fun a E=>nt<|wif E hm rfl (fun hm=>?_) fun hm=>?_
  ·refine sq<|sv E rfl rfl rfl (cC (i:=3) (us:=[.int .i64 b1,.int .i64 b2,.bool b3,.int .i64 b4,U,V,X,Y,Z,b0]) E H rfl rfl rfl rfl U48 rfl bV) fun a E=>bA (i:=2) E H (wn rfl) rfl rfl rfl rfl rfl rfl bV rfl (bD H e4 e5 e6 e7 e8 e9) fun w H=>nt<|wp_ret<|aP<|dT E rfl (dD (i:=2) (us:=[.int .i64 b1,.int .i64 b2,.bool b3,.int .i64 b4,U,V,X,Y,Z,b0]) H rfl rfl rfl U48 rfl bV)<|have H:=H.drs [1,1,1];?_
   cases hm
   exact X10 ⟨rfl,H.reads (aA e4 (aA e5 (aA e6 (aA e7 (aA e8 (aA e9 (aA (l _ b5) (aA (l _ b6) (aA (l _ b7) (aA (l _ b8) (l)))))))))))⟩
  ·refine wp_skip<|aC<|wp_seq<|aV (fun a w=>∃ f0 b9,Env 59 a [(0,pt p 0),(2,.func (.func 25) #[] #[]),(4,pt m 0),(6,pt x 0),(32,.bool f0)]∧Sep w (Blk p 75 [d4,d5,M,N,J,L,.map (some g),s,t]::Blk m 37 (aS x20 q F G I)::Blk x 48 bN::cG Tryz.prog 2 (kyI .i64) bJ true g u::Fo) b9∧(∀ r,r ∈ rs→r ∈ b9)∧pH u x20 f8 f9 c1 c2 g0 g1 f0=some r) ?_ ?_
   ·refine wp_region_lit<|pr 1 E rfl fun a E=>lb E H 1 rfl rfl rfl rfl rfl rfl rfl U2 rfl fun a E=>pr 2 E rfl fun a E=>cs hm (fun k hm=>?_) fun k hm=>?_
    ·exact pk 3 E (kc 25 rfl k) rfl fun a E=>aQ E (ws' (d:=25) E rfl rfl rfl rfl k) rfl rfl (cD (i:=0) E H rfl rfl rfl rfl U68 rfl) fun a E=>aQ E (ws' (d:=25) E rfl rfl rfl rfl k) rfl rfl (E4 (i:=4) E H rfl rfl rfl U68) fun a E=>pk 2 E (kc 25 rfl k) rfl fun a E=>nt<|have H:=H.drop 3;⟨_,_,E.to rfl,H,l,hm⟩
    ·exact pk 7 E (kc 25 rfl k) rfl fun a E=>nt<|have H:=H.drop 3;⟨_,_,E.to rfl,H,l,hm⟩
   ·clear E H hm
    rintro a w ⟨f0,b9,E,H,e,hm⟩
    unfold pH at hm
    refine wif E hm rfl (fun hm=>?_) fun hm=>?_
    ·refine sq<|bd hm fun j4 i3 hm=>cF E rfl rfl rfl rfl rfl xN (eI H i3)<|?_
     rintro _ w ⟨j5,j6,j7,j8,j9,k0,rfl,H⟩ a E
     refine bA (i:=2) E H (wn rfl) rfl rfl rfl rfl rfl rfl bV rfl (bD H m0 mm1 mm2 mm3 mm4 mm5) fun w H=>nt<|wp_ret<|aP<|dT E rfl (dD (i:=2) (us:=(bC j4 j5 j6 j7 j8 j9 k0)) H rfl rfl rfl U48 rfl bV)<|have H:=H.drs [1,1];?_
     cases hm
     exact X10 ⟨rfl,H.reads (aA m0 (aA mm1 (aA mm2 (aA mm3 (aA mm4 (aA mm5 (aA (t6 (e _ b5)) (aA (t6 (e _ b6)) (aA (t6 (e _ b7)) (aA (t6 (e _ b8)) (fun r hr=>(t6 (e r hr)))))))))))))⟩
    ·refine wp_skip<|aC<|sq<|pr 2 E rfl fun a E=>sv E rfl rfl rfl (cC (i:=1) (us:=(aS x20 q F G I)) E H rfl rfl rfl rfl U37 rfl F3) fun a E=>bd hm fun b i4 hm=>aW E (wn rfl) rfl rfl (bR E rfl rfl rfl (LF _)) (Cf H (e _ b5) (e _ b6) (e _ g9) (e _ i0) (e _ b7) (e _ b8) (e _ i1) (e _ i2) i4)<|?_
     rintro _ w ⟨y,z,A,B,C,D,c4,c5,c6,c7,rfl,H⟩ a E
     refine al E H rfl rfl rfl rfl gO fun c8 w a H E=>bA (i:=0) E H (wn rfl) rfl rfl rfl rfl rfl rfl bV rfl (bD H m0 mm1 mm2 mm3 mm4 mm5) fun w H=>nt<|aV (fun a w=>∃ f1 f,Env 59 a [(6,pt x 0),(9,pt c8 0)]∧Sep w (Blk x 48 bN::Blk c8 48 (bC b.1 y z A B C D)::Blk p 75 [c4,c5,M,N,c6,c7,.map (some g),s,t]::cG Tryz.prog 2 (kyI .i64) bJ true g f1::Fo) f∧(∀ r,r ∈ rs→r ∈ f)∧rSl bF y b.1.Results ∈ f∧rSl aE z b.1.Store.Nodes ∈ f∧rSl aI A b.1.Store.Turns ∈ f∧rSl aX B b.1.Events ∈ f∧rSl bM C b.1.Mounts ∈ f∧rSl (kI .i64) D b.1.Wounded ∈ f∧rSl aE c4 b.2.1 ∈ f∧rSl aI c5 b.2.2.1 ∈ f∧rSl bB c6 b.2.2.2.1 ∈ f∧rSl aO c7 b.2.2.2.2 ∈ f∧pG b f1=some r) ?_ ?_
     ·refine aV (fun a w=>∃ c0 c,Env 59 a [(0,pt p 0),(4,pt m 0),(6,pt x 0),(9,pt c8 0),(50,.bool c0)]∧Sep w (Blk p 75 [c4,c5,M,N,c6,c7,.map (some g),s,t]::Blk m 37 (aS x20 q F G I)::Blk x 48 bN::Blk c8 48 (bC b.1 y z A B C D)::cG Tryz.prog 2 (kyI .i64) bJ true g u::Fo) c∧(∀ r,r ∈ rs→r ∈ c)∧rSl aE c4 b.2.1 ∈ c∧rSl aI c5 b.2.2.1 ∈ c∧rSl bB c6 b.2.2.2.1 ∈ c∧rSl aO c7 b.2.2.2.2 ∈ c∧rSl bF y b.1.Results ∈ c∧rSl aE z b.1.Store.Nodes ∈ c∧rSl aI A b.1.Store.Turns ∈ c∧rSl aX B b.1.Events ∈ c∧rSl bM C b.1.Mounts ∈ c∧rSl (kI .i64) D b.1.Wounded ∈ c∧lY b u x20 c0=some r) ?_ ?_
      ·refine wp_region_lit<|pr 1 E rfl fun a E=>lb E H 2 rfl rfl rfl rfl rfl rfl rfl U2 rfl fun a E=>pr 2 E rfl fun a E=>cs hm (fun n hm=>?_) fun n hm=>?_
       ·refine pk 1 E (kc 41 rfl n) rfl fun a E=>aQ E (ws' (d:=41) E rfl rfl rfl rfl n) rfl rfl (cD (i:=0) E H rfl rfl rfl rfl U41 rfl) fun a E=>pk 3 E (kc 41 rfl n) rfl fun a E=>cs hm (fun o hm=>?_) fun o hm=>?_
        ·exact pk 1 E (kc 46 rfl o) rfl fun a E=>aQ E (ws' (d:=46) E rfl rfl rfl rfl o) rfl rfl (cD (i:=0) E H rfl rfl rfl rfl U41 rfl) fun a E=>pk 2 E (kc 46 rfl o) rfl fun a E=>nt<|have H:=H.frs [4,1,4,4,4] rfl;⟨_,_,E.to rfl,H,(Y2 (Y8 e)),mm6,(t1 mm6),(t2 mm6),(t3 mm6),m0,mm1,mm2,mm3,mm4,mm5,hm⟩
        ·exact pk 4 E (kc 46 rfl o) rfl fun a E=>nt<|have H:=H.frs [4,1,4,4,4] rfl;⟨_,_,E.to rfl,H,(Y2 (Y8 e)),mm6,(t1 mm6),(t2 mm6),(t3 mm6),m0,mm1,mm2,mm3,mm4,mm5,hm⟩
       ·exact pk 9 E (kc 41 rfl n) rfl fun a E=>nt<|have H:=H.frs [4,1,4,4,4] rfl;⟨_,_,E.to rfl,H,(Y2 (Y8 e)),mm6,(t1 mm6),(t2 mm6),(t3 mm6),m0,mm1,mm2,mm3,mm4,mm5,hm⟩
      ·clear E H hm
       rintro a w ⟨c0,c,E,H,c9,d0,d1,d2,d3,O,P,Q,R,S,T,hm⟩
       unfold lY at hm
       refine wif E hm rfl (fun hm=>?_) fun hm=>?_
       ·refine dw [(0,0),(1,0),(2,0),(3,0),(4,0),(5,0),(6,0),(7,2)] [0,1,3] [] H (by kernel_rfl) (fun _ _ _ h=>False.elim h.2) fun w W0 hI H=>fn 3 E rfl fun a E=>fb E rfl (wn rfl) rfl rfl rfl rfl m0 rfl U68 rfl fun a E=>fn 1 E rfl fun a E=>fb E rfl (wn rfl) rfl rfl rfl rfl mm1 rfl U2 rfl fun a E=>fbn E (bC b.1 y z A B C D) rfl (wn rfl) rfl rfl rfl rfl mm2 rfl U48 rfl bV fun a E=>bO rfl<|bd hm fun l8 g2 hm=>B6 (i:=4) (K:=(kyI .i64)) (v:=b.1) (cs:=[.int .i64 b.1.Err,.int .i64 b.1.At,.bool b.1.Yes,.int .i64 b.1.Epoch,y,z,A,B,C,D]) E H (wn rfl) rfl rfl rfl rfl rfl rfl (eS U2) U68 g2 (fun ok hr=>(oF (hr _ O) (hr _ P) (hr _ Q) (hr _ R) (hr _ S) (hr _ T))) fun w H=>?_
        refine nt<|bP<|?_
        clear hI
        exact aC<|have H:=H.drop 1;have H:=H.frs [3,1,3,3] rfl;⟨_,_,E.to rfl,H,c9,O,P,Q,R,S,T,d0,d1,d2,d3,hm⟩
       ·exact wp_skip<|aC<|have H:=H.drop 1;have H:=H.frs [3,1,3,3] rfl;⟨_,_,E.to rfl,H,c9,O,P,Q,R,S,T,d0,d1,d2,d3,hm⟩
     ·clear E H hm
      rintro a w ⟨f1,f,E,H,i5,f2,f3,f4,f5,f6,f7,i6,g3,g4,g5,hm⟩
      unfold pG at hm
      refine sq<|sv E rfl rfl rfl (cC (i:=1) (us:=(bC b.1 y z A B C D)) E H rfl rfl rfl rfl U48 rfl bV) fun a E=>bA (i:=0) E H (wn rfl) rfl rfl rfl rfl rfl rfl bV rfl (bD H f2 f3 f4 f5 f6 f7) fun w H=>nt<|wp_ret<|dT E rfl (dD (i:=0) (us:=(bC b.1 y z A B C D)) H rfl rfl rfl U48 rfl bV)<|have H:=H.drs [0,0];?_
      cases hm
      exact X10 ⟨rfl,H.reads (aA f2 (aA f3 (aA f4 (aA f5 (aA f6 (aA f7 (aA i6 (aA g3 (aA g4 (aA g5 (i5)))))))))))⟩

def nW(x1:Int):Option Bool:=
  if (decide (x1 ≥ 0))=true then (some (decide (x1 ≤ 281474976710656))) else (some (false))
theorem zZ{x1:Int}(H:Sep w (Fo) rs){r:Bool}(hm:nW x1=some r) :
    Calls Tryz.prog 130 [.int .i64 x1].toArray w (Ret fun v w'=>.bool r=v∧Sep w' (Fo) (rs)):=by
 unfold nW at hm
 refine ent Tryz.func130 rfl Tryz.ntmps130 rfl rfl fun a E=>sq<|pr 1 E rfl fun a E=>nx<|pr 3 E rfl fun a E=>cs hm (fun b hm=>?_) fun b hm=>?_
 ·refine pk 4 E (kc 5 rfl b) rfl fun a E=>nt<|wp_ret<|aY E rfl rfl<|?_
  cases hm
  exact ⟨rfl,H.reads Y0⟩
 ·refine pk 4 E (kc 5 rfl b) rfl fun a E=>nt<|wp_ret<|aY E rfl rfl<|?_
  cases hm
  exact ⟨rfl,H.reads Y0⟩

def iH(rec_1:Int→(List ((Int)×Int))→Option Bool)(e:(List ((Int)×Int)))(b:aN)(f:Int)(c:Bool):Option Bool:=
  if c=true then (some (false)) else ((mpt (kyI .i64) e b.Txn b.Age).bind fun d=>rec_1 (IntKind.i64.wrap (f+1)) d)
def fR(d:List aN):Nat→Int→(List ((Int)×Int))→Option Bool
  | 0,_,_=>none
  | f+1,c,e=>
    if (decide (c < (d.length:Int)))=true then ((idx d c).bind fun b=>(mlk (kyI .i64) e b.Txn).bind fun g=>(eG b.Dir).bind fun i=>if (!i)=true then (iH (fR d f) e b c true) else ((nW b.Txn).bind fun j=>if (!j)=true then (iH (fR d f) e b c true) else ((nW b.Age).bind fun k=>if (!k)=true then (iH (fR d f) e b c true) else (if g.isSome=true then (if ((g.getD 0) != b.Age)=true then (iH (fR d f) e b c true) else (if (decide (c > 0))=true then ((idx d (IntKind.i64.wrap (c - 1))).bind fun l=>iH (fR d f) e b c (!(sLt l.Dir b.Dir))) else (iH (fR d f) e b c false))) else (if (decide (c > 0))=true then ((idx d (IntKind.i64.wrap (c - 1))).bind fun m=>iH (fR d f) e b c (!(sLt m.Dir b.Dir))) else (iH (fR d f) e b c false)))))) else (some (true))
def s4(b:List aN):Option Bool:=
  fR b (((b.length:Int) - 0:Int).toNat+1) 0 []
theorem Iy{s:Value}{o:List aN}(H:Sep w (Fo) rs)(t:rSl bH s o ∈ rs){r:Bool}(hm:s4 o=some r) :
    Calls Tryz.prog 129 [s].toArray w (Ret fun v w'=>.bool r=v∧Sep w' (Fo) (rs)):=by
 unfold s4 at hm
 refine ent Tryz.func129 rfl Tryz.ntmps129 rfl rfl fun a E=>sq<|pr 1 E rfl fun a E=>nx<|xF (k:=2) (K:=(kyI .i64)) (d:=(kI .i64)) (g:=false) E H (wn rfl) rfl rfl rfl fun C w a H E=>pr 1 E rfl fun a E=>nt<|wp_seq<|sq<|?_
 refine pr 1 E rfl fun a E=>sv E rfl rfl rfl (cV E H rfl rfl t U62) fun a E=>pr 1 E rfl fun a E=>nt<|wp_block<|bX (fun p a w=>∃ x y z,Env 69 a [(0,s),(3,.map (some C)),(9,s),(10,.int .i64 (o.length:Int)),(11,.int .i64 x)]∧Sep w (cG Tryz.prog 2 (kyI .i64) (kI .i64) false C y::Fo) z∧(∀ r,r ∈ rs→r ∈ z)∧fR o p x y=some r) (((o.length:Int) - 0:Int).toNat+1) ?_ ?_
 ·exact X3 ⟨E.to rfl,H,Y0,hm⟩
 ·clear E H hm
  rintro p a w ⟨x,y,z,E,H,e,hm⟩
  cases p with
  | zero=>exact (bU hm rfl).elim
  | succ p=>
   unfold fR at hm
   refine sq<|pr 1 E rfl fun a E=>nt<|wp_seq<|wif E hm rfl (fun hm=>?_) fun hm=>?_
   ·refine wp_skip<|aC<|wp_seq<|wp_block<|sq<|pr 1 E rfl fun a E=>bd hm fun F G hm=>dR E H (wn rfl) rfl rfl rfl rfl rfl (e _ t) U62 iW G fun q11 a H E=>ldf eX E H rfl rfl rfl rfl rfl m0 F5 rfl iW fun a E=>?_
    refine al E H rfl rfl rfl rfl Qh fun D w a H E=>pr 1 E rfl fun a E=>bA (i:=0) E H (wn rfl) rfl rfl rfl rfl rfl rfl iW rfl rfl fun w H=>nx<|pr 2 E rfl fun a E=>lb E H 0 rfl rfl rfl rfl rfl rfl rfl U2 rfl fun a E=>bd hm fun X I hm=>sv E rfl rfl rfl (Ym (i:=1) (K:=(kyI .i64)) (z0:=0) (u:=X) E H rfl rfl rfl rfl (eS U2) DY LZ I) fun a E=>pr 5 E rfl fun a E=>?_
    refine nt<|wp_seq<|aV (fun a w=>∃ A q,Env 69 a [(0,s),(3,.map (some C)),(5,pt D 0),(9,s),(10,.int .i64 (o.length:Int)),(11,.int .i64 x),(62,.bool A)]∧Sep w (cG Tryz.prog 2 (kyI .i64) (kI .i64) false C y::Blk D 103 (pX F)::Fo) q∧(∀ r,r ∈ rs→r ∈ q)∧iH (fR o p) y F x A=some r) ?_ ?_
    ·obtain ⟨Y,H⟩:=H.raw (t1 (e _ t))
     refine dw [(0,0),(1,0),(2,1),(3,0),(4,0),(5,0),(6,0),(7,1),(8,0),(9,0),(10,0),(11,0),(12,0),(13,1),(14,0),(15,0),(16,0),(17,0),(18,0),(19,0),(20,0),(21,0),(22,0),(23,0),(24,0),(25,0),(26,0),(27,0),(28,0),(29,0),(30,0),(31,0),(32,0),(33,0),(34,0),(35,0),(36,0),(37,0),(38,0),(39,0)] [0] [0] H (by kernel_rfl) (fun _ _ _ h=>False.elim h.2) fun w W0 hI H=>fn 1 E rfl fun a E=>fb E rfl (wn rfl) rfl rfl rfl rfl m0 rfl U9 rfl fun a E=>bY rfl<|bd hm fun Z J hm=>xk E rfl rfl rfl rfl rfl y7 (hZ H J) fun w H a E=>nt<|?_
     refine ⟨⟨_,_,H,(aB m0 (aL)),(aA m0 (aM))⟩,?_⟩
     refine fn 2 E rfl fun a E=>cs hm (fun f hm=>?_) fun f hm=>?_
     ·refine fk 2 E (kc 27 rfl f) rfl fun a E=>bY rfl<|pk 1 E (kc 27 rfl f) rfl fun a E=>nt<|?_
      refine ⟨⟨_,_,H,(aB m0 (aL)),(aA m0 (aM))⟩,?_⟩
      refine fk 5 E (kc 27 rfl f) rfl fun a E=>bY rfl<|pr 1 E rfl fun a E=>nt<|?_
      refine ⟨⟨_,_,H,(aB m0 (aL)),(aA m0 (aM))⟩,?_⟩
      refine fn 26 E rfl fun a E=>bP<|?_
      clear hI
      exact aC<|have H:=H.frs [0,1] rfl;⟨_,_,E.to rfl,H,(Y2 e),hm⟩
     ·refine fk 1 E (kc 27 rfl f) rfl fun a E=>fb E rfl (ws' (d:=27) E rfl rfl rfl rfl f) rfl rfl rfl rfl m0 rfl U2 rfl fun a E=>bY rfl<|bd hm fun b0 L hm=>aW E (ws' (d:=27) E rfl rfl rfl rfl f) rfl rfl (cB E rfl rfl (Jo _)) (zZ H L)<|?_
      rintro _ w ⟨rfl,H⟩ a E
      refine nt<|?_
      refine ⟨⟨_,_,H,(aB m0 (aL)),(aA m0 (aM))⟩,?_⟩
      refine fk 3 E (kc 27 rfl f) rfl fun a E=>cs hm (fun j hm=>?_) fun j hm=>?_
      ·refine fk 2 E (kc 33 rfl j) rfl fun a E=>bY rfl<|pk 1 E (kc 33 rfl j) rfl fun a E=>nt<|?_
       refine ⟨⟨_,_,H,(aB m0 (aL)),(aA m0 (aM))⟩,?_⟩
       refine fk 26 E (kc 33 rfl j) rfl fun a E=>bP<|?_
       clear hI
       exact aC<|have H:=H.frs [0,1] rfl;⟨_,_,E.to rfl,H,(Y2 e),hm⟩
      ·refine fk 1 E (kc 33 rfl j) rfl fun a E=>fb E rfl (ws' (d:=33) E rfl rfl rfl rfl j) rfl rfl rfl rfl m0 rfl U2 rfl fun a E=>bY rfl<|bd hm fun b1 M hm=>aW E (ws' (d:=33) E rfl rfl rfl rfl j) rfl rfl (cB E rfl rfl (Jo _)) (zZ H M)<|?_
       rintro _ w ⟨rfl,H⟩ a E
       refine nt<|?_
       refine ⟨⟨_,_,H,(aB m0 (aL)),(aA m0 (aM))⟩,?_⟩
       refine fk 3 E (kc 33 rfl j) rfl fun a E=>cs hm (fun l hm=>?_) fun l hm=>?_
       ·refine fk 23 E (kc 39 rfl l) rfl fun a E=>bP<|?_
        clear hI
        exact aC<|have H:=H.frs [0,1] rfl;⟨_,_,E.to rfl,H,(Y2 e),hm⟩
       ·refine fk 2 E (kc 39 rfl l) rfl fun a E=>cs hm (fun m hm=>?_) fun m hm=>?_
        ·refine fk 2 E (kc 41 rfl m) rfl fun a E=>fb E rfl (ws' (d:=41) E rfl rfl rfl rfl m) rfl rfl rfl rfl m0 rfl U2 rfl fun a E=>fk 4 E (kc' (kc 41 rfl m) 39 rfl l) rfl fun a E=>cs hm (fun n hm=>?_) fun n hm=>?_
         ·refine fk 14 E (kc 48 rfl n) rfl fun a E=>bP<|?_
          clear hI
          exact aC<|have H:=H.frs [0,1] rfl;⟨_,_,E.to rfl,H,(Y2 e),hm⟩
         ·refine fk 3 E (kc 48 rfl n) rfl fun a E=>cs hm (fun b hm=>?_) fun b hm=>?_
          ·refine fk 3 E (kc 51 rfl b) rfl fun a E=>bd hm fun b2 N hm=>?_
           obtain ⟨q35,b3,O,Q⟩:=oD (P:=Tryz.prog) (k:=.i64) hI (mT (.head _)) U62 iW N
           refine bT E rfl (ws' (d:=51) E rfl rfl rfl rfl b) rfl rfl (fun w hW=>rR E rfl rfl rfl (O w)) fun a E=>?_
           have R:=yP Q (fun _ _ _ h=>P9 h)
           refine fk 1 E (kc 51 rfl b) rfl fun a E=>fa E rfl (ws' (d:=51) E rfl rfl rfl rfl b) rfl rfl rfl rfl R U9 rfl fun a E=>fk 1 E (kc 51 rfl b) rfl fun a E=>fb E rfl (ws' (d:=51) E rfl rfl rfl rfl b) rfl rfl rfl rfl m0 rfl U9 rfl fun a E=>fk 3 E (kc' (kc 51 rfl b) 48 rfl n) rfl fun a E=>bP<|?_
           clear hI
           exact aC<|have H:=H.frs [0,1] rfl;⟨_,_,E.to rfl,H,(Y2 e),hm⟩
          ·refine fk 11 E (kc' (kc 51 rfl b) 48 rfl n) rfl fun a E=>bP<|?_
           clear hI
           exact aC<|have H:=H.frs [0,1] rfl;⟨_,_,E.to rfl,H,(Y2 e),hm⟩
        ·refine fk 10 E (kc' (kc 41 rfl m) 39 rfl l) rfl fun a E=>cs hm (fun c hm=>?_) fun c hm=>?_
         ·refine fk 3 E (kc 51 rfl c) rfl fun a E=>bd hm fun b4 S hm=>?_
          obtain ⟨q43,b5,T,U⟩:=oD (P:=Tryz.prog) (k:=.i64) hI (mT (.head _)) U62 iW S
          refine bT E rfl (ws' (d:=51) E rfl rfl rfl rfl c) rfl rfl (fun w hW=>rR E rfl rfl rfl (T w)) fun a E=>?_
          have V:=yP U (fun _ _ _ h=>P9 h)
          refine fk 1 E (kc 51 rfl c) rfl fun a E=>fa E rfl (ws' (d:=51) E rfl rfl rfl rfl c) rfl rfl rfl rfl V U9 rfl fun a E=>fk 1 E (kc 51 rfl c) rfl fun a E=>fb E rfl (ws' (d:=51) E rfl rfl rfl rfl c) rfl rfl rfl rfl m0 rfl U9 rfl fun a E=>fk 3 E (kc 51 rfl c) rfl fun a E=>bP<|?_
          clear hI
          exact aC<|have H:=H.frs [0,1] rfl;⟨_,_,E.to rfl,H,(Y2 e),hm⟩
         ·refine fk 11 E (kc 51 rfl c) rfl fun a E=>bP<|?_
          clear hI
          exact aC<|have H:=H.frs [0,1] rfl;⟨_,_,E.to rfl,H,(Y2 e),hm⟩
    ·clear E H hm
     rintro a w ⟨A,q,E,H,B,hm⟩
     unfold iH at hm
     refine wif E hm rfl (fun hm=>?_) fun hm=>?_
     ·refine sq<|pr 1 E rfl fun a E=>nt<|wp_ret<|aP<|bW<|aP<|aP<|bW<|?_
      refine aP<|aY E rfl rfl<|have H:=H.drs [0,0];?_
      cases hm
      exact ⟨rfl,H.reads B⟩
     ·refine wp_skip<|aC<|wp_region_lit<|pr 2 E rfl fun a E=>lb E H 1 rfl rfl rfl rfl rfl rfl rfl U2 rfl fun a E=>pr 1 E rfl fun a E=>lb E H 1 rfl rfl rfl rfl rfl rfl rfl U2 rfl fun a E=>bd hm fun b6 W hm=>Nk (i:=0) (K:=(kyI .i64)) (v:=F.Age) E H (wn rfl) rfl rfl rfl rfl rfl rfl (eS U2) DY W fun w H=>?_
      exact wpList_nil<|bZ<|aC<|wp_region_lit<|pr 2 E rfl fun a E=>nt<|have H:=H.drop 1;⟨p,Nat.lt_succ_self p,X3 ⟨E.to rfl,H,B,hm⟩⟩
   ·refine wp_exit<|bG<|bG<|dN<|aC<|sq<|pr 1 E rfl fun a E=>nt<|wp_ret<|?_
    refine aY E rfl rfl<|have H:=H.drop 0;?_
    cases hm
    exact ⟨rfl,H.reads e⟩

def lT(b:List ((Int)×Int)):Option Unit:=
  some ()
theorem a6{c:Nat}{d:List ((Int)×Int)}(H:Sep w (cG Tryz.prog 2 (kyI .i64) (kI .i64) false c d::Fo) rs){r:Unit}(hm:lT d=some r) :
    Calls Tryz.prog 134 [.map (some c)].toArray w (Ret fun v w'=>∃ b,.func (.func 190) #[] #[pt b 0]=v∧Sep w' (Blk b 183 [.map (some c)]::cG Tryz.prog 2 (kyI .i64) (kI .i64) false c d::Fo) (rs)):=by
 unfold lT at hm
 refine ent Tryz.func134 rfl Tryz.ntmps134 rfl rfl fun a E=>sq<|bS E H (wn rfl) rfl rfl rfl rfl rfl fun e w a H E=>pr 1 E rfl fun a E=>nx<|sv E rfl rfl rfl (kJ E rfl rfl rfl) fun a E=>pr 1 E rfl fun a E=>nt<|wp_ret<|?_
 refine aY E rfl rfl<|?_
 cases hm
 exact ⟨_,rfl,H.reads Y0⟩

def sJ(x1:aN)(b:ByteArray):Option Int:=
  (jZ x1.Dir b).bind fun c=>some (c)
theorem R6{x1:aN}{b:ByteArray}(H:Sep w (Fo) rs){r:Int}(hm:sJ x1 b=some r) :
    Calls Tryz.prog 136 [.agg (pX x1).toArray,.string b].toArray w (Ret fun v w'=>.int .i64 r=v∧Sep w' (Fo) (rs)):=by
 unfold sJ at hm
 refine ent Tryz.func136 rfl Tryz.ntmps136 rfl rfl fun a E=>sq<|bS E H (wn rfl) rfl rfl rfl rfl rfl fun d w a H E=>pr 1 E rfl fun a E=>nx<|pr 1 E rfl fun a E=>lb E H 0 rfl rfl rfl rfl rfl rfl rfl U9 rfl fun a E=>pr 1 E rfl fun a E=>bd hm fun e c hm=>?_
 refine xk E rfl rfl rfl rfl rfl Ld (rK H c) fun w H a E=>pr 1 E rfl fun a E=>nt<|wp_ret<|aY E rfl rfl<|have H:=H.drop 0;?_
 cases hm
 exact ⟨rfl,H.reads Y0⟩

def cJ(c:List aN)(e:ByteArray):Nat→Int→Int→Option (Int×Bool)
  | 0,_,_=>none
  | f+1,b,d=>
    if (decide (b < d))=true then ((idx c (IntKind.i64.wrap (rD .u64 (IntKind.u64.wrap (IntKind.i64.wrap (b+d))) 1))).bind fun k=>(sJ k e).bind fun g=>if (decide (g < 0))=true then (cJ c e f (IntKind.i64.wrap ((IntKind.i64.wrap (rD .u64 (IntKind.u64.wrap (IntKind.i64.wrap (b+d))) 1))+1)) d) else (cJ c e f b (IntKind.i64.wrap (rD .u64 (IntKind.u64.wrap (IntKind.i64.wrap (b+d))) 1)))) else (if (decide (b < (c.length:Int)))=true then ((idx c b).bind fun i=>(sJ i e).bind fun j=>some (b,j == 0)) else (some (b,false)))
def eQ(b:List aN)(c:ByteArray):Option (Int×Bool):=
  cJ b c (((b.length:Int) - 0:Int).toNat+1) 0 (b.length:Int)
theorem rY{j:Value}{e:List aN}{p:ByteArray}(H:Sep w (Row 103 bH j e::Fo) rs){r:Int×Bool}(hm:eQ e p=some r) :
    Calls Tryz.prog 135 [j,.string p,.func (.func 136) #[] #[]].toArray w (Ret fun v w'=>.tuple #[.int .i64 r.1,.bool r.2]=v∧Sep w' (Row 103 bH j e::Fo) (rs)):=by
 unfold eQ at hm
 refine ent Tryz.func135 rfl Tryz.ntmps135 rfl rfl fun a E=>sq<|pr 2 E rfl fun a E=>nx<|pr 1 E rfl fun a E=>sv E rfl rfl rfl (kK (i:=0) E H rfl rfl rfl U62) fun a E=>pr 1 E rfl fun a E=>nx<|pr 3 E rfl fun a E=>?_
 refine nt<|wp_seq<|wp_block<|bX (fun c a w=>∃ q s k,Env 49 a [(0,j),(1,.string p),(2,.func (.func 136) #[] #[]),(8,.int .i64 (e.length:Int)),(9,.int .i64 q),(10,.int .i64 s)]∧Sep w (Row 103 bH j e::Fo) k∧(∀ r,r ∈ rs→r ∈ k)∧cJ e p c q s=some r) (((e.length:Int) - 0:Int).toNat+1) ?_ ?_
 ·exact X3 ⟨E.to rfl,H,Y0,hm⟩
 ·clear E H hm
  rintro c a w ⟨q,s,k,E,H,g,hm⟩
  cases c with
  | zero=>exact (bU hm rfl).elim
  | succ c=>
   unfold cJ at hm
   refine wp_seq<|sq<|pr 3 E rfl fun a E=>nt<|wif E hm rfl (fun hm=>?_) fun hm=>?_
   ·refine wp_skip<|aC<|wp_block<|sq<|pr 4 E rfl fun a E=>sv E rfl rfl rfl (S4 E rfl rfl rfl (by decide)) fun a E=>pr 2 E rfl fun a E=>nx<|pr 3 E rfl fun a E=>?_
    refine bd hm fun t l hm=>?_
    obtain ⟨y,z,m⟩:=H.rowformNE (i:=0) rfl l
    refine sv E rfl rfl rfl (dG (d:=bH) E m rfl rfl rfl rfl U62 iW l) fun a E=>sv E rfl rfl rfl (hP (i:=0) E H eX m rfl rfl rfl l (us:=[.string t.Dir,.int .i64 t.Txn,.int .i64 t.Age]) rfl F5 rfl iW) fun a E=>pr 1 E rfl fun a E=>bd hm fun A u hm=>aW E (wn rfl) rfl rfl (bR E rfl rfl rfl (Xr _)) (R6 H u)<|?_
    rintro _ w ⟨rfl,H⟩ a E
    refine pr 1 E rfl fun a E=>nt<|wif E hm rfl (fun hm=>?_) fun hm=>?_
    ·exact wp_region_lit<|pr 3 E rfl fun a E=>wpList_nil<|bZ<|aC<|⟨c,Nat.lt_succ_self c,X3 ⟨E.to rfl,H,g,hm⟩⟩
    ·exact wp_region_lit<|pr 2 E rfl fun a E=>wpList_nil<|bZ<|aC<|⟨c,Nat.lt_succ_self c,X3 ⟨E.to rfl,H,g,hm⟩⟩
   ·refine wp_exit<|bG<|bG<|dN<|aC<|sq<|pr 5 E rfl fun a E=>cs hm (fun b hm=>?_) fun b hm=>?_
    ·refine pk 3 E (kc 39 rfl b) rfl fun a E=>bd hm fun n f hm=>?_
     obtain ⟨B,C,o⟩:=H.rowformNE (i:=0) rfl f
     refine aQ E (ws' (d:=39) E rfl rfl rfl rfl b) rfl rfl (dG (d:=bH) E o rfl rfl rfl rfl U62 iW f) fun a E=>aQ E (ws' (d:=39) E rfl rfl rfl rfl b) rfl rfl (hP (i:=0) E H eX o rfl rfl rfl f (us:=[.string n.Dir,.int .i64 n.Txn,.int .i64 n.Age]) rfl F5 rfl iW) fun a E=>pk 1 E (kc 39 rfl b) rfl fun a E=>bd hm fun D x hm=>aW E (ws' (d:=39) E rfl rfl rfl rfl b) rfl rfl (bR E rfl rfl rfl (Xr _)) (R6 H x)<|?_
     rintro _ w ⟨rfl,H⟩ a E
     refine pk 4 E (kc 39 rfl b) rfl fun a E=>nt<|wp_ret<|hG E rfl rfl rfl<|?_
     cases hm
     exact ⟨rfl,H.reads g⟩
    ·refine pk 11 E (kc 39 rfl b) rfl fun a E=>nt<|wp_ret<|hG E rfl rfl rfl<|?_
     cases hm
     exact ⟨rfl,H.reads g⟩

def C7(x1:aN)(x3:Int)(b:Int):Option Bool:=
  if (x1.Txn == x3)=true then (some (x1.Age != b)) else (some (false))
theorem Gy{x1:aN}{c e:Nat}{x3 f:Int}(H:Sep w (Blk c 2 [.int .i64 x3]::Blk e 2 [.int .i64 f]::Fo) rs){r:Bool}(hm:C7 x1 x3 f=some r) :
    Calls Tryz.prog 128 [.agg (pX x1).toArray,pt c 0,pt e 0].toArray w (Ret fun v w'=>.bool r=v∧Sep w' (Blk c 2 [.int .i64 x3]::Blk e 2 [.int .i64 f]::Fo) (rs)):=by
 unfold C7 at hm
 refine ent Tryz.func128 rfl Tryz.ntmps128 rfl rfl fun a E=>sq<|bS E H (wn rfl) rfl rfl rfl rfl rfl fun g w a H E=>pr 1 E rfl fun a E=>nx<|pr 1 E rfl fun a E=>lb E H 0 rfl rfl rfl rfl rfl rfl rfl U2 rfl fun a E=>lb E H 1 rfl rfl rfl rfl rfl rfl rfl U2 rfl fun a E=>pr 2 E rfl fun a E=>cs hm (fun b hm=>?_) fun b hm=>?_
 ·refine pk 1 E (kc 9 rfl b) rfl fun a E=>aQ E (ws' (d:=9) E rfl rfl rfl rfl b) rfl rfl (cD (i:=0) E H rfl rfl rfl rfl U2 rfl) fun a E=>aQ E (ws' (d:=9) E rfl rfl rfl rfl b) rfl rfl (cD (i:=2) E H rfl rfl rfl rfl U2 rfl) fun a E=>pk 3 E (kc 9 rfl b) rfl fun a E=>nt<|wp_ret<|aY E rfl rfl<|have H:=H.drop 0;?_
  cases hm
  exact ⟨rfl,H.reads Y0⟩
 ·refine pk 6 E (kc 9 rfl b) rfl fun a E=>nt<|wp_ret<|aY E rfl rfl<|have H:=H.drop 0;?_
  cases hm
  exact ⟨rfl,H.reads Y0⟩

def fX(c:List aN)(d:Int)(e:Int):Nat→Int→Option Int
  | 0,_=>none
  | i+1,b=>
    if (decide (b < (c.length:Int)))=true then ((idx c b).bind fun f=>(C7 f d e).bind fun g=>if g=true then (some (b)) else (fX c d e i (IntKind.i64.wrap (b+1)))) else (some ((-1)))
def kH(b:List aN)(c:Int)(d:Int):Option Int:=
  fX b c d (((b.length:Int) - 0:Int).toNat+1) 0
theorem yD{l:Value}{d:List aN}{e f:Nat}{g i:Int}(H:Sep w (Blk e 2 [.int .i64 g]::Blk f 2 [.int .i64 i]::Fo) rs)(k:rSl bH l d ∈ rs){r:Int}(hm:kH d g i=some r) :
    Calls Tryz.prog 120 [l,.func (.func 128) #[] #[pt e 0,pt f 0]].toArray w (Ret fun v w'=>.int .i64 r=v∧Sep w' (Blk e 2 [.int .i64 g]::Blk f 2 [.int .i64 i]::Fo) (rs)):=by
 unfold kH at hm
 refine ent Tryz.func120 rfl Tryz.ntmps120 rfl rfl fun a E=>sq<|pr 1 E rfl fun a E=>nt<|wp_seq<|sq<|pr 1 E rfl fun a E=>sv E rfl rfl rfl (cV E H rfl rfl k U62) fun a E=>pr 1 E rfl fun a E=>?_
 refine nt<|wp_block<|bX (fun c a w=>∃ m j,Env 19 a [(0,l),(1,.func (.func 128) #[] #[pt e 0,pt f 0]),(7,.int .i64 (d.length:Int)),(8,.int .i64 m)]∧Sep w (Blk e 2 [.int .i64 g]::Blk f 2 [.int .i64 i]::Fo) j∧(∀ r,r ∈ rs→r ∈ j)∧fX d g i c m=some r) (((d.length:Int) - 0:Int).toNat+1) ?_ ?_
 ·exact ⟨_,_,E.to rfl,H,Y0,hm⟩
 ·clear E H hm
  rintro c a w ⟨m,j,E,H,b,hm⟩
  cases c with
  | zero=>exact (bU hm rfl).elim
  | succ c=>
   unfold fX at hm
   refine sq<|pr 1 E rfl fun a E=>nt<|wp_seq<|wif E hm rfl (fun hm=>?_) fun hm=>?_
   ·refine wp_skip<|aC<|wp_seq<|wp_block<|sq<|pr 2 E rfl fun a E=>nx<|pr 3 E rfl fun a E=>bd hm fun p n hm=>?_
    refine dR E H (wn rfl) rfl rfl rfl rfl rfl (b _ k) U62 iW n fun q13 a H E=>ldf eX E H rfl rfl rfl rfl rfl m0 F5 rfl iW fun a E=>bd hm fun q o hm=>aW E (wn rfl) rfl rfl (bR E rfl rfl rfl (JN _)) (Gy H o)<|?_
    rintro _ w ⟨rfl,H⟩ a E
    refine nt<|wif E hm rfl (fun hm=>?_) fun hm=>?_
    ·refine sq<|pr 2 E rfl fun a E=>nt<|wp_ret<|bW<|aP<|aP<|bW<|aP<|?_
     refine aY E rfl rfl<|?_
     cases hm
     exact ⟨rfl,H.reads (Y1 b)⟩
    ·exact wp_skip<|bZ<|aC<|wp_region_lit<|pr 2 E rfl fun a E=>nt<|⟨c,Nat.lt_succ_self c,_,_,E.to rfl,H,(Y1 b),hm⟩
   ·refine wp_exit<|bG<|bG<|dN<|aC<|sq<|pr 1 E rfl fun a E=>nt<|wp_ret<|?_
    refine aY E rfl rfl<|?_
    cases hm
    exact ⟨rfl,H.reads b⟩

def fY(b:List aN)(c:Int)(d:Int):Option Bool:=
  (kH b c d).bind fun e=>some (decide (e ≥ 0))
theorem vV{f:Value}{g:List aN}{b c:Nat}{d e:Int}(H:Sep w (Blk b 2 [.int .i64 d]::Blk c 2 [.int .i64 e]::Fo) rs)(i:rSl bH f g ∈ rs){r:Bool}(hm:fY g d e=some r) :
    Calls Tryz.prog 127 [f,.func (.func 128) #[] #[pt b 0,pt c 0]].toArray w (Ret fun v w'=>.bool r=v∧Sep w' (Blk b 2 [.int .i64 d]::Blk c 2 [.int .i64 e]::Fo) (rs)):=by
 unfold fY at hm
 refine ent Tryz.func127 rfl Tryz.ntmps127 rfl rfl fun a E=>sq<|pr 1 E rfl fun a E=>nx<|pr 2 E rfl fun a E=>bd hm fun k j hm=>xk E rfl rfl rfl rfl rfl Fh (yD H i j) fun w H a E=>pr 2 E rfl fun a E=>nt<|?_
 refine wp_ret<|aY E rfl rfl<|?_
 cases hm
 exact ⟨rfl,H.reads Y0⟩

def a7(b:ByteArray):Option Bool:=
  (eG b).bind fun c=>some (!c)
theorem Gz{b:ByteArray}(H:Sep w (Fo) rs){r:Bool}(hm:a7 b=some r) :
    Calls Tryz.prog 126 [.string b].toArray w (Ret fun v w'=>.bool r=v∧Sep w' (Fo) (rs)):=by
 unfold a7 at hm
 refine ent Tryz.func126 rfl Tryz.ntmps126 rfl rfl fun a E=>sq<|pr 1 E rfl fun a E=>nx<|pr 1 E rfl fun a E=>bd hm fun d c hm=>xk E rfl rfl rfl rfl rfl y7 (hZ H c) fun w H a E=>pr 2 E rfl fun a E=>nt<|?_
 refine wp_ret<|aY E rfl rfl<|?_
 cases hm
 exact ⟨rfl,H.reads Y0⟩

def dY(c:List ByteArray):Nat→Int→Option Int
  | 0,_=>none
  | e+1,b=>
    if (decide (b < (c.length:Int)))=true then ((idx c b).bind fun f=>(a7 f).bind fun d=>if d=true then (some (b)) else (dY c e (IntKind.i64.wrap (b+1)))) else (some ((-1)))
def iP(b:List ByteArray):Option Int:=
  dY b (((b.length:Int) - 0:Int).toNat+1) 0
theorem q6{g:Value}{d:List ByteArray}(H:Sep w (Fo) rs)(f:rSl kS g d ∈ rs){r:Int}(hm:iP d=some r) :
    Calls Tryz.prog 119 [g,.func (.func 126) #[] #[]].toArray w (Ret fun v w'=>.int .i64 r=v∧Sep w' (Fo) (rs)):=by
 unfold iP at hm
 refine ent Tryz.func119 rfl Tryz.ntmps119 rfl rfl fun a E=>sq<|pr 1 E rfl fun a E=>nt<|wp_seq<|sq<|pr 1 E rfl fun a E=>sv E rfl rfl rfl (cV E H rfl rfl f U33) fun a E=>pr 1 E rfl fun a E=>?_
 refine nt<|wp_block<|bX (fun c a w=>∃ i e,Env 19 a [(0,g),(1,.func (.func 126) #[] #[]),(7,.int .i64 (d.length:Int)),(8,.int .i64 i)]∧Sep w (Fo) e∧(∀ r,r ∈ rs→r ∈ e)∧dY d c i=some r) (((d.length:Int) - 0:Int).toNat+1) ?_ ?_
 ·exact ⟨_,_,E.to rfl,H,Y0,hm⟩
 ·clear E H hm
  rintro c a w ⟨i,e,E,H,b,hm⟩
  cases c with
  | zero=>exact (bU hm rfl).elim
  | succ c=>
   unfold dY at hm
   refine sq<|pr 1 E rfl fun a E=>nt<|wp_seq<|wif E hm rfl (fun hm=>?_) fun hm=>?_
   ·refine wp_skip<|aC<|wp_seq<|wp_block<|sq<|pr 2 E rfl fun a E=>nx<|pr 3 E rfl fun a E=>bd hm fun m k hm=>?_
    refine dR E H (wn rfl) rfl rfl rfl rfl rfl (b _ f) U33 sz9 k fun q9 a H E=>sv E rfl rfl rfl (qT E H rfl rfl m0 U9 rfl) fun a E=>bd hm fun l j hm=>aW E (wn rfl) rfl rfl (bR E rfl rfl rfl (JM _)) (Gz H j)<|?_
    rintro _ w ⟨rfl,H⟩ a E
    refine nt<|wif E hm rfl (fun hm=>?_) fun hm=>?_
    ·refine sq<|pr 2 E rfl fun a E=>nt<|wp_ret<|bW<|aP<|aP<|bW<|aP<|?_
     refine aY E rfl rfl<|?_
     cases hm
     exact ⟨rfl,H.reads (Y1 b)⟩
    ·exact wp_skip<|bZ<|aC<|wp_region_lit<|pr 2 E rfl fun a E=>nt<|⟨c,Nat.lt_succ_self c,_,_,E.to rfl,H,(Y1 b),hm⟩
   ·refine wp_exit<|bG<|bG<|dN<|aC<|sq<|pr 1 E rfl fun a E=>nt<|wp_ret<|?_
    refine aY E rfl rfl<|?_
    cases hm
    exact ⟨rfl,H.reads b⟩

def gT(b:List ByteArray):Option Bool:=
  (iP b).bind fun c=>some (decide (c ≥ 0))
theorem yN{b:Value}{c:List ByteArray}(H:Sep w (Fo) rs)(d:rSl kS b c ∈ rs){r:Bool}(hm:gT c=some r) :
    Calls Tryz.prog 66 [b,.func (.func 126) #[] #[]].toArray w (Ret fun v w'=>.bool r=v∧Sep w' (Fo) (rs)):=by
 unfold gT at hm
 refine ent Tryz.func66 rfl Tryz.ntmps66 rfl rfl fun a E=>sq<|pr 1 E rfl fun a E=>nx<|pr 2 E rfl fun a E=>bd hm fun f e hm=>xk E rfl rfl rfl rfl rfl Pu (q6 H d e) fun w H a E=>pr 2 E rfl fun a E=>nt<|?_
 refine wp_ret<|aY E rfl rfl<|?_
 cases hm
 exact ⟨rfl,H.reads Y0⟩

def jV(c:List ByteArray)(d:ByteArray):Nat→Int→Option Int
  | 0,_=>none
  | e+1,b=>
    if (decide (b < (c.length:Int)))=true then ((idx c b).bind fun f=>if (sEq d f)=true then (some (b)) else (jV c d e (IntKind.i64.wrap (b+1)))) else (some ((-1)))
def pT(b:List ByteArray)(c:ByteArray):Option Int:=
  jV b c (((b.length:Int) - 0:Int).toNat+1) 0
theorem C8{i:Value}{d:List ByteArray}{f:ByteArray}(H:Sep w (Fo) rs)(g:rSl kS i d ∈ rs){r:Int}(hm:pT d f=some r) :
    Calls Tryz.prog 186 [i,.string f].toArray w (Ret fun v w'=>.int .i64 r=v∧Sep w' (Fo) (rs)):=by
 unfold pT at hm
 refine ent Tryz.func186 rfl Tryz.ntmps186 rfl rfl fun a E=>sq<|pr 1 E rfl fun a E=>nt<|wp_seq<|sq<|pr 1 E rfl fun a E=>sv E rfl rfl rfl (cV E H rfl rfl g U33) fun a E=>pr 1 E rfl fun a E=>?_
 refine nt<|wp_block<|bX (fun c a w=>∃ j e,Env 19 a [(0,i),(1,.string f),(7,.int .i64 (d.length:Int)),(8,.int .i64 j)]∧Sep w (Fo) e∧(∀ r,r ∈ rs→r ∈ e)∧jV d f c j=some r) (((d.length:Int) - 0:Int).toNat+1) ?_ ?_
 ·exact ⟨_,_,E.to rfl,H,Y0,hm⟩
 ·clear E H hm
  rintro c a w ⟨j,e,E,H,b,hm⟩
  cases c with
  | zero=>exact (bU hm rfl).elim
  | succ c=>
   unfold jV at hm
   refine sq<|pr 1 E rfl fun a E=>nt<|wp_seq<|wif E hm rfl (fun hm=>?_) fun hm=>?_
   ·refine wp_skip<|aC<|wp_seq<|wp_block<|sq<|pr 2 E rfl fun a E=>nx<|pr 3 E rfl fun a E=>bd hm fun l k hm=>?_
    refine dR E H (wn rfl) rfl rfl rfl rfl rfl (b _ g) U33 sz9 k fun q10 a H E=>sv E rfl rfl rfl (qT E H rfl rfl m0 U9 rfl) fun a E=>pr 1 E rfl fun a E=>nt<|wif E hm rfl (fun hm=>?_) fun hm=>?_
    ·refine sq<|pr 2 E rfl fun a E=>nt<|wp_ret<|bW<|aP<|aP<|bW<|aP<|?_
     refine aY E rfl rfl<|?_
     cases hm
     exact ⟨rfl,H.reads (Y1 b)⟩
    ·exact wp_skip<|bZ<|aC<|wp_region_lit<|pr 2 E rfl fun a E=>nt<|⟨c,Nat.lt_succ_self c,_,_,E.to rfl,H,(Y1 b),hm⟩
   ·refine wp_exit<|bG<|bG<|dN<|aC<|sq<|pr 1 E rfl fun a E=>nt<|wp_ret<|?_
    refine aY E rfl rfl<|?_
    cases hm
    exact ⟨rfl,H.reads b⟩

def oB(b:List ByteArray)(c:ByteArray):Option Bool:=
  (pT b c).bind fun d=>some (decide (d ≥ 0))
theorem x7{b:Value}{c:List ByteArray}{d:ByteArray}(H:Sep w (Fo) rs)(e:rSl kS b c ∈ rs){r:Bool}(hm:oB c d=some r) :
    Calls Tryz.prog 131 [b,.string d].toArray w (Ret fun v w'=>.bool r=v∧Sep w' (Fo) (rs)):=by
 unfold oB at hm
 refine ent Tryz.func131 rfl Tryz.ntmps131 rfl rfl fun a E=>sq<|pr 1 E rfl fun a E=>nx<|pr 2 E rfl fun a E=>bd hm fun g f hm=>xk E rfl rfl rfl rfl rfl JQ (C8 H e f) fun w H a E=>pr 2 E rfl fun a E=>nt<|?_
 refine wp_ret<|aY E rfl rfl<|?_
 cases hm
 exact ⟨rfl,H.reads Y0⟩

def uF(rec_1:Bool→Int→(List ((Int)×Int))→Option ((List aN)×(List Int)×Bool))(x20:Int)(b:Bool)(c:(List ((Int)×Int))):Option ((List aN)×(List Int)×Bool):=
  rec_1 b (IntKind.i64.wrap (x20+1)) c
def yJ(rec_1:Bool→Int→(List ((Int)×Int))→Option ((List aN)×(List Int)×Bool))(x20:Int)(b:aN)(d:Int)(x3:Int)(c:(List ((Int)×Int)))(e:Bool)(f:Bool):Option ((List aN)×(List Int)×Bool):=
  if f=true then ((ck (Qm b.Age b.Txn d x3)).bind fun j=>if (Fq b.Age b.Txn d x3)=true then ((mlk (kyI .i64) c b.Txn).bind fun g=>(mpt (kyI .i64) c b.Txn (IntKind.i64.wrap ((g.getD 0)+1))).bind fun i=>uF rec_1 x20 false i) else (uF rec_1 x20 false c)) else (uF rec_1 x20 e c)
def uG(rec_2:(List aN)→Int→Option ((List aN)×(List Int)×Bool))(b:Int)(c:(List aN)):Option ((List aN)×(List Int)×Bool):=
  rec_2 c (IntKind.i64.wrap (b+1))
def mD(e:List ByteArray)(x3:Int)(g:Int):Nat→(List aN)→Int→Option ((List aN)×(List Int)×Bool)
  | 0,_,_=>none
  | i+1,b,d=>
    if (decide (d < (e.length:Int)))=true then ((idx e d).bind fun f=>(eQ b f).bind fun c=>if (!c.2)=true then ((ck (0 ≤ c.1∧c.1 ≤ b.length∧b.length ≤ 1000000)).bind fun j=>uG (mD e x3 g i) d (b.take c.1.toNat ++ (⟨f,x3,g⟩:aN)::b.drop c.1.toNat)) else (uG (mD e x3 g i) d b)) else (some (b,[],true))
def mE(e:Int)(x3:Int)(f:List ByteArray)(c:List aN):Nat→Bool→Int→(List ((Int)×Int))→Option ((List aN)×(List Int)×Bool)
  | 0,_,_,_=>none
  | i+1,g,x20,b=>
    if (decide (x20 < (c.length:Int)))=true then ((idx c x20).bind fun d=>if (d.Txn != x3)=true then ((oB f d.Dir).bind fun j=>yJ (mE e x3 f c i) x20 d e x3 b g j) else (yJ (mE e x3 f c i) x20 d e x3 b g false)) else (if (!g)=true then ((lT b).bind fun k=>(ck (b.length ≤ 1000000)).bind fun l=>some (c,Js (b.map (·.1)),false)) else ((ck (c.length ≤ LIM)).bind fun m=>mD f x3 e (((f.length:Int) - 0:Int).toNat+1) c 0))
def mF(d:Int)(x3:Int)(e:List ByteArray)(b:List aN)(c:Bool):Option ((List aN)×(List Int)×Bool):=
  if c=true then (some (([]:List aN),[],false)) else (mE d x3 e b (((b.length:Int) - 0:Int).toNat+1) true 0 [])
def zC(b:List aN)(x3:Int)(c:Int)(d:List ByteArray):Option ((List aN)×(List Int)×Bool):=
  (gT d).bind fun e=>(fY b x3 c).bind fun f=>(s4 b).bind fun g=>if (!g)=true then (mF c x3 d b true) else ((nW x3).bind fun i=>if (!i)=true then (mF c x3 d b true) else ((nW c).bind fun j=>if (!j)=true then (mF c x3 d b true) else (if e=true then (mF c x3 d b true) else (mF c x3 d b f))))
theorem Lp{t z:Value}{p:List aN}{x3 b:Int}{m:List ByteArray}(H:Sep w (Fo) rs)(q:rSl bH t p ∈ rs)(T:rSl kS z m ∈ rs){r:(List aN)×(List Int)×Bool}(hm:zC p x3 b m=some r) :
    Calls Tryz.prog 71 [t,.int .i64 x3,.int .i64 b,z].toArray w (Ret fun v w'=>∃ d3 d4,.tuple #[d3,d4,.bool r.2.2]=v∧Sep w' (Row 2 (kI .i64) d4 r.2.1::Fo) (rSl bH d3 r.1::rs)):=by
 unfold zC at hm
 refine ent Tryz.func71 rfl Tryz.ntmps71 rfl rfl fun a E=>sq<|bS E H (wn rfl) rfl rfl rfl rfl rfl fun l w a H E=>bS E H (wn rfl) rfl rfl rfl rfl rfl fun f w a H E=>pr 3 E rfl fun a E=>nx<|pr 1 E rfl fun a E=>bd hm fun d5 b5 hm=>xk E rfl rfl rfl rfl rfl Vd (yN H T b5) fun w H a E=>?_
 refine pr 1 E rfl fun a E=>nx<|pr 1 E rfl fun a E=>sv E rfl rfl rfl (kJ E rfl rfl rfl) fun a E=>have H:=H.frs [0,1] rfl;bd hm fun d6 b6 hm=>xk E rfl rfl rfl rfl rfl Qg (vV H q b6) fun w H a E=>pr 1 E rfl fun a E=>nt<|?_
 refine wp_seq<|aV (fun a w=>∃ U G,Env 108 a [(0,t),(3,z),(5,pt l 0),(6,pt f 0),(45,.bool U)]∧Sep w (Blk l 2 [.int .i64 x3]::Blk f 2 [.int .i64 b]::Fo) G∧(∀ r,r ∈ rs→r ∈ G)∧mF b x3 m p U=some r) ?_ ?_
 ·refine wp_region_lit<|pr 1 E rfl fun a E=>bd hm fun d7 b7 hm=>xk E rfl rfl rfl rfl rfl JO (Iy H q b7) fun w H a E=>pr 2 E rfl fun a E=>cs hm (fun n hm=>?_) fun n hm=>?_
  ·exact pk 15 E (kc 30 rfl n) rfl fun a E=>nt<|⟨_,_,E.to rfl,H,Y0,hm⟩
  ·refine aQ E (ws' (d:=30) E rfl rfl rfl rfl n) rfl rfl (cD (i:=0) E H rfl rfl rfl rfl U2 rfl) fun a E=>bd hm fun d8 b8 hm=>aW E (ws' (d:=30) E rfl rfl rfl rfl n) rfl rfl (cB E rfl rfl (Jo _)) (zZ H b8)<|?_
   rintro _ w ⟨rfl,H⟩ a E
   refine pk 3 E (kc 30 rfl n) rfl fun a E=>cs hm (fun o hm=>?_) fun o hm=>?_
   ·exact pk 10 E (kc 35 rfl o) rfl fun a E=>nt<|⟨_,_,E.to rfl,H,Y0,hm⟩
   ·refine aQ E (ws' (d:=35) E rfl rfl rfl rfl o) rfl rfl (cD (i:=1) E H rfl rfl rfl rfl U2 rfl) fun a E=>bd hm fun d9 b9 hm=>aW E (ws' (d:=35) E rfl rfl rfl rfl o) rfl rfl (cB E rfl rfl (Jo _)) (zZ H b9)<|?_
    rintro _ w ⟨rfl,H⟩ a E
    refine pk 3 E (kc 35 rfl o) rfl fun a E=>cs hm (fun I hm=>?_) fun I hm=>?_
    ·exact pk 5 E (kc 40 rfl I) rfl fun a E=>nt<|⟨_,_,E.to rfl,H,Y0,hm⟩
    ·refine pk 3 E (kc 40 rfl I) rfl fun a E=>cs hm (fun J hm=>?_) fun J hm=>?_
     ·exact pk 2 E (kc 43 rfl J) rfl fun a E=>nt<|⟨_,_,E.to rfl,H,Y0,hm⟩
     ·exact pk 2 E (kc 43 rfl J) rfl fun a E=>nt<|⟨_,_,E.to rfl,H,Y0,hm⟩
 ·clear E H hm
  rintro a w ⟨U,G,E,H,L,hm⟩
  unfold mF at hm
  refine wif E hm rfl (fun hm=>?_) fun hm=>?_
  ·refine sq<|pr 3 E rfl fun a E=>nt<|wp_ret<|aP<|Jv E rfl rfl rfl rfl<|have H:=H.nilSl bH;have H:=H.nilRow 2 (kI .i64);have H:=H.drs [1,1];?_
   cases hm
   exact ⟨_,_,rfl,H.reads (aA m0 (fun r hr=>(t1 (L r hr))))⟩
  ·refine wp_skip<|aC<|sq<|xF (k:=2) (K:=(kyI .i64)) (d:=(kI .i64)) (g:=false) E H (wn rfl) rfl rfl rfl fun s w a H E=>pr 1 E rfl fun a E=>nx<|pr 1 E rfl fun a E=>nt<|wp_seq<|?_
   refine sq<|pr 1 E rfl fun a E=>sv E rfl rfl rfl (cV E H rfl rfl (L _ q) U62) fun a E=>pr 1 E rfl fun a E=>nt<|wp_block<|bX (fun A a w=>∃ B x20 C M,Env 108 a [(0,t),(3,z),(5,pt l 0),(6,pt f 0),(13,.map (some s)),(14,.bool B),(47,t),(48,.int .i64 (p.length:Int)),(49,.int .i64 x20)]∧Sep w (Blk l 2 [.int .i64 x3]::Blk f 2 [.int .i64 b]::cG Tryz.prog 2 (kyI .i64) (kI .i64) false s C::Fo) M∧(∀ r,r ∈ rs→r ∈ M)∧mE b x3 m p A B x20 C=some r) (((p.length:Int) - 0:Int).toNat+1) ?_ ?_
   ·exact have H:=H.frs [0,2,2] rfl;X4 ⟨E.to rfl,H,L,hm⟩
   ·clear E H hm
    rintro A a w ⟨B,x20,C,M,E,H,c,hm⟩
    cases A with
    | zero=>exact (bU hm rfl).elim
    | succ A=>
     unfold mE at hm
     refine sq<|pr 1 E rfl fun a E=>nt<|wp_seq<|wif E hm rfl (fun hm=>?_) fun hm=>?_
     ·refine wp_skip<|aC<|aV (fun a w=>∃ V W N,Env 108 a [(0,t),(3,z),(5,pt l 0),(6,pt f 0),(13,.map (some s)),(14,.bool V),(47,t),(48,.int .i64 (p.length:Int)),(49,.int .i64 x20)]∧Sep w (Blk l 2 [.int .i64 x3]::Blk f 2 [.int .i64 b]::cG Tryz.prog 2 (kyI .i64) (kI .i64) false s W::Fo) N∧(∀ r,r ∈ rs→r ∈ N)∧uF (mE b x3 m p A) x20 V W=some r) ?_ ?_
      ·refine wp_block<|sq<|bd hm fun b2 c0 hm=>dR E H (wn rfl) rfl rfl rfl rfl rfl (c _ q) U62 iW c0 fun q30 a H E=>ldf eX E H rfl rfl rfl rfl rfl m0 F5 rfl iW fun a E=>al E H rfl rfl rfl rfl Qh fun b3 w a H E=>bA (i:=0) E H (wn rfl) rfl rfl rfl rfl rfl rfl iW rfl rfl fun w H=>nt<|aV (fun a w=>∃ X O,Env 108 a [(0,t),(3,z),(5,pt l 0),(6,pt f 0),(13,.map (some s)),(14,.bool B),(16,pt b3 0),(47,t),(48,.int .i64 (p.length:Int)),(49,.int .i64 x20),(62,.bool X)]∧Sep w (Blk l 2 [.int .i64 x3]::Blk f 2 [.int .i64 b]::cG Tryz.prog 2 (kyI .i64) (kI .i64) false s C::Blk b3 103 (pX b2)::Fo) O∧(∀ r,r ∈ rs→r ∈ O)∧yJ (mE b x3 m p A) x20 b2 b x3 C B X=some r) ?_ ?_
       ·refine wp_region_lit<|pr 1 E rfl fun a E=>lb E H 0 rfl rfl rfl rfl rfl rfl rfl U2 rfl fun a E=>lb E H 1 rfl rfl rfl rfl rfl rfl rfl U2 rfl fun a E=>pr 2 E rfl fun a E=>cs hm (fun j hm=>?_) fun j hm=>?_
        ·refine pk 2 E (kc 57 rfl j) rfl fun a E=>aQ E (ws' (d:=57) E rfl rfl rfl rfl j) rfl rfl (cD (i:=0) E H rfl rfl rfl rfl U9 rfl) fun a E=>bd hm fun e0 c1 hm=>aW E (ws' (d:=57) E rfl rfl rfl rfl j) rfl rfl (cB E rfl rfl (JP _)) (x7 H (t1 (c _ T)) c1)<|?_
         rintro _ w ⟨rfl,H⟩ a E
         exact pk 1 E (kc 57 rfl j) rfl fun a E=>nt<|have H:=H.frs [0,3,3,3] rfl;⟨_,_,E.to rfl,H,(Y1 c),hm⟩
        ·exact pk 5 E (kc 57 rfl j) rfl fun a E=>nt<|have H:=H.frs [0,3,3,3] rfl;⟨_,_,E.to rfl,H,(Y1 c),hm⟩
       ·clear E H hm
        rintro a w ⟨X,O,E,H,P,hm⟩
        unfold yJ at hm
        refine wif E hm rfl (fun hm=>?_) fun hm=>?_
        ·refine sq<|pr 1 E rfl fun a E=>nx<|pr 1 E rfl fun a E=>lb E H 3 rfl rfl rfl rfl rfl rfl rfl U2 rfl fun a E=>pr 1 E rfl fun a E=>lb E H 3 rfl rfl rfl rfl rfl rfl rfl U2 rfl fun a E=>lb E H 1 rfl rfl rfl rfl rfl rfl rfl U2 rfl fun a E=>lb E H 0 rfl rfl rfl rfl rfl rfl rfl U2 rfl fun a E=>?_
         refine bk hm fun c2 hm=>cF E rfl rfl rfl rfl rfl JR (Zv H c2)<|?_
         rintro _ w ⟨rfl,H⟩ a E
         refine nt<|wif E hm rfl (fun hm=>?_) fun hm=>?_
         ·refine wp_region_lit<|pr 2 E rfl fun a E=>lb E H 3 rfl rfl rfl rfl rfl rfl rfl U2 rfl fun a E=>bd hm fun b4 c3 hm=>sv E rfl rfl rfl (Ko (i:=2) (K:=(kyI .i64)) (z0:=0) (u:=b4) E H rfl rfl rfl rfl (eS U2) DZ Lb c3) fun a E=>pr 1 E rfl fun a E=>bd hm fun e1 c4 hm=>Nk (i:=2) (K:=(kyI .i64)) (v:=IntKind.i64.wrap ((b4.getD 0)+1)) E H (wn rfl) rfl rfl rfl rfl rfl rfl (eS U2) DZ c4 fun w H=>wpList_nil<|?_
          exact bZ<|aC<|have H:=H.drop 3;X3 ⟨E.to rfl,H,P,hm⟩
         ·exact wp_skip<|bZ<|aC<|have H:=H.drop 3;X3 ⟨E.to rfl,H,P,hm⟩
        ·exact wp_skip<|bZ<|aC<|have H:=H.drop 3;X3 ⟨E.to rfl,H,P,hm⟩
      ·clear E H hm
       rintro a w ⟨V,W,N,E,H,c5,hm⟩
       unfold uF at hm
       exact wp_region_lit<|pr 2 E rfl fun a E=>nt<|⟨A,Nat.lt_succ_self A,X4 ⟨E.to rfl,H,c5,hm⟩⟩
     ·refine wp_exit<|bG<|bG<|dN<|aC<|wp_seq<|sq<|pr 2 E rfl fun a E=>nt<|wif E hm rfl (fun hm=>?_) fun hm=>?_
      ·refine sq<|pr 2 E rfl fun a E=>have H:=H.frs [1,1,2] rfl;bd hm fun e2 c6 hm=>cF E rfl rfl rfl rfl rfl JS (a6 H c6)<|?_
       rintro _ w ⟨e3,rfl,H⟩ a E
       refine bk hm fun c7 hm=>aW E (wn rfl) rfl rfl (cB E rfl rfl (JT _)) (Vr (ip:=0) (im:=1) H rfl rfl c7) fun e4 w H a E=>pr 3 E rfl fun a E=>nt<|wp_ret<|aP<|Jv E rfl rfl rfl rfl<|have H:=H.drs [1,1,1,1];?_
       cases hm
       exact ⟨_,_,rfl,H.reads (aA (c _ q) (c))⟩
      ·refine wp_skip<|aC<|sq<|pr 1 E rfl fun a E=>bk hm fun c8 hm=>aW E (wn rfl) rfl rfl (cB E rfl rfl (Vi _)) (kT H (c _ q) c8) fun e5 w H a E=>pr 1 E rfl fun a E=>nt<|wp_seq<|?_
       refine sq<|pr 1 E rfl fun a E=>sv E rfl rfl rfl (cV E H rfl rfl (c _ T) U33) fun a E=>pr 1 E rfl fun a E=>nt<|wp_block<|bX (fun Q a w=>∃ Y Z D R,Env 108 a [(5,pt l 0),(6,pt f 0),(17,Y),(84,z),(85,.int .i64 (m.length:Int)),(86,.int .i64 D)]∧Sep w (Blk l 2 [.int .i64 x3]::Blk f 2 [.int .i64 b]::Row 103 bH Y Z::Fo) R∧(∀ r,r ∈ rs→r ∈ R)∧mD m x3 b Q Z D=some r) (((m.length:Int) - 0:Int).toNat+1) ?_ ?_
       ·exact have H:=H.drop 3;have H:=H.frs [0,2,2] rfl;X4 ⟨E.to rfl,H,c,hm⟩
       ·clear E H hm
        rintro Q a w ⟨Y,Z,D,R,E,H,y,hm⟩
        cases Q with
        | zero=>exact (bU hm rfl).elim
        | succ Q=>
         unfold mD at hm
         refine sq<|pr 1 E rfl fun a E=>nt<|wp_seq<|wif E hm rfl (fun hm=>?_) fun hm=>?_
         ·refine wp_skip<|aC<|aV (fun a w=>∃ b0 b1 S,Env 108 a [(5,pt l 0),(6,pt f 0),(17,b0),(84,z),(85,.int .i64 (m.length:Int)),(86,.int .i64 D)]∧Sep w (Blk l 2 [.int .i64 x3]::Blk f 2 [.int .i64 b]::Row 103 bH b0 b1::Fo) S∧(∀ r,r ∈ rs→r ∈ S)∧uG (mD m x3 b Q) D b1=some r) ?_ ?_
          ·refine wp_block<|sq<|bd hm fun F c9 hm=>dR E H (wn rfl) rfl rfl rfl rfl rfl (y _ T) U33 sz9 c9 fun q64 a H E=>sv E rfl rfl rfl (qT E H rfl rfl m0 U9 rfl) fun a E=>pr 1 E rfl fun a E=>nx<|pr 2 E rfl fun a E=>have H:=H.frs [1,1,2] rfl;?_
           refine bd hm fun e6 d0 hm=>xk E rfl rfl rfl rfl rfl JU (rY H d0) fun w H a E=>pr 5 E rfl fun a E=>nx<|pr 2 E rfl fun a E=>nt<|wif E hm rfl (fun hm=>?_) fun hm=>?_
           ·refine wp_region_lit<|pr 3 E rfl fun a E=>lb E H 1 rfl rfl rfl rfl rfl rfl rfl U2 rfl fun a E=>lb E H 2 rfl rfl rfl rfl rfl rfl rfl U2 rfl fun a E=>sv E rfl rfl rfl (cL E rfl (E.evs rfl) (v:=.agg #[.string F,.int .i64 x3,.int .i64 b]) (by kernel_rfl)) fun a E=>hJ (e:=103) (d:=bH) (cs:=[.string F,.int .i64 x3,.int .i64 b]) (xs:=[(⟨F,x3,b⟩:aN)]) E H (wn rfl) rfl rfl rfl (E.evs rfl) (by kernel_rfl) rfl rfl (fun ok hr=>(Rows.single (d:=bH) (cs:=[.string F,.int .i64 x3,.int .i64 b]) (x:=(⟨F,x3,b⟩:aN)) V4)) fun e7 w a H E=>bk hm fun d1 hm=>aW E (wn rfl) rfl rfl (cB E rfl rfl (JV _)) (Ho.insert_a (ix:=1) (iu:=0) H rfl rfl (by decide) d1) fun e8 w H a E=>pr 1 E rfl fun a E=>?_
            exact wpList_nil<|bZ<|aC<|have H:=H.drop 0;have H:=H.frs [0,2,2] rfl;X3 ⟨E.to rfl,H,(Y1 y),hm⟩
           ·exact wp_skip<|bZ<|aC<|have H:=H.frs [0,2,2] rfl;X3 ⟨E.to rfl,H,(Y1 y),hm⟩
          ·clear E H hm
           rintro a w ⟨b0,b1,S,E,H,d2,hm⟩
           unfold uG at hm
           exact wp_region_lit<|pr 2 E rfl fun a E=>nt<|⟨Q,Nat.lt_succ_self Q,X4 ⟨E.to rfl,H,d2,hm⟩⟩
         ·refine wp_exit<|bG<|bG<|dN<|aC<|sq<|pr 4 E rfl fun a E=>nt<|wp_ret<|?_
          refine Jv E rfl rfl rfl rfl<|have H:=H.thaw (i:=2) rfl;have H:=H.nilRow 2 (kI .i64);have H:=H.drs [1,1];?_
          cases hm
          exact ⟨_,_,rfl,H.reads (aA m0 (fun r hr=>(t1 (y r hr))))⟩

def oP(f:List ((Int)×bQ))(x20:aU)(g:(List aN)×(List Int)×Bool)(b:Int)(c:(List cP))(d:Int):Option (aH×(List aN)×(List ((Int)×bQ))):=
  (mpt (kyI .i64) f x20.Txn (⟨false,x20.Pieces,(⟨b,d,b == 0,0,c,(⟨[],[]⟩:aR),[],[],[]⟩:aH)⟩:bQ)).bind fun e=>some ((⟨b,d,b == 0,0,c,(⟨[],[]⟩:aR),[],[],[]⟩:aH),g.1,e)
def lL(c:List ((Int)×bQ))(x20:aU)(f:List aN)(g:(List ByteArray))(j:List aF)(k:List aJ)(e:Int):Option (aH×(List aN)×(List ((Int)×bQ))):=
  if (e != 0)=true then ((dZ e).bind fun i=>some (i,f,c)) else ((zC f x20.Txn x20.Age g).bind fun d=>if (!d.2.2)=true then (some ((⟨131,0,false,0,[],(⟨[],[]⟩:aR),[],[],d.2.1⟩:aH),f,c)) else ((xL (⟨j,k⟩:aR) x20.Pieces).bind fun b=>oP c x20 d b.2.2.1 b.2.1 b.2.2.2))
def lM(b:List ((Int)×bQ))(x20:aU)(e:List aN)(c:(List ByteArray))(f:List aF)(g:List aJ)(i:Int)(d:Bool):Option (aH×(List aN)×(List ((Int)×bQ))):=
  if d=true then (lL b x20 e c f g 2) else (lL b x20 e c f g i)
def lN(b:List ((Int)×bQ))(x20:aU)(e:List aN)(f:List aF)(g:List aJ)(x:List aG)(i:Bool)(j:Bool)(y:(List cE))(k:Int)(l:Int)(m:Bool)(n:Int)(o:(List cP))(p:(List aF))(q:(List aJ))(s:(List bL))(t:(List oC))(u:(List Int)):Option (aH×(List aN)×(List ((Int)×bQ))):=
  if i=true then (if j=true then ((dZ 133).bind fun v=>some (v,e,b)) else (some ((⟨k,l,m,n,o,(⟨p,q⟩:aR),s,t,u⟩:aH),e,b))) else ((vO x20.Pieces).bind fun c=>(mN x c).bind fun d=>if (d == 0)=true then (lM b x20 e c f g d ((b.length:Int) == 128)) else (lM b x20 e c f g d false))
def kX(d:List aF)(e:List aJ)(f:List aG)(g:List aN)(c:List ((Int)×bQ))(x20:aU):Option (aH×(List aN)×(List ((Int)×bQ))):=
  (y4 (kyI .i64) c x20.Txn N1).bind fun b=>lN c x20 g d e f b.2 b.1.over_ b.1.pieces_ b.1.a_.Err b.1.a_.At b.1.a_.Yes b.1.a_.Epoch b.1.a_.Results b.1.a_.Store.Nodes b.1.a_.Store.Turns b.1.a_.Events b.1.a_.Mounts b.1.a_.Wounded
theorem R7{l e:Nat}{C D I M o x y z p q s t:Value}{b0:List aF}{b1:List aJ}{e9:List aG}{c2:List aN}{u:List ((Int)×bQ)}{x20:aU}(H:Sep w (Blk l 75 [C,D,I,M,p,q,s,.map (some e),t]::cG Tryz.prog 2 (kyI .i64) dB true e u::Fo) rs)(c3:rSl aE C b0 ∈ rs)(c4:rSl aI D b1 ∈ rs)(f0:rSl aT I e9 ∈ rs)(J:rSl bH M c2 ∈ rs)(L:rSl cA o x20.Pieces ∈ rs)(c5:u7 Tryz.prog ∈ rs){r:aH×(List aN)×(List ((Int)×bQ))}(hm:kX b0 b1 e9 c2 u x20=some r) :
    Calls Tryz.prog 26 [pt l 0,.agg (aS x20 o x y z).toArray].toArray w (Ret fun v w'=>∃ f7 f8 f9 g0 g1 g2 g3,.agg (bC r.1 f7 f8 f9 g0 g1 g2).toArray=v∧Sep w' (Blk l 75 [C,D,I,g3,p,q,s,.map (some e),t]::cG Tryz.prog 2 (kyI .i64) dB true e r.2.2::Fo) (rSl bF f7 r.1.Results::rSl aE f8 r.1.Store.Nodes::rSl aI f9 r.1.Store.Turns::rSl aX g0 r.1.Events::rSl bM g1 r.1.Mounts::rSl (kI .i64) g2 r.1.Wounded::rSl bH g3 r.2.1::rs)):=by
 unfold kX at hm
 refine ent Tryz.func26 rfl Tryz.ntmps26 rfl rfl fun a E=>sq<|bS E H (wn rfl) rfl rfl rfl rfl rfl fun f w a H E=>al E H rfl rfl rfl rfl gO fun B w a H E=>nt<|wp_seq<|aV (fun a w=>∃ c6 e5 P Q R S T U c7 c8 e6 V X Y Z c9 d0 d1 d2 d3 d4 k,Env 103 a [(0,pt l 0),(3,pt f 0),(4,pt B 0),(5,pt c6 0),(6,.bool c7)]∧Sep w (Blk l 75 [C,D,I,M,p,q,s,.map (some e),t]::Blk f 37 (aS x20 o x y z)::Blk B 48 bN::Blk c6 128 [.bool c8,e5,.int .i64 V,.int .i64 X,.bool Y,.int .i64 Z,P,Q,R,S,T,U]::cG Tryz.prog 2 (kyI .i64) dB true e u::Fo) k∧(∀ r,r ∈ rs→r ∈ k)∧rSl bF P c9 ∈ k∧rSl aE Q d0 ∈ k∧rSl aI R d1 ∈ k∧rSl aX S d2 ∈ k∧rSl bM T d3 ∈ k∧rSl (kI .i64) U d4 ∈ k∧lN u x20 c2 b0 b1 e9 c7 c8 e6 V X Y Z c9 d0 d1 d2 d3 d4=some r) ?_ ?_
 ·refine bd hm fun i8 b4 hm=>?_
  have hI:eD [Blk f 37 (aS x20 o x y z),Blk l 75 [C,D,I,M,p,q,s,.map (some e),t]] [] { w with drawn:=w.drawn+1 }:=⟨_,_,H.kept (Kp.drawn _ w _),(aB mm1 (aB mm2 (aL))),(aM)⟩
  refine mA _ (.go 0 0 (.go 1 0 (.go 2 0 (.go 3 0 (.go 4 0 (.go 5 0 (.alt 6 (.go 7 0 (.go 8 0 (.go 9 0 (.go 10 1 (.go 11 1 (.go 12 2 .nil)))))) 10 (.go 6 1 (.go 7 0 (.go 8 0 (.go 9 0 (.go 11 1 (.go 12 2 .nil))))))))))))) [12] mH (by kernel_rfl) (fun _ _ _ h=>False.elim h.2) hI<|have H:=H.kept (Kp.drawn _ w (w.drawn+1));?_
  generalize ({ w with drawn:=w.drawn+1 }:World)=w at H hI ⊢
  replace hI:∃ W,eD [Blk f 37 (aS x20 o x y z),Blk l 75 [C,D,I,M,p,q,s,.map (some e),t]] [] W:=⟨_,hI⟩
  obtain ⟨W0,hI⟩:=hI
  refine aZ E rfl (wn rfl) rfl rfl (fun w hW=>(bE E rfl rfl)) fun a E=>aZ E rfl (wn rfl) rfl rfl (fun w hW=>(vX E rfl rfl)) fun a E=>aZ E rfl (wn rfl) rfl rfl (fun w hW=>lA E rfl rfl (v:=pt l 7) (Le _ _)) fun a E=>aZ E rfl (wn rfl) rfl rfl (fun w hW=>fC E rfl rfl (mB mm1 rfl U69 rfl w hW)) fun a E=>aZ E rfl (wn rfl) rfl rfl (fun w hW=>lA E rfl rfl (v:=pt f 2) (Fd _ _)) fun a E=>aZ E rfl (wn rfl) rfl rfl (fun w hW=>fC E rfl rfl (mB m0 rfl U2 rfl w hW)) fun a E=>?_
  refine mU rfl rfl ?_ ?_
  ·refine oE (i:=3) (K:=(kyI .i64)) E H (wn rfl) rfl rfl rfl rfl rfl rfl (eS U2) U69 Fl Jl b4 fun i9 a H E=>?_
   obtain ⟨j0,j1,j2,j3,j4,j5,j6,rfl,h⟩:=D5 H;clear H;have H:=h
   refine nt<|?_
   refine ⟨⟨_,_,H,(aB mm1 (aB mm2 (aL))),(aM)⟩,?_⟩
   refine aZ E rfl (wn rfl) rfl rfl (fun w hW=>(bE E rfl rfl)) fun a E=>aZ E rfl (wn rfl) rfl rfl (fun w hW=>(dF E rfl rfl rfl)) fun a E=>aZ E rfl (wn rfl) rfl rfl (fun w hW=>(dF E rfl rfl rfl)) fun a E=>cN rfl<|al E H rfl rfl rfl rfl Jm fun j7 w a H E=>nt<|?_
   refine ⟨⟨_,_,H,(aB mm2 (aB mm3 (aL))),(aM)⟩,?_⟩
   refine cN rfl<|bA (i:=0) E H (wn rfl) rfl rfl rfl rfl rfl rfl Jn rfl (r7 H mm6 mm5 mm4 mm3 mm2 mm1 m0) fun w H=>nt<|?_
   refine ⟨⟨_,_,H,(aB mm2 (aB mm3 (aL))),(aM)⟩,?_⟩
   refine cX rfl<|pr 1 E rfl fun a E=>nt<|eL<|?_
   clear hI
   exact aC<|have H:=H.frs [4,1,2,3,4] rfl;X22 ⟨E.to rfl,H,(Y8 Y0),mm5,mm4,mm3,mm2,mm1,m0,hm⟩
  ·refine al E H rfl rfl rfl rfl Jm fun j8 w a H E=>nt<|?_
   refine ⟨⟨_,_,H,(aB mm2 (aB mm3 (aL))),(aM)⟩,?_⟩
   refine cN rfl<|oE (i:=4) (K:=(kyI .i64)) E H (wn rfl) rfl rfl rfl rfl rfl rfl (eS U2) U69 Fl Jl b4 fun j9 a H E=>?_
   obtain ⟨k0,k1,k2,k3,k4,k5,k6,rfl,h⟩:=D5 H;clear H;have H:=h
   refine nt<|?_
   refine ⟨⟨_,_,H,(aB mm2 (aB mm3 (aL))),(aM)⟩,?_⟩
   refine aZ E rfl (wn rfl) rfl rfl (fun w hW=>(bE E rfl rfl)) fun a E=>aZ E rfl (wn rfl) rfl rfl (fun w hW=>(dF E rfl rfl rfl)) fun a E=>aZ E rfl (wn rfl) rfl rfl (fun w hW=>(dF E rfl rfl rfl)) fun a E=>cN rfl<|bA (i:=0) E H (wn rfl) rfl rfl rfl rfl rfl rfl Jn rfl (r7 H mm6 mm5 mm4 mm3 mm2 mm1 m0) fun w H=>nt<|?_
   refine ⟨⟨_,_,H,(aB mm2 (aB mm3 (aL))),(aM)⟩,?_⟩
   refine cX rfl<|pr 1 E rfl fun a E=>nt<|eL<|?_
   clear hI
   exact aC<|have H:=H.frs [4,1,2,3,4] rfl;X22 ⟨E.to rfl,H,(Y8 Y0),mm5,mm4,mm3,mm2,mm1,m0,hm⟩
 ·clear E H hm
  rintro a w ⟨c6,e5,P,Q,R,S,T,U,c7,c8,e6,V,X,Y,Z,c9,d0,d1,d2,d3,d4,k,E,H,m,d5,d6,d7,d8,d9,e0,hm⟩
  unfold lN at hm
  refine sq<|pr 1 E rfl fun a E=>nt<|wif E hm rfl (fun hm=>?_) fun hm=>?_
  ·refine wp_seq<|sq<|pr 1 E rfl fun a E=>lb E H 3 rfl rfl rfl rfl rfl rfl rfl U4 rfl fun a E=>nt<|wif E hm rfl (fun hm=>?_) fun hm=>?_
   ·refine sq<|bd hm fun g4 f1 hm=>cF E rfl rfl rfl rfl rfl xN (eI H f1)<|?_
    rintro _ w ⟨g5,g6,g7,g8,g9,i0,rfl,H⟩ a E
    refine bA (i:=2) E H (wn rfl) rfl rfl rfl rfl rfl rfl bV rfl (bD H m0 mm1 mm2 mm3 mm4 mm5) fun w H=>nt<|wp_ret<|aP<|aP<|dT E rfl (dD (i:=2) (us:=(bC g4 g5 g6 g7 g8 g9 i0)) H rfl rfl rfl U48 rfl bV)<|have H:=H.drs [1,1,1];?_
    cases hm
    exact X7 ⟨rfl,H.reads (aA m0 (aA mm1 (aA mm2 (aA mm3 (aA mm4 (aA mm5 (aA (t6 (m _ J)) (fun r hr=>(t6 (m r hr))))))))))⟩
   ·refine wp_skip<|aC<|sq<|pr 1 E rfl fun a E=>sv E rfl rfl rfl (cC (i:=3) (us:=[.int .i64 V,.int .i64 X,.bool Y,.int .i64 Z,P,Q,R,S,T,U]) E H rfl rfl rfl rfl U48 rfl bV) fun a E=>bA (i:=2) E H (wn rfl) rfl rfl rfl rfl rfl rfl bV rfl (bD H d5 d6 d7 d8 d9 e0) fun w H=>nt<|wp_ret<|aP<|?_
    refine dT E rfl (dD (i:=2) (us:=[.int .i64 V,.int .i64 X,.bool Y,.int .i64 Z,P,Q,R,S,T,U]) H rfl rfl rfl U48 rfl bV)<|have H:=H.drs [1,1,1];?_
    cases hm
    exact X7 ⟨rfl,H.reads (aA d5 (aA d6 (aA d7 (aA d8 (aA d9 (aA e0 (aA (m _ J) (m))))))))⟩
  ·refine wp_skip<|aC<|sq<|pr 1 E rfl fun a E=>lb E H 1 rfl rfl rfl rfl rfl rfl rfl U26 rfl fun a E=>bd hm fun b5 f2 hm=>cF E rfl rfl rfl rfl rfl DB (Al H (m _ L) f2)<|?_
   rintro _ w ⟨b6,rfl,H⟩ a E
   refine pr 1 E rfl fun a E=>nx<|pr 2 E rfl fun a E=>have H:=H.thaw (i:=0) rfl;bd hm fun e7 f3 hm=>xk E rfl rfl rfl rfl rfl DD (B2 H (t1 (m _ f0)) m0 f3) fun w H a E=>pr 1 E rfl fun a E=>nt<|aV (fun a w=>∃ e1 N,Env 103 a [(0,pt l 0),(3,pt f 0),(4,pt B 0),(7,b6),(8,.int .i64 e1)]∧Sep w (Blk l 75 [C,D,I,M,p,q,s,.map (some e),t]::Blk f 37 (aS x20 o x y z)::Blk B 48 bN::cG Tryz.prog 2 (kyI .i64) dB true e u::Fo) N∧(∀ r,r ∈ rs→r ∈ N)∧rSl kS b6 b5 ∈ N∧lL u x20 c2 b5 b0 b1 e1=some r) ?_ ?_
   ·refine aV (fun a w=>∃ b2 F,Env 103 a [(0,pt l 0),(3,pt f 0),(4,pt B 0),(7,b6),(8,.int .i64 e7),(47,.bool b2)]∧Sep w (Blk l 75 [C,D,I,M,p,q,s,.map (some e),t]::Blk f 37 (aS x20 o x y z)::Blk B 48 bN::cG Tryz.prog 2 (kyI .i64) dB true e u::Fo) F∧(∀ r,r ∈ rs→r ∈ F)∧rSl kS b6 b5 ∈ F∧lM u x20 c2 b5 b0 b1 e7 b2=some r) ?_ ?_
    ·refine wp_region_lit<|pr 3 E rfl fun a E=>cs hm (fun n hm=>?_) fun n hm=>?_
     ·exact pk 3 E (kc 40 rfl n) rfl fun a E=>aQ E (ws' (d:=40) E rfl rfl rfl rfl n) rfl rfl (cD (i:=0) E H rfl rfl rfl rfl U69 rfl) fun a E=>aQ E (ws' (d:=40) E rfl rfl rfl rfl n) rfl rfl (E4 (i:=4) E H rfl rfl rfl U69) fun a E=>pk 2 E (kc 40 rfl n) rfl fun a E=>nt<|have H:=H.drop 3;⟨_,_,E.to rfl,H,(Y1 m),m0,hm⟩
     ·exact pk 7 E (kc 40 rfl n) rfl fun a E=>nt<|have H:=H.drop 3;⟨_,_,E.to rfl,H,(Y1 m),m0,hm⟩
    ·clear E H hm
     rintro a w ⟨b2,F,E,H,b7,b8,hm⟩
     unfold lM at hm
     refine wif E hm rfl (fun hm=>?_) fun hm=>?_
     ·exact wp_region_lit<|pr 1 E rfl fun a E=>nt<|⟨_,_,E.to rfl,H,b7,b8,hm⟩
     ·exact wp_skip<|aC<|⟨_,_,E.to rfl,H,b7,b8,hm⟩
   ·clear E H hm
    rintro a w ⟨e1,N,E,H,c,f4,hm⟩
    unfold lL at hm
    refine wp_seq<|sq<|pr 2 E rfl fun a E=>nt<|wif E hm rfl (fun hm=>?_) fun hm=>?_
    ·refine sq<|pr 1 E rfl fun a E=>bd hm fun i1 f5 hm=>cF E rfl rfl rfl rfl rfl xN (eI H f5)<|?_
     rintro _ w ⟨i2,i3,i4,i5,i6,i7,rfl,H⟩ a E
     refine bA (i:=2) E H (wn rfl) rfl rfl rfl rfl rfl rfl bV rfl (bD H m0 mm1 mm2 mm3 mm4 mm5) fun w H=>nt<|wp_ret<|aP<|dT E rfl (dD (i:=2) (us:=(bC i1 i2 i3 i4 i5 i6 i7)) H rfl rfl rfl U48 rfl bV)<|have H:=H.drs [1,1];?_
     cases hm
     exact X7 ⟨rfl,H.reads (aA m0 (aA mm1 (aA mm2 (aA mm3 (aA mm4 (aA mm5 (aA (t6 (c _ J)) (fun r hr=>(t6 (c r hr))))))))))⟩
    ·refine wp_skip<|aC<|wp_seq<|dw [(0,0),(1,0),(2,0),(3,0),(4,0),(5,0),(6,0),(7,0),(8,0),(9,1),(10,0),(11,0),(12,0),(13,0),(14,1),(15,1),(16,2)] [0,1] [] H (by kernel_rfl) (fun _ _ _ h=>False.elim h.2) fun w W0 hI H=>fn 3 E rfl fun a E=>fb E rfl (wn rfl) rfl rfl rfl rfl m0 rfl U62 rfl fun a E=>fn 1 E rfl fun a E=>fb E rfl (wn rfl) rfl rfl rfl rfl mm1 rfl U2 rfl fun a E=>fn 1 E rfl fun a E=>?_
     refine fb E rfl (wn rfl) rfl rfl rfl rfl mm1 rfl U2 rfl fun a E=>fn 1 E rfl fun a E=>bY rfl<|bd hm fun b9 f6 hm=>cF E rfl rfl rfl rfl rfl LY (Lp H (c _ J) f4 f6)<|?_
     rintro _ w ⟨e8,l9,rfl,H⟩ a E
     refine nt<|?_
     refine ⟨⟨_,_,H,(aB mm1 (aB mm2 (aL))),(aM)⟩,?_⟩
     refine fn 4 E rfl fun a E=>bY rfl<|pr 1 E rfl fun a E=>nt<|?_
     refine ⟨⟨_,_,H,(aB mm1 (aB mm2 (aL))),(aM)⟩,?_⟩
     refine bY rfl<|pr 1 E rfl fun a E=>nt<|?_
     refine ⟨⟨_,_,H,(aB mm1 (aB mm2 (aL))),(aM)⟩,?_⟩
     refine bO rfl<|pr 1 E rfl fun a E=>nt<|bP<|?_
     clear hI
     refine aC<|wp_seq<|sq<|pr 2 E rfl fun a E=>nt<|wif E hm rfl (fun hm=>?_) fun hm=>?_
     ·refine sq<|pr 1 E rfl fun a E=>?_
      obtain ⟨q99,e2,rfl⟩:=H.rowform (i:=0) rfl
      refine sv E rfl rfl rfl (cL E rfl (E.evs rfl) (v:=.agg #[.int .i64 131,.int .i64 0,.bool false,.int .i64 0,.slice none 0 0,.slice none 0 0,.slice none 0 0,.slice none 0 0,.slice none 0 0,(.slice q99 b9.2.1.length e2)]) (by kernel_rfl)) fun a E=>bA (i:=3) E H (wn rfl) rfl rfl rfl rfl rfl rfl bV rfl rfl fun w H=>nt<|wp_ret<|aP<|dT E rfl (dD (i:=3) (us:=[.int .i64 131,.int .i64 0,.bool false,.int .i64 0,.slice none 0 0,.slice none 0 0,.slice none 0 0,.slice none 0 0,.slice none 0 0,(.slice q99 b9.2.1.length e2)]) H rfl rfl rfl U48 rfl bV)<|have H:=H.thaw (i:=0) rfl;have H:=H.nilSl bF;have H:=H.nilSl aE;?_
      refine have H:=H.nilSl aI;have H:=H.nilSl aX;have H:=H.nilSl bM;have H:=H.drs [1,1];?_
      cases hm
      exact X7 ⟨rfl,H.reads (aA mm4 (aA mm3 (aA mm2 (aA mm1 (aA m0 (aA mm5 (aA (t7 (c _ J)) (fun r hr=>(t7 (c r hr))))))))))⟩
     ·refine wp_skip<|aC<|aV (fun a w=>∃ b3 b g j G,Env 103 a [(0,pt l 0),(3,pt f 0),(4,pt B 0),(8,.int .i64 b),(9,e8),(13,b3),(14,.int .i64 j)]∧Sep w (Blk l 75 [C,D,I,M,p,q,s,.map (some e),t]::Blk f 37 (aS x20 o x y z)::Blk B 48 bN::Row 81 bF b3 g::cG Tryz.prog 2 (kyI .i64) dB true e u::Fo) G∧(∀ r,r ∈ rs→r ∈ G)∧rSl bH e8 b9.1 ∈ G∧oP u x20 b9 b g j=some r) ?_ ?_
      ·refine bd hm fun k7 c0 hm=>?_
       have hI:eD [Blk l 75 [C,D,I,M,p,q,s,.map (some e),t],Blk f 37 (aS x20 o x y z)] [] { w with drawn:=w.drawn+1 }:=⟨_,_,H.kept (Kp.drawn _ w _),(aB mm1 (aB mm2 (aL))),(aM)⟩
       refine mA _ (.go 0 0 (.go 1 0 (.go 2 0 (.go 3 0 (.go 4 0 (.go 5 0 (.alt 6 (.go 7 0 (.go 8 0 (.go 9 0 (.go 10 0 (.go 11 0 (.go 12 1 (.go 13 1 (.go 14 1 (.go 15 1 (.go 16 2 .nil)))))))))) 12 (.go 6 1 (.go 7 0 (.go 8 0 (.go 9 0 (.go 10 0 (.go 11 0 (.go 13 1 (.go 14 1 (.go 15 1 (.go 16 2 .nil))))))))))))))))) [16] mH (by kernel_rfl) (fun _ _ _ h=>False.elim h.2) hI<|have H:=H.kept (Kp.drawn _ w (w.drawn+1));?_
       generalize ({ w with drawn:=w.drawn+1 }:World)=w at H hI ⊢
       replace hI:∃ W,eD [Blk l 75 [C,D,I,M,p,q,s,.map (some e),t],Blk f 37 (aS x20 o x y z)] [] W:=⟨_,hI⟩
       obtain ⟨W0,hI⟩:=hI
       refine aZ E rfl (wn rfl) rfl rfl (fun w hW=>(bE E rfl rfl)) fun a E=>aZ E rfl (wn rfl) rfl rfl (fun w hW=>(vX E rfl rfl)) fun a E=>aZ E rfl (wn rfl) rfl rfl (fun w hW=>lA E rfl rfl (v:=pt l 0) (Fi _ _)) fun a E=>aZ E rfl (wn rfl) rfl rfl (fun w hW=>fC E rfl rfl (y0 (us:=[C,D]) m0 rfl U25 rfl dJ w hW)) fun a E=>aZ E rfl (wn rfl) rfl rfl (fun w hW=>lA E rfl rfl (v:=pt f 5) (Ry _ _)) fun a E=>aZ E rfl (wn rfl) rfl rfl (fun w hW=>fC E rfl rfl (mB mm1 rfl U26 rfl w hW)) fun a E=>?_
       refine mU rfl rfl ?_ ?_
       ·refine cF E rfl rfl rfl rfl rfl Ve (O6 (x1:=(⟨b0,b1⟩:aR)) H (t1 (c _ c3)) (t1 (c _ c4)) (t1 (c _ L)) (t1 (c _ c5)) c0)<|?_
        rintro _ w ⟨k8,k9,l0,rfl,H⟩ a E
        refine nt<|?_
        refine ⟨⟨_,_,H,(aB mm2 (aB mm3 (aL))),(aM)⟩,?_⟩
        refine aZ E rfl (wn rfl) rfl rfl (fun w hW=>(bE E rfl rfl)) fun a E=>aZ E rfl (wn rfl) rfl rfl (fun w hW=>(dF E rfl rfl rfl)) fun a E=>aZ E rfl (wn rfl) rfl rfl (fun w hW=>(dF E rfl rfl rfl)) fun a E=>aZ E rfl (wn rfl) rfl rfl (fun w hW=>(dF E rfl rfl rfl)) fun a E=>aZ E rfl (wn rfl) rfl rfl (fun w hW=>(dF E rfl rfl rfl)) fun a E=>cN rfl<|al E H rfl rfl rfl rfl lF fun l1 w a H E=>nt<|?_
        refine ⟨⟨_,_,H,(aB mm3 (aB mm4 (aL))),(aM)⟩,?_⟩
        refine cN rfl<|bA (i:=0) E H (wn rfl) rfl rfl rfl rfl rfl rfl dJ rfl (jQ H m0 mm1) fun w H=>nt<|?_
        refine ⟨⟨_,_,H,(aB mm3 (aB mm4 (aL))),(aM)⟩,?_⟩
        refine cN rfl<|pr 1 E rfl fun a E=>nt<|?_
        refine ⟨⟨_,_,H,(aB mm3 (aB mm4 (aL))),(aM)⟩,?_⟩
        refine cN rfl<|pr 1 E rfl fun a E=>nt<|?_
        refine ⟨⟨_,_,H,(aB mm3 (aB mm4 (aL))),(aM)⟩,?_⟩
        refine cX rfl<|pr 1 E rfl fun a E=>nt<|eL<|?_
        clear hI
        exact aC<|have H:=H.drs [0,1];have H:=H.frs [4,1,4,4,4] rfl;X5 ⟨E.to rfl,H,(Y3 c),mm2,hm⟩
       ·refine al E H rfl rfl rfl rfl lF fun l2 w a H E=>nt<|?_
        refine ⟨⟨_,_,H,(aB mm2 (aB mm3 (aL))),(aM)⟩,?_⟩
        refine cN rfl<|cF E rfl rfl rfl rfl rfl Ve (O6 (x1:=(⟨b0,b1⟩:aR)) H (t1 (c _ c3)) (t1 (c _ c4)) (t1 (c _ L)) (t1 (c _ c5)) c0)<|?_
        rintro _ w ⟨l3,l4,l5,rfl,H⟩ a E
        refine nt<|?_
        refine ⟨⟨_,_,H,(aB mm3 (aB mm4 (aL))),(aM)⟩,?_⟩
        refine aZ E rfl (wn rfl) rfl rfl (fun w hW=>(bE E rfl rfl)) fun a E=>aZ E rfl (wn rfl) rfl rfl (fun w hW=>(dF E rfl rfl rfl)) fun a E=>aZ E rfl (wn rfl) rfl rfl (fun w hW=>(dF E rfl rfl rfl)) fun a E=>aZ E rfl (wn rfl) rfl rfl (fun w hW=>(dF E rfl rfl rfl)) fun a E=>aZ E rfl (wn rfl) rfl rfl (fun w hW=>(dF E rfl rfl rfl)) fun a E=>cN rfl<|bA (i:=1) E H (wn rfl) rfl rfl rfl rfl rfl rfl dJ rfl (jQ H m0 mm1) fun w H=>nt<|?_
        refine ⟨⟨_,_,H,(aB mm3 (aB mm4 (aL))),(aM)⟩,?_⟩
        refine cN rfl<|pr 1 E rfl fun a E=>nt<|?_
        refine ⟨⟨_,_,H,(aB mm3 (aB mm4 (aL))),(aM)⟩,?_⟩
        refine cN rfl<|pr 1 E rfl fun a E=>nt<|?_
        refine ⟨⟨_,_,H,(aB mm3 (aB mm4 (aL))),(aM)⟩,?_⟩
        refine cX rfl<|pr 1 E rfl fun a E=>nt<|eL<|?_
        clear hI
        exact aC<|have H:=H.drs [1,1];have H:=H.frs [4,1,4,4,4] rfl;X5 ⟨E.to rfl,H,(Y3 c),mm2,hm⟩
      ·clear E H hm
       rintro a w ⟨b3,b,g,j,G,E,H,O,c1,hm⟩
       unfold oP at hm
       refine sq<|pr 5 E rfl fun a E=>?_
       obtain ⟨q108,A,rfl⟩:=H.rowform (i:=3) rfl
       refine sv E rfl rfl rfl (cL E rfl (E.evs rfl) (v:=.agg #[.int .i64 b,.int .i64 j,.bool (b == 0),.int .i64 0,(.slice q108 g.length A),.slice none 0 0,.slice none 0 0,.slice none 0 0,.slice none 0 0,.slice none 0 0]) (by kernel_rfl)) fun a E=>al E H rfl rfl rfl rfl gO fun l6 w a H E=>bA (i:=0) E H (wn rfl) rfl rfl rfl rfl rfl rfl bV rfl rfl fun w H=>nx<|pr 4 E rfl fun a E=>?_
       obtain ⟨q111,l7,rfl⟩:=H.slform c1
       refine bA (i:=1) E H (wn rfl) rfl rfl rfl rfl rfl rfl DW rfl rfl fun w H=>nt<|wp_seq<|dw [(0,0),(1,0),(2,0),(3,0),(4,0),(5,0),(6,0),(7,0),(8,0),(9,0),(10,2)] [0,1,2] [] H (by kernel_rfl) (fun _ _ _ h=>False.elim h.2) fun w W0 hI H=>fn 3 E rfl fun a E=>fb E rfl (wn rfl) rfl rfl rfl rfl mm1 rfl U69 rfl fun a E=>fn 1 E rfl fun a E=>fb E rfl (wn rfl) rfl rfl rfl rfl mm2 rfl U2 rfl fun a E=>fn 1 E rfl fun a E=>?_
       refine fb E rfl (wn rfl) rfl rfl rfl rfl mm2 rfl U26 rfl fun a E=>fbn E [.int .i64 b,.int .i64 j,.bool (b == 0),.int .i64 0,(.slice q108 g.length A),.slice none 0 0,.slice none 0 0,.slice none 0 0,.slice none 0 0,.slice none 0 0] rfl (wn rfl) rfl rfl rfl rfl m0 rfl U48 rfl bV fun a E=>?_
       obtain ⟨q113,e3,rfl⟩:=H.slform (O _ L)
       refine bT E rfl (wn rfl) rfl rfl (fun w hW=>(cL E rfl (E.evs rfl) (v:=.agg #[.bool false,(.slice q113 x20.Pieces.length e3),.int .i64 b,.int .i64 j,.bool (b == 0),.int .i64 0,(.slice q108 g.length A),.slice none 0 0,.slice none 0 0,.slice none 0 0,.slice none 0 0,.slice none 0 0]) (by kernel_rfl))) fun a E=>?_
       refine bO rfl<|have H:=H.thaw (i:=4) rfl;bd hm fun l8 e4 hm=>B6 (i:=4) (K:=(kyI .i64)) (v:=(⟨false,x20.Pieces,(⟨b,j,b == 0,0,g,(⟨[],[]⟩:aR),[],[],[]⟩:aH)⟩:bQ)) (cs:=[.bool false,(.slice q113 x20.Pieces.length e3),.int .i64 b,.int .i64 j,.bool (b == 0),.int .i64 0,(.slice q108 g.length A),.slice none 0 0,.slice none 0 0,.slice none 0 0,.slice none 0 0,.slice none 0 0]) E H (wn rfl) rfl rfl rfl rfl rfl rfl (eS U2) U69 e4 (fun ok hr=>(B8 (hr _ (t1 (O _ L))) (hr _ m0) (Sl.nil _ _ _) (Sl.nil _ _ _) (Sl.nil _ _ _) (Sl.nil _ _ _) (Sl.nil _ _ _))) fun w H=>nt<|bP<|?_
       clear hI
       refine aC<|sq<|sv E rfl rfl rfl (cC (i:=0) (us:=[.int .i64 b,.int .i64 j,.bool (b == 0),.int .i64 0,(.slice q108 g.length A),.slice none 0 0,.slice none 0 0,.slice none 0 0,.slice none 0 0,.slice none 0 0]) E H rfl rfl rfl rfl U48 rfl bV) fun a E=>bA (i:=3) E H (wn rfl) rfl rfl rfl rfl rfl rfl bV rfl rfl fun w H=>nt<|wp_ret<|dT E rfl (dD (i:=3) (us:=[.int .i64 b,.int .i64 j,.bool (b == 0),.int .i64 0,(.slice q108 g.length A),.slice none 0 0,.slice none 0 0,.slice none 0 0,.slice none 0 0,.slice none 0 0]) H rfl rfl rfl U48 rfl bV)<|have H:=H.nilSl aE;have H:=H.nilSl aI;?_
       refine have H:=H.nilSl aX;have H:=H.nilSl bM;have H:=H.nilSl (kI .i64);have H:=H.drs [0,1,1];?_
       cases hm
       exact X7 ⟨rfl,H.reads (aA mm5 (aA mm4 (aA mm3 (aA mm2 (aA mm1 (aA m0 (aA (t6 c1) (fun r hr=>(t6 (O r hr))))))))))⟩

def mO(i:List aF)(j:List aJ)(m:List aG)(k:List aN)(c:List aK)(d:List aD)(e:List ((Int)×aH))(f:List ((Int)×bQ))(g:List ((Int)×aH))(x20:aU)(t:Bool):Option (aH×(List aF)×(List aJ)×(List aG)×(List aN)×(List aK)×(List aD)×(List ((Int)×aH))×(List ((Int)×bQ))×(List ((Int)×aH))):=
  if t=true then ((dZ 1).bind fun s=>some (s,i,j,m,k,c,d,e,f,g)) else (if (x20.Kind == 2)=true then ((kX i j m k f x20).bind fun n=>some (n.1,i,j,m,n.2.1,c,d,e,n.2.2,g)) else (if (x20.Kind == 3)=true then ((jO i j k c d f x20).bind fun b=>some (b.1,b.2.1,b.2.2.1,m,b.2.2.2.1,b.2.2.2.2.1,b.2.2.2.2.2.1,e,b.2.2.2.2.2.2,g)) else (if (x20.Kind == 4)=true then ((wC g x20).bind fun p=>some (p.1,i,j,m,k,c,d,e,f,p.2)) else (if (x20.Kind == 5)=true then ((wJ i j m k x20).bind fun q=>some (q.1,i,j,q.2,k,c,d,e,f,g)) else (if (x20.Kind == 6)=true then ((vK i j m k x20).bind fun l=>some (l.1,l.2.1,l.2.2.1,l.2.2.2,k,c,d,e,f,g)) else (if (x20.Kind == 7)=true then ((yW i j m x20).bind fun o=>some ((⟨0,0,false,0,[],(⟨[],[]⟩:aR),[],[],[]⟩:aH),o.1,o.2.1,o.2.2,k,c,d,e,f,g)) else none))))))
def mP(n:List aF)(o:List aJ)(i:List aG)(j:List aN)(b:List aK)(c:List aD)(d:List ((Int)×aH))(e:List ((Int)×bQ))(f:List ((Int)×aH))(x20:aU)(p:Bool):Option (aH×(List aF)×(List aJ)×(List aG)×(List aN)×(List aK)×(List aD)×(List ((Int)×aH))×(List ((Int)×bQ))×(List ((Int)×aH))):=
  if p=true then (if (x20.Kind == 1)=true then ((wN n o i j b c d x20).bind fun g=>some (g.1,g.2.1,g.2.2.1,i,j,g.2.2.2.1,g.2.2.2.2.1,g.2.2.2.2.2,e,f)) else (if (x20.Kind == 8)=true then ((wM b c d x20).bind fun k=>some (k.1,n,o,i,j,k.2.1,k.2.2.1,k.2.2.2,e,f)) else (if (x20.Kind == 9)=true then ((wL b c d x20).bind fun l=>some (l.1,n,o,i,j,l.2.1,l.2.2.1,l.2.2.2,e,f)) else (if (x20.Kind == 10)=true then ((zA b c d x20).bind fun m=>some (m.1,n,o,i,j,m.2.1,m.2.2.1,m.2.2.2,e,f)) else none)))) else (if (decide (x20.Kind ≥ 5))=true then (mO n o i j b c d e f x20 (sEq x20.Prefix (ByteArray.mk #[]))) else (mO n o i j b c d e f x20 false))
def mQ(g:List aF)(i:List aJ)(j:List aG)(k:List aN)(b:List aK)(c:List aD)(d:List ((Int)×aH))(e:List ((Int)×bQ))(f:List ((Int)×aH))(x20:aU)(l:Bool):Option (aH×(List aF)×(List aJ)×(List aG)×(List aN)×(List aK)×(List aD)×(List ((Int)×aH))×(List ((Int)×bQ))×(List ((Int)×aH))):=
  if l=true then ((dZ 1).bind fun m=>some (m,g,i,j,k,b,c,d,e,f)) else (if (x20.Kind == 1)=true then (mP g i j k b c d e f x20 (x20.Kind == 1)) else (mP g i j k b c d e f x20 (decide (x20.Kind ≥ 8))))
def cT(i:List aF)(j:List aJ)(k:List aG)(l:List aN)(c:List aK)(d:List aD)(e:List ((Int)×aH))(f:List ((Int)×bQ))(g:List ((Int)×aH))(x20:aU):Option (aH×(List aF)×(List aJ)×(List aG)×(List aN)×(List aK)×(List aD)×(List ((Int)×aH))×(List ((Int)×bQ))×(List ((Int)×aH))):=
  (tX x20).bind fun b=>if (!b)=true then (mQ i j k l c d e f g x20 (!b)) else (mQ i j k l c d e f g x20 (decide (x20.Kind > 10)))
theorem fA{G t u x:Nat}{X Y Z b0 J K n o p q:Value}{b1:List aF}{b2:List aJ}{b3:List aG}{b4:List aN}{L:List aK}{M:List aD}{z A:List ((Int)×aH)}{B:List ((Int)×bQ)}{x20:aU}(H:Sep w (Blk G 75 [X,Y,Z,b0,J,K,.map (some t),.map (some u),.map (some x)]::cG Tryz.prog 2 (kyI .i64) bJ true t z::cG Tryz.prog 2 (kyI .i64) dB true u B::cG Tryz.prog 2 (kyI .i64) bJ true x A::Fo) rs)(f:rSl aE X b1 ∈ rs)(g:rSl aI Y b2 ∈ rs)(k:rSl aT Z b3 ∈ rs)(e:rSl bH b0 b4 ∈ rs)(l:rSl bB J L ∈ rs)(m:rSl aO K M ∈ rs)(N:rSl cA n x20.Pieces ∈ rs)(b5:rSl aE o x20.Store.Nodes ∈ rs)(b6:rSl aI p x20.Store.Turns ∈ rs)(b7:rSl kS q x20.Gone ∈ rs)(O:u7 Tryz.prog ∈ rs){r:aH×(List aF)×(List aJ)×(List aG)×(List aN)×(List aK)×(List aD)×(List ((Int)×aH))×(List ((Int)×bQ))×(List ((Int)×aH))}(hm:cT b1 b2 b3 b4 L M z B A x20=some r) :
    Calls Tryz.prog 11 [pt G 0,.agg (aS x20 n o p q).toArray].toArray w (Ret fun v w'=>∃ j5 j6 j7 j8 j9 k0 k1 d3 d4 d5 d6 d7,.agg (bC r.1 j5 j6 j7 j8 j9 k0).toArray=v∧Sep w' (Blk G 75 [k1,d3,d4,d5,d6,d7,.map (some t),.map (some u),.map (some x)]::cG Tryz.prog 2 (kyI .i64) bJ true t r.2.2.2.2.2.2.2.1::cG Tryz.prog 2 (kyI .i64) dB true u r.2.2.2.2.2.2.2.2.1::cG Tryz.prog 2 (kyI .i64) bJ true x r.2.2.2.2.2.2.2.2.2::Fo) (rSl bF j5 r.1.Results::rSl aE j6 r.1.Store.Nodes::rSl aI j7 r.1.Store.Turns::rSl aX j8 r.1.Events::rSl bM j9 r.1.Mounts::rSl (kI .i64) k0 r.1.Wounded::rSl aE k1 r.2.1::rSl aI d3 r.2.2.1::rSl aT d4 r.2.2.2.1::rSl bH d5 r.2.2.2.2.1::rSl bB d6 r.2.2.2.2.2.1::rSl aO d7 r.2.2.2.2.2.2.1::rs)):=by
 unfold cT at hm
 refine ent Tryz.func11 rfl Tryz.ntmps11 rfl rfl fun a E=>sq<|bS E H (wn rfl) rfl rfl rfl rfl rfl fun C w a H E=>al E H rfl rfl rfl rfl gO fun D w a H E=>nx<|sv E rfl rfl rfl (cL E rfl (E.evs rfl) (v:=.agg #[.nilFunc,.func (.func 25) #[] #[],.func (.func 26) #[] #[],.func (.func 27) #[] #[],.func (.func 28) #[] #[],.func (.func 29) #[] #[],.func (.func 30) #[] #[],.func (.func 31) #[] #[],.func (.func 32) #[] #[],.func (.func 33) #[] #[],.func (.func 34) #[] #[]]) (by kernel_rfl)) fun a E=>al E H rfl rfl rfl rfl KU fun F w a H E=>bA (i:=0) E H (wn rfl) rfl rfl rfl rfl rfl rfl KV rfl rfl fun w H=>nt<|?_
 refine wp_seq<|wp_block<|aV (fun a w=>∃ b8 P,Env 46 a [(0,pt G 0),(3,pt C 0),(4,pt D 0),(5,pt F 0),(7,.bool b8)]∧Sep w (Blk G 75 [X,Y,Z,b0,J,K,.map (some t),.map (some u),.map (some x)]::Blk C 37 (aS x20 n o p q)::Blk D 48 bN::Blk F 89 [.nilFunc,.func (.func 25) #[] #[],.func (.func 26) #[] #[],.func (.func 27) #[] #[],.func (.func 28) #[] #[],.func (.func 29) #[] #[],.func (.func 30) #[] #[],.func (.func 31) #[] #[],.func (.func 32) #[] #[],.func (.func 33) #[] #[],.func (.func 34) #[] #[]]::cG Tryz.prog 2 (kyI .i64) bJ true t z::cG Tryz.prog 2 (kyI .i64) dB true u B::cG Tryz.prog 2 (kyI .i64) bJ true x A::Fo) P∧(∀ r,r ∈ rs→r ∈ P)∧mQ b1 b2 b3 b4 L M z B A x20 b8=some r) ?_ ?_
 ·refine sq<|sv E rfl rfl rfl (cC (i:=2) (us:=(aS x20 n o p q)) E H rfl rfl rfl rfl U37 rfl F3) fun a E=>bd hm fun n8 c5 hm=>xk E rfl rfl rfl rfl rfl KW (Fu H N b5 b6 b7 c5) fun w H a E=>pr 2 E rfl fun a E=>nt<|wif E hm rfl (fun hm=>?_) fun hm=>?_
  ·exact wp_skip<|aC<|have H:=H.frs [6,6,6,3,4,5,6] rfl;⟨_,_,E.to rfl,H,Y0,hm⟩
  ·exact wp_region_lit<|pr 1 E rfl fun a E=>lb E H 2 rfl rfl rfl rfl rfl rfl rfl U3 rfl fun a E=>pr 2 E rfl fun a E=>nt<|have H:=H.frs [6,6,6,3,4,5,6] rfl;⟨_,_,E.to rfl,H,Y0,hm⟩
 ·clear E H hm
  rintro a w ⟨b8,P,E,H,s,hm⟩
  unfold mQ at hm
  refine wif E hm rfl (fun hm=>?_) fun hm=>?_
  ·refine sq<|bd hm fun k2 d8 hm=>cF E rfl rfl rfl rfl rfl xN (eI H d8)<|?_
   rintro _ w ⟨k3,k4,k5,k6,k7,k8,rfl,H⟩ a E
   refine bA (i:=2) E H (wn rfl) rfl rfl rfl rfl rfl rfl bV rfl (bD H m0 mm1 mm2 mm3 mm4 mm5) fun w H=>nt<|wp_ret<|bW<|aP<|dT E rfl (dD (i:=2) (us:=(bC k2 k3 k4 k5 k6 k7 k8)) H rfl rfl rfl U48 rfl bV)<|have H:=H.drs [1,1,1];?_
   cases hm
   exact X12 ⟨rfl,H.reads (aA m0 (aA mm1 (aA mm2 (aA mm3 (aA mm4 (aA mm5 (aA (t6 (s _ f)) (aA (t6 (s _ g)) (aA (t6 (s _ k)) (aA (t6 (s _ e)) (aA (t6 (s _ l)) (aA (t6 (s _ m)) (fun r hr=>(t6 (s r hr)))))))))))))))⟩
  ·refine aV (fun a w=>∃ b9 Q,Env 46 a [(0,pt G 0),(3,pt C 0),(4,pt D 0),(5,pt F 0),(15,.bool b9)]∧Sep w (Blk G 75 [X,Y,Z,b0,J,K,.map (some t),.map (some u),.map (some x)]::Blk C 37 (aS x20 n o p q)::Blk D 48 bN::Blk F 89 [.nilFunc,.func (.func 25) #[] #[],.func (.func 26) #[] #[],.func (.func 27) #[] #[],.func (.func 28) #[] #[],.func (.func 29) #[] #[],.func (.func 30) #[] #[],.func (.func 31) #[] #[],.func (.func 32) #[] #[],.func (.func 33) #[] #[],.func (.func 34) #[] #[]]::cG Tryz.prog 2 (kyI .i64) bJ true t z::cG Tryz.prog 2 (kyI .i64) dB true u B::cG Tryz.prog 2 (kyI .i64) bJ true x A::Fo) Q∧(∀ r,r ∈ rs→r ∈ Q)∧mP b1 b2 b3 b4 L M z B A x20 b9=some r) ?_ ?_
   ·refine sq<|pr 1 E rfl fun a E=>lb E H 1 rfl rfl rfl rfl rfl rfl rfl U3 rfl fun a E=>pr 2 E rfl fun a E=>nt<|wif E hm rfl (fun hm=>?_) fun hm=>?_
    ·exact wp_skip<|aC<|⟨_,_,E.to rfl,H,s,hm⟩
    ·exact wp_region_lit<|pr 1 E rfl fun a E=>lb E H 1 rfl rfl rfl rfl rfl rfl rfl U3 rfl fun a E=>pr 2 E rfl fun a E=>nt<|⟨_,_,E.to rfl,H,s,hm⟩
   ·clear E H hm
    rintro a w ⟨b9,Q,E,H,c,hm⟩
    unfold mP at hm
    refine wif E hm rfl (fun hm=>?_) fun hm=>?_
    ·refine wp_seq<|dw [(0,0),(1,0),(2,0),(3,0),(4,0),(5,0),(6,1),(7,2)] [1,3] [] H (by kernel_rfl) (fun _ _ _ h=>False.elim h.2) fun w W0 hI H=>fn 1 E rfl fun a E=>fbn E (aS x20 n o p q) rfl (wn rfl) rfl rfl rfl rfl m0 rfl U37 rfl F3 fun a E=>fn 1 E rfl fun a E=>fb E rfl (wn rfl) rfl rfl rfl rfl m0 rfl U3 rfl fun a E=>cs hm (fun c0 hm=>?_) fun c0 hm=>?_
     ·refine bT E rfl (wn rfl) rfl rfl (fun w hW=>qU (j:=1) E rfl rfl rfl c0 rfl U89 N2) fun a E=>?_
      refine fb E rfl (wn rfl) rfl rfl rfl rfl mm1 rfl U88 rfl fun a E=>bY rfl<|have H:=H.frs [6,6,5,5,5,6,6] rfl;bd hm fun k9 d9 hm=>cF E rfl rfl rfl rfl rfl Pk (U1 H (c _ f) (c _ g) (c _ k) (c _ e) (c _ l) (c _ m) (c _ N) (c _ O) d9)<|?_
      rintro _ w ⟨l0,l1,l2,l3,l4,l5,p3,p4,p5,p6,rfl,H⟩ a E
      refine nt<|?_
      refine ⟨⟨_,_,H,(aB mm2 (aB mm4 (aL))),(aM)⟩,?_⟩
      refine bO rfl<|bA (i:=3) E H (wn rfl) rfl rfl rfl rfl rfl rfl bV rfl (bD H m0 mm1 mm2 mm3 mm4 mm5) fun w H=>nt<|bP<|?_
      clear hI
      refine aC<|wp_ret<|bW<|aP<|dT E rfl (dD (i:=3) (us:=(bC k9.1 l0 l1 l2 l3 l4 l5)) H rfl rfl rfl U48 rfl bV)<|have H:=H.drs [2,2,2];?_
      cases hm
      exact X12 ⟨rfl,H.reads (aA m0 (aA mm1 (aA mm2 (aA mm3 (aA mm4 (aA mm5 (aA mm6 (aA (t1 mm6) (aA (t2 (t8 (c _ k))) (aA (t2 (t8 (c _ e))) (aA (t2 mm6) (aA (t3 mm6) (fun r hr=>(t2 (t8 (c r hr))))))))))))))))⟩
     ·refine cs hm (fun c1 hm=>?_) fun c1 hm=>?_
      ·refine bT E rfl (wn rfl) rfl rfl (fun w hW=>qU (j:=8) E rfl rfl rfl c1 rfl U89 N2) fun a E=>?_
       refine fb E rfl (wn rfl) rfl rfl rfl rfl mm1 rfl U88 rfl fun a E=>bY rfl<|have H:=H.frs [6,6,5,5,5,6,6] rfl;bd hm fun l6 e0 hm=>cF E rfl rfl rfl rfl rfl Pk (T9 H (c _ l) (c _ m) e0)<|?_
       rintro _ w ⟨l7,l8,l9,m1,m2,m3,p7,p8,rfl,H⟩ a E
       refine nt<|?_
       refine ⟨⟨_,_,H,(aB mm2 (aB mm4 (aL))),(aM)⟩,?_⟩
       refine bO rfl<|bA (i:=3) E H (wn rfl) rfl rfl rfl rfl rfl rfl bV rfl (bD H m0 mm1 mm2 mm3 mm4 mm5) fun w H=>nt<|bP<|?_
       clear hI
       refine aC<|wp_ret<|bW<|aP<|dT E rfl (dD (i:=3) (us:=(bC l6.1 l7 l8 l9 m1 m2 m3)) H rfl rfl rfl U48 rfl bV)<|have H:=H.drs [2,2,2];?_
       cases hm
       exact X12 ⟨rfl,H.reads (aA m0 (aA mm1 (aA mm2 (aA mm3 (aA mm4 (aA mm5 (aA (t8 (c _ f)) (aA (t8 (c _ g)) (aA (t8 (c _ k)) (aA (t8 (c _ e)) (aA mm6 (aA (t1 mm6) (fun r hr=>(t8 (c r hr)))))))))))))))⟩
      ·refine cs hm (fun c2 hm=>?_) fun c2 hm=>?_
       ·refine bT E rfl (wn rfl) rfl rfl (fun w hW=>qU (j:=9) E rfl rfl rfl c2 rfl U89 N2) fun a E=>?_
        refine fb E rfl (wn rfl) rfl rfl rfl rfl mm1 rfl U88 rfl fun a E=>bY rfl<|have H:=H.frs [6,6,5,5,5,6,6] rfl;bd hm fun m4 e1 hm=>cF E rfl rfl rfl rfl rfl Pk (T8 H (c _ l) (c _ m) e1)<|?_
        rintro _ w ⟨m5,m6,m7,m8,m9,n0,p9,q0,rfl,H⟩ a E
        refine nt<|?_
        refine ⟨⟨_,_,H,(aB mm2 (aB mm4 (aL))),(aM)⟩,?_⟩
        refine bO rfl<|bA (i:=3) E H (wn rfl) rfl rfl rfl rfl rfl rfl bV rfl (bD H m0 mm1 mm2 mm3 mm4 mm5) fun w H=>nt<|bP<|?_
        clear hI
        refine aC<|wp_ret<|bW<|aP<|dT E rfl (dD (i:=3) (us:=(bC m4.1 m5 m6 m7 m8 m9 n0)) H rfl rfl rfl U48 rfl bV)<|have H:=H.drs [2,2,2];?_
        cases hm
        exact X12 ⟨rfl,H.reads (aA m0 (aA mm1 (aA mm2 (aA mm3 (aA mm4 (aA mm5 (aA (t8 (c _ f)) (aA (t8 (c _ g)) (aA (t8 (c _ k)) (aA (t8 (c _ e)) (aA mm6 (aA (t1 mm6) (fun r hr=>(t8 (c r hr)))))))))))))))⟩
       ·refine cs hm (fun c3 hm=>?_) fun c3 hm=>?_
        ·refine bT E rfl (wn rfl) rfl rfl (fun w hW=>qU (j:=10) E rfl rfl rfl c3 rfl U89 N2) fun a E=>?_
         refine fb E rfl (wn rfl) rfl rfl rfl rfl mm1 rfl U88 rfl fun a E=>bY rfl<|have H:=H.frs [6,6,5,5,5,6,6] rfl;bd hm fun n1 e2 hm=>cF E rfl rfl rfl rfl rfl Pk (Aj H (c _ l) (c _ m) e2)<|?_
         rintro _ w ⟨n2,n3,n4,n5,n6,n7,q1,q2,rfl,H⟩ a E
         refine nt<|?_
         refine ⟨⟨_,_,H,(aB mm2 (aB mm4 (aL))),(aM)⟩,?_⟩
         refine bO rfl<|bA (i:=3) E H (wn rfl) rfl rfl rfl rfl rfl rfl bV rfl (bD H m0 mm1 mm2 mm3 mm4 mm5) fun w H=>nt<|bP<|?_
         clear hI
         refine aC<|wp_ret<|bW<|aP<|dT E rfl (dD (i:=3) (us:=(bC n1.1 n2 n3 n4 n5 n6 n7)) H rfl rfl rfl U48 rfl bV)<|have H:=H.drs [2,2,2];?_
         cases hm
         exact X12 ⟨rfl,H.reads (aA m0 (aA mm1 (aA mm2 (aA mm3 (aA mm4 (aA mm5 (aA (t8 (c _ f)) (aA (t8 (c _ g)) (aA (t8 (c _ k)) (aA (t8 (c _ e)) (aA mm6 (aA (t1 mm6) (fun r hr=>(t8 (c r hr)))))))))))))))⟩
        ·exact (bU hm rfl).elim
    ·refine aV (fun a w=>∃ c4 I,Env 46 a [(0,pt G 0),(3,pt C 0),(4,pt D 0),(5,pt F 0),(29,.bool c4)]∧Sep w (Blk G 75 [X,Y,Z,b0,J,K,.map (some t),.map (some u),.map (some x)]::Blk C 37 (aS x20 n o p q)::Blk D 48 bN::Blk F 89 [.nilFunc,.func (.func 25) #[] #[],.func (.func 26) #[] #[],.func (.func 27) #[] #[],.func (.func 28) #[] #[],.func (.func 29) #[] #[],.func (.func 30) #[] #[],.func (.func 31) #[] #[],.func (.func 32) #[] #[],.func (.func 33) #[] #[],.func (.func 34) #[] #[]]::cG Tryz.prog 2 (kyI .i64) bJ true t z::cG Tryz.prog 2 (kyI .i64) dB true u B::cG Tryz.prog 2 (kyI .i64) bJ true x A::Fo) I∧(∀ r,r ∈ rs→r ∈ I)∧mO b1 b2 b3 b4 L M z B A x20 c4=some r) ?_ ?_
     ·refine wp_region_lit<|pr 1 E rfl fun a E=>lb E H 1 rfl rfl rfl rfl rfl rfl rfl U3 rfl fun a E=>pr 2 E rfl fun a E=>cs hm (fun y hm=>?_) fun y hm=>?_
      ·exact pk 1 E (kc 33 rfl y) rfl fun a E=>aQ E (ws' (d:=33) E rfl rfl rfl rfl y) rfl rfl (cD (i:=1) E H rfl rfl rfl rfl U9 rfl) fun a E=>pk 3 E (kc 33 rfl y) rfl fun a E=>nt<|⟨_,_,E.to rfl,H,c,hm⟩
      ·exact pk 5 E (kc 33 rfl y) rfl fun a E=>nt<|⟨_,_,E.to rfl,H,c,hm⟩
     ·clear E H hm
      rintro a w ⟨c4,I,E,H,b,hm⟩
      unfold mO at hm
      refine wif E hm rfl (fun hm=>?_) fun hm=>?_
      ·refine sq<|bd hm fun e3 c6 hm=>cF E rfl rfl rfl rfl rfl xN (eI H c6)<|?_
       rintro _ w ⟨e4,e5,e6,e7,e8,e9,rfl,H⟩ a E
       refine bA (i:=2) E H (wn rfl) rfl rfl rfl rfl rfl rfl bV rfl (bD H m0 mm1 mm2 mm3 mm4 mm5) fun w H=>nt<|wp_ret<|bW<|aP<|dT E rfl (dD (i:=2) (us:=(bC e3 e4 e5 e6 e7 e8 e9)) H rfl rfl rfl U48 rfl bV)<|have H:=H.drs [1,1,1];?_
       cases hm
       exact X12 ⟨rfl,H.reads (aA m0 (aA mm1 (aA mm2 (aA mm3 (aA mm4 (aA mm5 (aA (t6 (b _ f)) (aA (t6 (b _ g)) (aA (t6 (b _ k)) (aA (t6 (b _ e)) (aA (t6 (b _ l)) (aA (t6 (b _ m)) (fun r hr=>(t6 (b r hr)))))))))))))))⟩
      ·refine wp_skip<|bZ<|aC<|wp_seq<|dw [(0,0),(1,0),(2,0),(3,0),(4,0),(5,0),(6,1),(7,2)] [1,3] [] H (by kernel_rfl) (fun _ _ _ h=>False.elim h.2) fun w W0 hI H=>fn 1 E rfl fun a E=>fb E rfl (wn rfl) rfl rfl rfl rfl m0 rfl U3 rfl fun a E=>cs hm (fun R hm=>?_) fun R hm=>?_
       ·refine bT E rfl (wn rfl) rfl rfl (fun w hW=>qU (j:=2) E rfl rfl rfl R rfl U89 N2) fun a E=>?_
        refine fb E rfl (wn rfl) rfl rfl rfl rfl mm1 rfl U88 rfl fun a E=>fn 1 E rfl fun a E=>fbn E (aS x20 n o p q) rfl (wn rfl) rfl rfl rfl rfl m0 rfl U37 rfl F3 fun a E=>bY rfl<|have H:=H.frs [6,5,5,5,5,6,6] rfl;bd hm fun f0 c7 hm=>aW E (wn rfl) rfl rfl (bR E rfl rfl rfl (LX _)) (R7 H (b _ f) (b _ g) (b _ k) (b _ e) (b _ N) (b _ O) c7)<|?_
        rintro _ w ⟨f1,f2,f3,f4,f5,f6,n9,rfl,H⟩ a E
        refine nt<|?_
        refine ⟨⟨_,_,H,(aB mm2 (aB mm4 (aL))),(aM)⟩,?_⟩
        refine bO rfl<|bA (i:=3) E H (wn rfl) rfl rfl rfl rfl rfl rfl bV rfl (bD H m0 mm1 mm2 mm3 mm4 mm5) fun w H=>nt<|bP<|?_
        clear hI
        refine aC<|wp_ret<|dT E rfl (dD (i:=3) (us:=(bC f0.1 f1 f2 f3 f4 f5 f6)) H rfl rfl rfl U48 rfl bV)<|have H:=H.drs [2,2,2];have H:=H.frs [3,2,3,3] rfl;?_
        cases hm
        exact X12 ⟨rfl,H.reads (aA m0 (aA mm1 (aA mm2 (aA mm3 (aA mm4 (aA mm5 (aA (t7 (b _ f)) (aA (t7 (b _ g)) (aA (t7 (b _ k)) (aA mm6 (aA (t7 (b _ l)) (aA (t7 (b _ m)) (fun r hr=>(t7 (b r hr)))))))))))))))⟩
       ·refine cs hm (fun S hm=>?_) fun S hm=>?_
        ·refine bT E rfl (wn rfl) rfl rfl (fun w hW=>qU (j:=3) E rfl rfl rfl S rfl U89 N2) fun a E=>?_
         refine fb E rfl (wn rfl) rfl rfl rfl rfl mm1 rfl U88 rfl fun a E=>fn 1 E rfl fun a E=>fbn E (aS x20 n o p q) rfl (wn rfl) rfl rfl rfl rfl m0 rfl U37 rfl F3 fun a E=>bY rfl<|have H:=H.frs [6,5,5,5,5,6,6] rfl;bd hm fun f7 c8 hm=>aW E (wn rfl) rfl rfl (bR E rfl rfl rfl (LV _)) (T4 H (b _ f) (b _ g) (b _ e) (b _ l) (b _ m) (b _ O) c8)<|?_
         rintro _ w ⟨f8,f9,g0,g1,g2,g3,o0,o1,o2,o3,o4,rfl,H⟩ a E
         refine nt<|?_
         refine ⟨⟨_,_,H,(aB mm2 (aB mm4 (aL))),(aM)⟩,?_⟩
         refine bO rfl<|bA (i:=3) E H (wn rfl) rfl rfl rfl rfl rfl rfl bV rfl (bD H m0 mm1 mm2 mm3 mm4 mm5) fun w H=>nt<|bP<|?_
         clear hI
         refine aC<|wp_ret<|dT E rfl (dD (i:=3) (us:=(bC f7.1 f8 f9 g0 g1 g2 g3)) H rfl rfl rfl U48 rfl bV)<|have H:=H.drs [2,2,2];have H:=H.frs [3,2,3,3] rfl;?_
         cases hm
         exact X12 ⟨rfl,H.reads (aA m0 (aA mm1 (aA mm2 (aA mm3 (aA mm4 (aA mm5 (aA mm6 (aA (t1 mm6) (aA (t3 (t8 (b _ k))) (aA (t2 mm6) (aA (t3 mm6) (aA (t4 mm6) (fun r hr=>(t3 (t8 (b r hr))))))))))))))))⟩
        ·refine cs hm (fun T hm=>?_) fun T hm=>?_
         ·refine bT E rfl (wn rfl) rfl rfl (fun w hW=>qU (j:=4) E rfl rfl rfl T rfl U89 N2) fun a E=>?_
          refine fb E rfl (wn rfl) rfl rfl rfl rfl mm1 rfl U88 rfl fun a E=>fn 1 E rfl fun a E=>fbn E (aS x20 n o p q) rfl (wn rfl) rfl rfl rfl rfl m0 rfl U37 rfl F3 fun a E=>bY rfl<|have H:=H.frs [5,5,5,5,5,6,6] rfl;bd hm fun g4 c9 hm=>aW E (wn rfl) rfl rfl (bR E rfl rfl rfl (LU _)) (T3 H c9)<|?_
          rintro _ w ⟨g5,g6,g7,g8,g9,i0,rfl,H⟩ a E
          refine nt<|?_
          refine ⟨⟨_,_,H,(aB mm2 (aB mm4 (aL))),(aM)⟩,?_⟩
          refine bO rfl<|bA (i:=3) E H (wn rfl) rfl rfl rfl rfl rfl rfl bV rfl (bD H m0 mm1 mm2 mm3 mm4 mm5) fun w H=>nt<|bP<|?_
          clear hI
          refine aC<|wp_ret<|dT E rfl (dD (i:=3) (us:=(bC g4.1 g5 g6 g7 g8 g9 i0)) H rfl rfl rfl U48 rfl bV)<|have H:=H.drs [2,2,2];have H:=H.frs [1,3,3,3] rfl;?_
          cases hm
          exact X12 ⟨rfl,H.reads (aA m0 (aA mm1 (aA mm2 (aA mm3 (aA mm4 (aA mm5 (aA (t6 (b _ f)) (aA (t6 (b _ g)) (aA (t6 (b _ k)) (aA (t6 (b _ e)) (aA (t6 (b _ l)) (aA (t6 (b _ m)) (fun r hr=>(t6 (b r hr)))))))))))))))⟩
         ·refine cs hm (fun U hm=>?_) fun U hm=>?_
          ·refine bT E rfl (wn rfl) rfl rfl (fun w hW=>qU (j:=5) E rfl rfl rfl U rfl U89 N2) fun a E=>?_
           refine fb E rfl (wn rfl) rfl rfl rfl rfl mm1 rfl U88 rfl fun a E=>fn 1 E rfl fun a E=>fbn E (aS x20 n o p q) rfl (wn rfl) rfl rfl rfl rfl m0 rfl U37 rfl F3 fun a E=>bY rfl<|bd hm fun i1 d0 hm=>aW E (wn rfl) rfl rfl (bR E rfl rfl rfl (LS _)) (T7 H (b _ f) (b _ g) (b _ k) (b _ e) d0)<|?_
           rintro _ w ⟨i2,i3,i4,i5,i6,i7,o5,rfl,H⟩ a E
           refine nt<|?_
           refine ⟨⟨_,_,H,(aB mm1 (aB mm3 (aL))),(aM)⟩,?_⟩
           refine bO rfl<|bA (i:=2) E H (wn rfl) rfl rfl rfl rfl rfl rfl bV rfl (bD H m0 mm1 mm2 mm3 mm4 mm5) fun w H=>nt<|bP<|?_
           clear hI
           refine aC<|wp_ret<|dT E rfl (dD (i:=2) (us:=(bC i1.1 i2 i3 i4 i5 i6 i7)) H rfl rfl rfl U48 rfl bV)<|have H:=H.drs [1,1,1];?_
           cases hm
           exact X12 ⟨rfl,H.reads (aA m0 (aA mm1 (aA mm2 (aA mm3 (aA mm4 (aA mm5 (aA (t7 (b _ f)) (aA (t7 (b _ g)) (aA mm6 (aA (t7 (b _ e)) (aA (t7 (b _ l)) (aA (t7 (b _ m)) (fun r hr=>(t7 (b r hr)))))))))))))))⟩
          ·refine cs hm (fun V hm=>?_) fun V hm=>?_
           ·refine bT E rfl (wn rfl) rfl rfl (fun w hW=>qU (j:=6) E rfl rfl rfl V rfl U89 N2) fun a E=>?_
            refine fb E rfl (wn rfl) rfl rfl rfl rfl mm1 rfl U88 rfl fun a E=>fn 1 E rfl fun a E=>fbn E (aS x20 n o p q) rfl (wn rfl) rfl rfl rfl rfl m0 rfl U37 rfl F3 fun a E=>bY rfl<|bd hm fun i8 d1 hm=>aW E (wn rfl) rfl rfl (bR E rfl rfl rfl (LM _)) (R3 H (b _ f) (b _ g) (b _ k) (b _ e) (b _ b5) (b _ b6) (b _ b7) d1)<|?_
            rintro _ w ⟨i9,j0,j1,j2,j3,j4,o6,o7,o8,rfl,H⟩ a E
            refine nt<|?_
            refine ⟨⟨_,_,H,(aB mm1 (aB mm3 (aL))),(aM)⟩,?_⟩
            refine bO rfl<|bA (i:=2) E H (wn rfl) rfl rfl rfl rfl rfl rfl bV rfl (bD H m0 mm1 mm2 mm3 mm4 mm5) fun w H=>nt<|bP<|?_
            clear hI
            refine aC<|wp_ret<|dT E rfl (dD (i:=2) (us:=(bC i8.1 i9 j0 j1 j2 j3 j4)) H rfl rfl rfl U48 rfl bV)<|have H:=H.drs [1,1,1];?_
            cases hm
            exact X12 ⟨rfl,H.reads (aA m0 (aA mm1 (aA mm2 (aA mm3 (aA mm4 (aA mm5 (aA mm6 (aA (t1 mm6) (aA (t2 mm6) (aA (t1 (t8 (b _ e))) (aA (t1 (t8 (b _ l))) (aA (t1 (t8 (b _ m))) (fun r hr=>(t1 (t8 (b r hr))))))))))))))))⟩
           ·refine cs hm (fun W hm=>?_) fun W hm=>?_
            ·refine bT E rfl (wn rfl) rfl rfl (fun w hW=>qU (j:=7) E rfl rfl rfl W rfl U89 N2) fun a E=>?_
             refine fb E rfl (wn rfl) rfl rfl rfl rfl mm1 rfl U88 rfl fun a E=>fn 1 E rfl fun a E=>fbn E (aS x20 n o p q) rfl (wn rfl) rfl rfl rfl rfl m0 rfl U37 rfl F3 fun a E=>bY rfl<|bd hm fun o9 d2 hm=>aW E (wn rfl) rfl rfl (bR E rfl rfl rfl (LJ _)) (Aa H (b _ f) (b _ g) (b _ k) d2)<|?_
             rintro _ w ⟨p0,p1,p2,rfl,H⟩ a E
             refine nt<|?_
             refine ⟨⟨_,_,H,(aB mm1 (aB mm3 (aL))),(aM)⟩,?_⟩
             refine bO rfl<|bA (i:=2) E H (wn rfl) rfl rfl rfl rfl rfl rfl bV rfl rfl fun w H=>nt<|bP<|?_
             clear hI
             refine aC<|wp_ret<|dT E rfl (dD (i:=2) (us:=bN) H rfl rfl rfl U48 rfl bV)<|have H:=H.nilSl bF;have H:=H.nilSl aE;have H:=H.nilSl aI;have H:=H.nilSl aX;have H:=H.nilSl bM;have H:=H.nilSl (kI .i64);?_
             refine have H:=H.drs [1,1,1];?_
             cases hm
             exact X12 ⟨rfl,H.reads (aA mm5 (aA mm4 (aA mm3 (aA mm2 (aA mm1 (aA m0 (aA mm6 (aA (t1 mm6) (aA (t2 mm6) (aA (t1 (t8 (b _ e))) (aA (t1 (t8 (b _ l))) (aA (t1 (t8 (b _ m))) (fun r hr=>(t1 (t8 (b r hr))))))))))))))))⟩
            ·exact (bU hm rfl).elim

def mR(b:List aN):Option (List aN):=
  (ck (b.length ≤ LIM)).bind fun c=>some (b)
theorem B3{k:Nat}{l b c d e f g i j:Value}{o:List aN}(H:Sep w (Blk k 75 [b,c,d,l,e,f,g,i,j]::Fo) rs)(m:rSl bH l o ∈ rs){r:(List aN)}(hm:mR o=some r) :
    Calls Tryz.prog 17 [pt k 0].toArray w (Ret fun v w'=>∃ p,p=v∧Sep w' (Row 103 bH p r::Blk k 75 [b,c,d,l,e,f,g,i,j]::Fo) (rs)):=by
 unfold mR at hm
 refine ent Tryz.func17 rfl Tryz.ntmps17 rfl rfl fun a E=>sq<|pr 1 E rfl fun a E=>nx<|pr 3 E rfl fun a E=>lb E H 0 rfl rfl rfl rfl rfl rfl rfl U62 rfl fun a E=>bk hm fun n hm=>aW E (wn rfl) rfl rfl (cB E rfl rfl (Vi _)) (kT H m n) fun q w H a E=>pr 1 E rfl fun a E=>?_
 refine nt<|wp_ret<|aY E rfl rfl<|?_
 cases hm
 exact ⟨_,rfl,H.reads Y0⟩

def wO(b:List aG):Option (List aG):=
  (ck (b.length ≤ LIM)).bind fun c=>some (b)
theorem U5{k:Nat}{l b c d e f g i j:Value}{o:List aG}(H:Sep w (Blk k 75 [b,c,l,d,e,f,g,i,j]::Fo) rs)(m:rSl aT l o ∈ rs){r:(List aG)}(hm:wO o=some r) :
    Calls Tryz.prog 19 [pt k 0].toArray w (Ret fun v w'=>∃ p,p=v∧Sep w' (Row 31 aT p r::Blk k 75 [b,c,l,d,e,f,g,i,j]::Fo) (rs)):=by
 unfold wO at hm
 refine ent Tryz.func19 rfl Tryz.ntmps19 rfl rfl fun a E=>sq<|pr 1 E rfl fun a E=>nx<|pr 3 E rfl fun a E=>lb E H 0 rfl rfl rfl rfl rfl rfl rfl U32 rfl fun a E=>bk hm fun n hm=>aW E (wn rfl) rfl rfl (cB E rfl rfl (DP _)) (oT H m n) fun q w H a E=>pr 1 E rfl fun a E=>?_
 refine nt<|wp_ret<|aY E rfl rfl<|?_
 cases hm
 exact ⟨_,rfl,H.reads Y0⟩

def fO(b:List aF)(c:List aJ):Option aR:=
  (ck (b.length ≤ LIM)).bind fun d=>(ck (c.length ≤ LIM)).bind fun e=>some ((⟨b,c⟩:aR))
theorem tC{o:Nat}{p q d e f g j k l:Value}{b:List aF}{c:List aJ}(H:Sep w (Blk o 75 [p,q,d,e,f,g,j,k,l]::Fo) rs)(s:rSl aE p b ∈ rs)(t:rSl aI q c ∈ rs){r:aR}(hm:fO b c=some r) :
    Calls Tryz.prog 13 [pt o 0].toArray w (Ret fun v w'=>∃ y z,.agg #[y,z]=v∧Sep w' (Blk o 75 [p,q,d,e,f,g,j,k,l]::Fo) (rSl aE y r.Nodes::rSl aI z r.Turns::rs)):=by
 unfold fO at hm
 refine ent Tryz.func13 rfl Tryz.ntmps13 rfl rfl fun a E=>sq<|al E H rfl rfl rfl rfl lF fun A w a H E=>nt<|wp_seq<|dw [(0,0),(1,0),(2,0),(3,0),(4,0),(6,0),(7,0),(8,0),(9,0),(10,0),(5,1),(11,1),(12,0),(13,2)] [1] [] H (by kernel_rfl) (fun _ _ _ h=>False.elim h.2) fun w W0 hI H=>fn 4 E rfl fun a E=>fb E rfl (wn rfl) rfl rfl rfl rfl m0 rfl U22 rfl fun a E=>fn 4 E rfl fun a E=>?_
 refine fb E rfl (wn rfl) rfl rfl rfl rfl m0 rfl U23 rfl fun a E=>bY rfl<|bk hm fun u hm=>aW E (wn rfl) rfl rfl (cB E rfl rfl (DG _)) (pV H s u) fun B w H a E=>nt<|?_
 refine ⟨⟨_,_,H,(aB mm2 (aL)),(aM)⟩,?_⟩
 refine bY rfl<|bk hm fun x hm=>aW E (wn rfl) rfl rfl (cB E rfl rfl (DH _)) (pW H t x) fun C w H a E=>nt<|?_
 refine ⟨⟨_,_,H,(aB mm3 (aL)),(aM)⟩,?_⟩
 obtain ⟨q36,m,rfl⟩:=H.rowform (i:=1) rfl
 obtain ⟨q38,n,rfl⟩:=H.rowform (i:=0) rfl
 refine bT E rfl (wn rfl) rfl rfl (fun w hW=>(cL E rfl (E.evs rfl) (v:=.agg #[(.slice q36 b.length m),(.slice q38 c.length n)]) (by kernel_rfl))) fun a E=>?_
 refine bO rfl<|bA (i:=2) E H (wn rfl) rfl rfl rfl rfl rfl rfl dJ rfl rfl fun w H=>nt<|bP<|?_
 clear hI
 refine aC<|wp_ret<|dT E rfl (dD (i:=2) (us:=[(.slice q36 b.length m),(.slice q38 c.length n)]) H rfl rfl rfl U25 rfl dJ)<|have H:=H.thaw (i:=1) rfl;have H:=H.thaw (i:=0) rfl;have H:=H.drop 0;?_
 cases hm
 exact ⟨_,_,rfl,H.reads (aA mm1 (aA m0 (fun r hr=>(t2 hr))))⟩

def zD:Option Bool:=
  yS.bind fun u=>Db u (some (false)) fun j=>(jL (ByteArray.mk #[47,97])).bind fun p=>(cT j.1 j.2.1 j.2.2 ([]:List aN) ([]:List aK) ([]:List aD) [] [] [] (⟨1,1,0,0,false,p,(ByteArray.mk #[]),0,0,(⟨[],[]⟩:aR),[],(⟨0,0,(ByteArray.mk #[]),false⟩:aK)⟩:aU)).bind fun d=>(jL (ByteArray.mk #[47,97])).bind fun q=>(cT d.2.1 d.2.2.1 d.2.2.2.1 d.2.2.2.2.1 d.2.2.2.2.2.1 d.2.2.2.2.2.2.1 d.2.2.2.2.2.2.2.1 d.2.2.2.2.2.2.2.2.1 d.2.2.2.2.2.2.2.2.2 (⟨1,1,0,0,false,q,(ByteArray.mk #[]),0,0,(⟨[],[]⟩:aR),[],(⟨0,0,(ByteArray.mk #[]),false⟩:aK)⟩:aU)).bind fun c=>(jL (ByteArray.mk #[47,97,47,98])).bind fun s=>(cT c.2.1 c.2.2.1 c.2.2.2.1 c.2.2.2.2.1 c.2.2.2.2.2.1 c.2.2.2.2.2.2.1 c.2.2.2.2.2.2.2.1 c.2.2.2.2.2.2.2.2.1 c.2.2.2.2.2.2.2.2.2 (⟨2,0,5,1,false,s,(ByteArray.mk #[]),0,0,(⟨[],[]⟩:aR),[],(⟨0,0,(ByteArray.mk #[]),false⟩:aK)⟩:aU)).bind fun e=>(jL (ByteArray.mk #[47,97,47,99])).bind fun t=>(cT e.2.1 e.2.2.1 e.2.2.2.1 e.2.2.2.2.1 e.2.2.2.2.2.1 e.2.2.2.2.2.2.1 e.2.2.2.2.2.2.2.1 e.2.2.2.2.2.2.2.2.1 e.2.2.2.2.2.2.2.2.2 (⟨1,2,0,0,false,t,(ByteArray.mk #[]),0,0,(⟨[],[]⟩:aR),[],(⟨0,0,(ByteArray.mk #[]),false⟩:aK)⟩:aU)).bind fun f=>(cT f.2.1 f.2.2.1 f.2.2.2.1 f.2.2.2.2.1 f.2.2.2.2.2.1 f.2.2.2.2.2.2.1 f.2.2.2.2.2.2.2.1 f.2.2.2.2.2.2.2.2.1 f.2.2.2.2.2.2.2.2.2 (⟨3,0,5,0,true,[],(ByteArray.mk #[]),0,0,(⟨[],[]⟩:aR),[],(⟨0,0,(ByteArray.mk #[]),false⟩:aK)⟩:aU)).bind fun g=>(cT g.2.1 g.2.2.1 g.2.2.2.1 g.2.2.2.2.1 g.2.2.2.2.2.1 g.2.2.2.2.2.2.1 g.2.2.2.2.2.2.2.1 g.2.2.2.2.2.2.2.2.1 g.2.2.2.2.2.2.2.2.2 (⟨5,0,0,0,false,[],(ByteArray.mk #[47,97]),1,0,(⟨[],[]⟩:aR),[],(⟨0,0,(ByteArray.mk #[]),false⟩:aK)⟩:aU)).bind fun b=>(jL (ByteArray.mk #[47,97,47,100])).bind fun k=>(cT b.2.1 b.2.2.1 b.2.2.2.1 b.2.2.2.2.1 b.2.2.2.2.2.1 b.2.2.2.2.2.2.1 b.2.2.2.2.2.2.2.1 b.2.2.2.2.2.2.2.2.1 b.2.2.2.2.2.2.2.2.2 (⟨1,3,0,0,false,k,(ByteArray.mk #[]),0,0,(⟨[],[]⟩:aR),[],(⟨0,0,(ByteArray.mk #[]),false⟩:aK)⟩:aU)).bind fun i=>if (d.1.Err == 0)=true then (if (c.1.Err == 0)=true then (if ((c.1.Results.length:Int) == 2)=true then (if e.1.Yes=true then (if (f.1.Err == 131)=true then (if (g.1.Err == 0)=true then ((fO i.2.1 i.2.2.1).bind fun l=>if ((l.Nodes.length:Int) == 3)=true then (if (b.1.Epoch == 1)=true then (if ((b.1.Store.Nodes.length:Int) == 1)=true then (if (i.1.Err == 131)=true then ((wO i.2.2.2.1).bind fun m=>if ((m.length:Int) == 2)=true then ((mR i.2.2.2.2.1).bind fun n=>if ((n.length:Int) == 0)=true then ((D7 (⟨[],[]⟩:aR) ([(⟨(ByteArray.mk #[]),0,0⟩:aG)]:List aG)).bind fun o=>Db o (some (true)) fun v=>some (false)) else (some (false))) else (some (false))) else (some (false))) else (some (false))) else (some (false))) else (some (false))) else (some (false))) else (some (false))) else (some (false))) else (some (false))) else (some (false))) else (some (false))
theorem An(H:Sep w (Fo) rs)(D:u7 Tryz.prog ∈ rs){r:Bool}(hm:zD=some r) :
    Calls Tryz.prog 6 [].toArray w (Ret fun v w'=>.bool r=v∧Sep w' (Fo) (rs)):=by
 unfold zD at hm
 refine ent Tryz.func6 rfl Tryz.ntmps6 rfl rfl fun a E=>sq<|pr 1 E rfl fun a E=>nx<|bd hm fun o8 m4 hm=>cF E rfl rfl rfl rfl rfl BB (E6 H m4)<|?_
 rintro _ w (⟨rfl,rfl,H⟩ | ⟨F,rfl,i6,m5,m6,m7,S,T,C,rfl,H⟩) a E
 ·replace hm:=Et hm
  refine pr 1 E rfl fun a E=>nt<|wp_seq<|sq<|pr 1 E rfl fun a E=>sv E rfl rfl rfl (uX E rfl rfl rfl (v:=.bool true) (by kernel_rfl)) fun a E=>nt<|wp_cond_true (E.eval rfl)<|sq<|?_
  refine pr 1 E rfl fun a E=>nt<|wp_ret<|aP<|aY E rfl rfl<|?_
  cases hm
  exact ⟨rfl,H.reads Y0⟩
 ·replace hm:=Eu hm
  refine pr 1 E rfl fun a E=>nt<|wp_seq<|sq<|pr 1 E rfl fun a E=>sv E rfl rfl rfl (uX E rfl rfl rfl (v:=.bool false) (by kernel_rfl)) fun a E=>nt<|wp_cond_false (E.eval rfl)<|wp_skip<|?_
  refine aC<|sq<|pr 1 E rfl fun a E=>bd hm fun G k1 hm=>cF E rfl rfl rfl rfl rfl Kv (oI H k1)<|?_
  rintro _ w ⟨o4,rfl,H⟩ a E
  obtain ⟨q15,c3,rfl⟩:=H.rowform (i:=0) rfl
  refine sv E rfl rfl rfl (cL E rfl (E.evs rfl) (v:=.agg #[.int .i64 1,.int .i64 1,.int .i64 0,.int .i64 0,.bool false,(.slice q15 G.length c3),.string (ByteArray.mk #[]),.int .i64 0,.int .i64 0,.slice none 0 0,.slice none 0 0,.slice none 0 0,.int .i64 0,.int .i64 0,.string (ByteArray.mk #[]),.bool false]) (by kernel_rfl)) fun a E=>have H:=H.thaw (i:=0) rfl;have H:=H.nilSl aE;have H:=H.nilSl aI;have H:=H.nilSl kS;have H:=H.nilSl bH;have H:=H.nilSl bB;have H:=H.nilSl aO;bd hm fun b k2 hm=>?_
  refine cF E rfl rfl rfl rfl rfl B9 (fA (x20:=(⟨1,1,0,0,false,G,(ByteArray.mk #[]),0,0,(⟨[],[]⟩:aR),[],(⟨0,0,(ByteArray.mk #[]),false⟩:aK)⟩:aU)) H (t1 mm6) (t2 mm6) (t3 mm6) mm2 mm1 m0 mm6 mm5 mm4 mm3 (t2 (t8 D)) k2)<|?_
  rintro _ w ⟨I,J,K,L,M,N,c4,c5,c6,c7,c8,c9,rfl,H⟩ a E
  refine al E H rfl rfl rfl rfl gO fun c2 w a H E=>bA (i:=0) E H (wn rfl) rfl rfl rfl rfl rfl rfl bV rfl (bD H m0 mm1 mm2 mm3 mm4 mm5) fun w H=>?_
  replace H:Sep w (Blk c2 48 (bC b.1 I J K L M N)::Blk i6 75 [c4,c5,c6,c7,c8,c9,.map (some S),.map (some T),.map (some C)]::cG Tryz.prog 2 (kyI .i64) bJ true S b.2.2.2.2.2.2.2.1::cG Tryz.prog 2 (kyI .i64) dB true T b.2.2.2.2.2.2.2.2.1::cG Tryz.prog 2 (kyI .i64) bJ true C b.2.2.2.2.2.2.2.2.2::Fo) _:=H
  refine nx<|pr 1 E rfl fun a E=>bd hm fun O k3 hm=>cF E rfl rfl rfl rfl rfl Kv (oI H k3)<|?_
  rintro _ w ⟨o5,rfl,H⟩ a E
  obtain ⟨q35,d0,rfl⟩:=H.rowform (i:=0) rfl
  refine sv E rfl rfl rfl (cL E rfl (E.evs rfl) (v:=.agg #[.int .i64 1,.int .i64 1,.int .i64 0,.int .i64 0,.bool false,(.slice q35 O.length d0),.string (ByteArray.mk #[]),.int .i64 0,.int .i64 0,.slice none 0 0,.slice none 0 0,.slice none 0 0,.int .i64 0,.int .i64 0,.string (ByteArray.mk #[]),.bool false]) (by kernel_rfl)) fun a E=>have H:=H.thaw (i:=0) rfl;have H:=H.nilSl aE;have H:=H.nilSl aI;have H:=H.nilSl kS;have H:=H.frs [0,4,4,4,4] rfl;bd hm fun f k4 hm=>cF E rfl rfl rfl rfl rfl B9 (fA (x20:=(⟨1,1,0,0,false,O,(ByteArray.mk #[]),0,0,(⟨[],[]⟩:aR),[],(⟨0,0,(ByteArray.mk #[]),false⟩:aK)⟩:aU)) H (t4 mm6) (t5 mm6) (t6 mm6) (t7 mm6) (t8 mm6) (t1 (t8 mm6)) mm3 mm2 mm1 m0 (t2 (t8 (t8 (t8 D)))) k4)<|?_
  rintro _ w ⟨U,V,W,X,Y,Z,j4,j5,j6,j7,j8,j9,rfl,H⟩ a E
  refine al E H rfl rfl rfl rfl gO fun d1 w a H E=>bA (i:=0) E H (wn rfl) rfl rfl rfl rfl rfl rfl bV rfl (bD H m0 mm1 mm2 mm3 mm4 mm5) fun w H=>nx<|pr 1 E rfl fun a E=>bd hm fun P k5 hm=>cF E rfl rfl rfl rfl rfl Kv (oI H k5)<|?_
  rintro _ w ⟨o6,rfl,H⟩ a E
  obtain ⟨q55,d2,rfl⟩:=H.rowform (i:=0) rfl
  refine sv E rfl rfl rfl (cL E rfl (E.evs rfl) (v:=.agg #[.int .i64 2,.int .i64 0,.int .i64 5,.int .i64 1,.bool false,(.slice q55 P.length d2),.string (ByteArray.mk #[]),.int .i64 0,.int .i64 0,.slice none 0 0,.slice none 0 0,.slice none 0 0,.int .i64 0,.int .i64 0,.string (ByteArray.mk #[]),.bool false]) (by kernel_rfl)) fun a E=>have H:=H.thaw (i:=0) rfl;have H:=H.nilSl aE;have H:=H.nilSl aI;have H:=H.nilSl kS;have H:=H.frs [5,1,5,5,5,5] rfl;bd hm fun c k6 hm=>cF E rfl rfl rfl rfl rfl B9 (fA (x20:=(⟨2,0,5,1,false,P,(ByteArray.mk #[]),0,0,(⟨[],[]⟩:aR),[],(⟨0,0,(ByteArray.mk #[]),false⟩:aK)⟩:aU)) H (t4 mm6) (t5 mm6) (t6 mm6) (t7 mm6) (t8 mm6) (t1 (t8 mm6)) mm3 mm2 mm1 m0 (t2 (t8 (t8 (t8 (t8 (t8 D)))))) k6)<|?_
  rintro _ w ⟨b0,b1,b2,b3,b4,b5,d3,d4,d5,d6,d7,d8,rfl,H⟩ a E
  refine al E H rfl rfl rfl rfl gO fun d9 w a H E=>bA (i:=0) E H (wn rfl) rfl rfl rfl rfl rfl rfl bV rfl (bD H m0 mm1 mm2 mm3 mm4 mm5) fun w H=>nx<|pr 1 E rfl fun a E=>bd hm fun Q k7 hm=>cF E rfl rfl rfl rfl rfl Kv (oI H k7)<|?_
  rintro _ w ⟨o7,rfl,H⟩ a E
  obtain ⟨q75,e0,rfl⟩:=H.rowform (i:=0) rfl
  refine sv E rfl rfl rfl (cL E rfl (E.evs rfl) (v:=.agg #[.int .i64 1,.int .i64 2,.int .i64 0,.int .i64 0,.bool false,(.slice q75 Q.length e0),.string (ByteArray.mk #[]),.int .i64 0,.int .i64 0,.slice none 0 0,.slice none 0 0,.slice none 0 0,.int .i64 0,.int .i64 0,.string (ByteArray.mk #[]),.bool false]) (by kernel_rfl)) fun a E=>have H:=H.thaw (i:=0) rfl;have H:=H.nilSl aE;have H:=H.nilSl aI;have H:=H.nilSl kS;have H:=H.frs [6,6,2,6,6,6,6] rfl;?_
  replace H:Sep w (Blk i6 75 [d3,d4,d5,d6,d7,d8,.map (some S),.map (some T),.map (some C)]::cG Tryz.prog 2 (kyI .i64) bJ true S c.2.2.2.2.2.2.2.1::cG Tryz.prog 2 (kyI .i64) dB true T c.2.2.2.2.2.2.2.2.1::cG Tryz.prog 2 (kyI .i64) bJ true C c.2.2.2.2.2.2.2.2.2::Blk d9 48 (bC c.1 b0 b1 b2 b3 b4 b5)::Blk d1 48 (bC f.1 U V W X Y Z)::Blk c2 48 (bC b.1 I J K L M N)::Fo) (rSl kS (.slice none 0 0) ([]:List ByteArray)::rSl aI (.slice none 0 0) ([]:List aJ)::rSl aE (.slice none 0 0) ([]:List aF)::rSl cA (.slice q75 Q.length e0) Q::rSl bF b0 c.1.Results::rSl aE b1 c.1.Store.Nodes::rSl aI b2 c.1.Store.Turns::rSl aX b3 c.1.Events::rSl bM b4 c.1.Mounts::rSl (kI .i64) b5 c.1.Wounded::rSl aE d3 c.2.1::rSl aI d4 c.2.2.1::rSl aT d5 c.2.2.2.1::rSl bH d6 c.2.2.2.2.1::rSl bB d7 c.2.2.2.2.2.1::rSl aO d8 c.2.2.2.2.2.2.1::rSl kS (.slice none 0 0) ([]:List ByteArray)::rSl aI (.slice none 0 0) ([]:List aJ)::rSl aE (.slice none 0 0) ([]:List aF)::rSl cA (.slice q55 P.length d2) P::rSl bF U f.1.Results::rSl aE V f.1.Store.Nodes::rSl aI W f.1.Store.Turns::rSl aX X f.1.Events::rSl bM Y f.1.Mounts::rSl (kI .i64) Z f.1.Wounded::rSl aE j4 f.2.1::rSl aI j5 f.2.2.1::rSl aT j6 f.2.2.2.1::rSl bH j7 f.2.2.2.2.1::rSl bB j8 f.2.2.2.2.2.1::rSl aO j9 f.2.2.2.2.2.2.1::rSl kS (.slice none 0 0) ([]:List ByteArray)::rSl aI (.slice none 0 0) ([]:List aJ)::rSl aE (.slice none 0 0) ([]:List aF)::rSl cA (.slice q35 O.length d0) O::rSl bF I b.1.Results::rSl aE J b.1.Store.Nodes::rSl aI K b.1.Store.Turns::rSl aX L b.1.Events::rSl bM M b.1.Mounts::rSl (kI .i64) N b.1.Wounded::rSl aE c4 b.2.1::rSl aI c5 b.2.2.1::rSl aT c6 b.2.2.2.1::rSl bH c7 b.2.2.2.2.1::rSl bB c8 b.2.2.2.2.2.1::rSl aO c9 b.2.2.2.2.2.2.1::rSl aO (.slice none 0 0) ([]:List aD)::rSl bB (.slice none 0 0) ([]:List aK)::rSl bH (.slice none 0 0) ([]:List aN)::rSl kS (.slice none 0 0) ([]:List ByteArray)::rSl aI (.slice none 0 0) ([]:List aJ)::rSl aE (.slice none 0 0) ([]:List aF)::rSl cA (.slice q15 G.length c3) G::rSl aE m5 F.1::rSl aI m6 F.2.1::rSl aT m7 F.2.2::rs):=H
  refine bd hm fun l k8 hm=>cF E rfl rfl rfl rfl rfl B9 (fA (x20:=(⟨1,2,0,0,false,Q,(ByteArray.mk #[]),0,0,(⟨[],[]⟩:aR),[],(⟨0,0,(ByteArray.mk #[]),false⟩:aK)⟩:aU)) H (t4 mm6) (t5 mm6) (t6 mm6) (t7 mm6) (t8 mm6) (t1 (t8 mm6)) mm3 mm2 mm1 m0 (t2 (t8 (t8 (t8 (t8 (t8 (t8 (t8 D)))))))) k8)<|?_
  rintro _ w ⟨e1,e2,e3,e4,e5,e6,m8,m9,n0,n1,n2,n3,rfl,H⟩ a E
  refine al E H rfl rfl rfl rfl gO fun k0 w a H E=>bA (i:=0) E H (wn rfl) rfl rfl rfl rfl rfl rfl bV rfl (bD H m0 mm1 mm2 mm3 mm4 mm5) fun w H=>nx<|pr 1 E rfl fun a E=>sv E rfl rfl rfl (cL E rfl (E.evs rfl) (v:=.agg #[.int .i64 3,.int .i64 0,.int .i64 5,.int .i64 0,.bool true,.slice none 0 0,.string (ByteArray.mk #[]),.int .i64 0,.int .i64 0,.slice none 0 0,.slice none 0 0,.slice none 0 0,.int .i64 0,.int .i64 0,.string (ByteArray.mk #[]),.bool false]) (by kernel_rfl)) fun a E=>have H:=H.nilSl cA;have H:=H.nilSl aE;have H:=H.nilSl aI;have H:=H.nilSl kS;?_
  refine have H:=H.frs [7,7,7,3,7,7,7,7] rfl;bd hm fun m k9 hm=>cF E rfl rfl rfl rfl rfl B9 (fA (x20:=(⟨3,0,5,0,true,[],(ByteArray.mk #[]),0,0,(⟨[],[]⟩:aR),[],(⟨0,0,(ByteArray.mk #[]),false⟩:aK)⟩:aU)) H (t4 mm6) (t5 mm6) (t6 mm6) (t7 mm6) (t8 mm6) (t1 (t8 mm6)) mm3 mm2 mm1 m0 (t2 (t8 (t8 (t8 (t8 (t8 (t8 (t8 (t8 (t8 D)))))))))) k9)<|?_
  rintro _ w ⟨e7,e8,e9,f0,f1,f2,l0,l1,l2,l3,l4,l5,rfl,H⟩ a E
  refine al E H rfl rfl rfl rfl gO fun f3 w a H E=>bA (i:=0) E H (wn rfl) rfl rfl rfl rfl rfl rfl bV rfl (bD H m0 mm1 mm2 mm3 mm4 mm5) fun w H=>nx<|pr 1 E rfl fun a E=>sv E rfl rfl rfl (cL E rfl (E.evs rfl) (v:=.agg #[.int .i64 5,.int .i64 0,.int .i64 0,.int .i64 0,.bool false,.slice none 0 0,.string (ByteArray.mk #[47,97]),.int .i64 1,.int .i64 0,.slice none 0 0,.slice none 0 0,.slice none 0 0,.int .i64 0,.int .i64 0,.string (ByteArray.mk #[]),.bool false]) (by kernel_rfl)) fun a E=>have H:=H.nilSl cA;have H:=H.nilSl aE;have H:=H.nilSl aI;have H:=H.nilSl kS;?_
  refine have H:=H.frs [8,8,8,8,4,8,8,8,8] rfl;bd hm fun g i7 hm=>cF E rfl rfl rfl rfl rfl B9 (fA (x20:=(⟨5,0,0,0,false,[],(ByteArray.mk #[47,97]),1,0,(⟨[],[]⟩:aR),[],(⟨0,0,(ByteArray.mk #[]),false⟩:aK)⟩:aU)) H (t4 mm6) (t5 mm6) (t6 mm6) (t7 mm6) (t8 mm6) (t1 (t8 mm6)) mm3 mm2 mm1 m0 (t2 (t8 (t8 (t8 (t8 (t8 (t8 (t8 (t8 (t8 (t8 (t8 D)))))))))))) i7)<|?_
  rintro _ w ⟨b6,b7,b8,b9,c0,c1,f4,f5,f6,f7,f8,f9,rfl,H⟩ a E
  refine al E H rfl rfl rfl rfl gO fun g0 w a H E=>bA (i:=0) E H (wn rfl) rfl rfl rfl rfl rfl rfl bV rfl (bD H m0 mm1 mm2 mm3 mm4 mm5) fun w H=>?_
  replace H:Sep w (Blk g0 48 (bC g.1 b6 b7 b8 b9 c0 c1)::Blk i6 75 [f4,f5,f6,f7,f8,f9,.map (some S),.map (some T),.map (some C)]::cG Tryz.prog 2 (kyI .i64) bJ true S g.2.2.2.2.2.2.2.1::cG Tryz.prog 2 (kyI .i64) dB true T g.2.2.2.2.2.2.2.2.1::cG Tryz.prog 2 (kyI .i64) bJ true C g.2.2.2.2.2.2.2.2.2::Blk f3 48 (bC m.1 e7 e8 e9 f0 f1 f2)::Blk k0 48 (bC l.1 e1 e2 e3 e4 e5 e6)::Blk d9 48 (bC c.1 b0 b1 b2 b3 b4 b5)::Blk d1 48 (bC f.1 U V W X Y Z)::Blk c2 48 (bC b.1 I J K L M N)::Fo) _:=H
  refine nx<|pr 1 E rfl fun a E=>bd hm fun R i8 hm=>cF E rfl rfl rfl rfl rfl Kv (oI H i8)<|?_
  rintro _ w ⟨n4,rfl,H⟩ a E
  obtain ⟨q125,g1,rfl⟩:=H.rowform (i:=0) rfl
  refine sv E rfl rfl rfl (cL E rfl (E.evs rfl) (v:=.agg #[.int .i64 1,.int .i64 3,.int .i64 0,.int .i64 0,.bool false,(.slice q125 R.length g1),.string (ByteArray.mk #[]),.int .i64 0,.int .i64 0,.slice none 0 0,.slice none 0 0,.slice none 0 0,.int .i64 0,.int .i64 0,.string (ByteArray.mk #[]),.bool false]) (by kernel_rfl)) fun a E=>have H:=H.thaw (i:=0) rfl;have H:=H.nilSl aE;have H:=H.nilSl aI;have H:=H.nilSl kS;have H:=H.frs [9,9,9,9,9,5,9,9,9,9] rfl;bd hm fun j i9 hm=>cF E rfl rfl rfl rfl rfl B9 (fA (x20:=(⟨1,3,0,0,false,R,(ByteArray.mk #[]),0,0,(⟨[],[]⟩:aR),[],(⟨0,0,(ByteArray.mk #[]),false⟩:aK)⟩:aU)) H (t4 mm6) (t5 mm6) (t6 mm6) (t7 mm6) (t8 mm6) (t1 (t8 mm6)) mm3 mm2 mm1 m0 (t2 (t8 (t8 (t8 (t8 (t8 (t8 (t8 (t8 (t8 (t8 (t8 (t8 (t8 D)))))))))))))) i9)<|?_
  rintro _ w ⟨g2,g3,g4,g5,g6,g7,g8,g9,i0,i1,i2,i3,rfl,H⟩ a E
  refine al E H rfl rfl rfl rfl gO fun l6 w a H E=>bA (i:=0) E H (wn rfl) rfl rfl rfl rfl rfl rfl bV rfl (bD H m0 mm1 mm2 mm3 mm4 mm5) fun w H=>nx<|pr 1 E rfl fun a E=>lb E H 10 rfl rfl rfl rfl rfl rfl rfl U41 rfl fun a E=>pr 2 E rfl fun a E=>cs hm (fun t hm=>?_) fun t hm=>?_
  ·refine pk 1 E (kc 41 rfl t) rfl fun a E=>aQ E (ws' (d:=41) E rfl rfl rfl rfl t) rfl rfl (cD (i:=9) E H rfl rfl rfl rfl U41 rfl) fun a E=>pk 3 E (kc 41 rfl t) rfl fun a E=>cs hm (fun o hm=>?_) fun o hm=>?_
   ·refine pk 1 E (kc 46 rfl o) rfl fun a E=>aQ E (ws' (d:=46) E rfl rfl rfl rfl o) rfl rfl (cD (i:=9) E H rfl rfl rfl rfl U40 rfl) fun a E=>aQ E (ws' (d:=46) E rfl rfl rfl rfl o) rfl rfl (cV E H rfl rfl (t2 (t8 (t8 (t8 (t8 (t8 (t8 (t8 (t8 (t8 mm6)))))))))) U40) fun a E=>pk 3 E (kc 46 rfl o) rfl fun a E=>cs hm (fun u hm=>?_) fun u hm=>?_
    ·refine pk 1 E (kc 52 rfl u) rfl fun a E=>aQ E (ws' (d:=52) E rfl rfl rfl rfl u) rfl rfl (cD (i:=8) E H rfl rfl rfl rfl U4 rfl) fun a E=>pk 2 E (kc 52 rfl u) rfl fun a E=>cs hm (fun y hm=>?_) fun y hm=>?_
     ·refine pk 1 E (kc 56 rfl y) rfl fun a E=>aQ E (ws' (d:=56) E rfl rfl rfl rfl y) rfl rfl (cD (i:=7) E H rfl rfl rfl rfl U41 rfl) fun a E=>pk 3 E (kc 56 rfl y) rfl fun a E=>cs hm (fun z hm=>?_) fun z hm=>?_
      ·refine pk 1 E (kc 61 rfl z) rfl fun a E=>aQ E (ws' (d:=61) E rfl rfl rfl rfl z) rfl rfl (cD (i:=6) E H rfl rfl rfl rfl U41 rfl) fun a E=>pk 3 E (kc 61 rfl z) rfl fun a E=>cs hm (fun n hm=>?_) fun n hm=>?_
       ·refine pk 1 E (kc 66 rfl n) rfl fun a E=>have H:=H.frs [10,10,10,10,10,10,10,10,10,9,10] rfl;bd hm fun i4 j0 hm=>aW E (ws' (d:=66) E rfl rfl rfl rfl n) rfl rfl (cB E rfl rfl (Qi _)) (tC H mm6 (t1 mm6) j0)<|?_
        rintro _ w ⟨i5,l7,rfl,H⟩ a E
        refine aQ E (ws' (d:=66) E rfl rfl rfl rfl n) rfl rfl (Nh E rfl rfl (v:=i5) (by kernel_rfl)) fun a E=>aQ E (ws' (d:=66) E rfl rfl rfl rfl n) rfl rfl (cV E H rfl rfl m0 U22) fun a E=>pk 3 E (kc 66 rfl n) rfl fun a E=>cs hm (fun A hm=>?_) fun A hm=>?_
        ·refine pk 1 E (kc 73 rfl A) rfl fun a E=>aQ E (ws' (d:=73) E rfl rfl rfl rfl A) rfl rfl (cD (i:=5) E H rfl rfl rfl rfl U2 rfl) fun a E=>pk 3 E (kc 73 rfl A) rfl fun a E=>cs hm (fun p hm=>?_) fun p hm=>?_
         ·refine pk 2 E (kc 78 rfl p) rfl fun a E=>aQ E (ws' (d:=78) E rfl rfl rfl rfl p) rfl rfl (cD (i:=5) E H rfl rfl rfl rfl U22 rfl) fun a E=>aQ E (ws' (d:=78) E rfl rfl rfl rfl p) rfl rfl (cV E H rfl rfl (t5 (t8 mm6)) U22) fun a E=>pk 3 E (kc 78 rfl p) rfl fun a E=>cs hm (fun B hm=>?_) fun B hm=>?_
          ·refine pk 1 E (kc 85 rfl B) rfl fun a E=>aQ E (ws' (d:=85) E rfl rfl rfl rfl B) rfl rfl (cD (i:=1) E H rfl rfl rfl rfl U41 rfl) fun a E=>pk 3 E (kc 85 rfl B) rfl fun a E=>cs hm (fun q hm=>?_) fun q hm=>?_
           ·refine pk 1 E (kc 90 rfl q) rfl fun a E=>bd hm fun l8 j1 hm=>aW E (ws' (d:=90) E rfl rfl rfl rfl q) rfl rfl (cB E rfl rfl (MA _)) (U5 H (t4 mm6) j1)<|?_
            rintro _ w ⟨l9,rfl,H⟩ a E
            refine aQ E (ws' (d:=90) E rfl rfl rfl rfl q) rfl rfl (kK (i:=0) E H rfl rfl rfl U32) fun a E=>pk 3 E (kc 90 rfl q) rfl fun a E=>cs hm (fun s hm=>?_) fun s hm=>?_
            ·refine pk 1 E (kc 96 rfl s) rfl fun a E=>have H:=H.frs [11,11,11,11,11,11,11,11,11,11,10,11] rfl;bd hm fun m1 j2 hm=>aW E (ws' (d:=96) E rfl rfl rfl rfl s) rfl rfl (cB E rfl rfl (ED _)) (B3 H (t5 mm6) j2)<|?_
             rintro _ w ⟨m2,rfl,H⟩ a E
             refine aQ E (ws' (d:=96) E rfl rfl rfl rfl s) rfl rfl (kK (i:=0) E H rfl rfl rfl U62) fun a E=>pk 3 E (kc 96 rfl s) rfl fun a E=>cs hm (fun k hm=>?_) fun k hm=>?_
             ·refine aQ E (ws' (d:=102) E rfl rfl rfl rfl k) rfl rfl (cL E rfl (E.evs rfl) (v:=.agg #[.slice none 0 0,.slice none 0 0]) (by kernel_rfl)) fun a E=>aQ E (ws' (d:=102) E rfl rfl rfl rfl k) rfl rfl (cL E rfl (E.evs rfl) (v:=.agg Mm.toArray) (by kernel_rfl)) fun a E=>hJ (e:=31) (d:=aT) (cs:=[.string (ByteArray.mk #[]),.int .i64 0,.int .i64 0]) (xs:=[(⟨(ByteArray.mk #[]),0,0⟩:aG)]) E H (ws' (d:=102) E rfl rfl rfl rfl k) rfl rfl rfl (E.evs rfl) (by kernel_rfl) rfl rfl (fun ok hr=>(Rows.single (d:=aT) (cs:=[.string (ByteArray.mk #[]),.int .i64 0,.int .i64 0]) (x:=(⟨(ByteArray.mk #[]),0,0⟩:aG)) uY)) fun m3 w a H E=>have H:=H.nilSl aE;have H:=H.nilSl aI;have H:=H.thaw (i:=0) rfl;?_
              replace H:Sep w (Row 103 bH m2 m1::Blk i6 75 [g8,g9,i0,i1,i2,i3,.map (some S),.map (some T),.map (some C)]::Row 31 aT l9 l8::Blk l6 48 (bC j.1 g2 g3 g4 g5 g6 g7)::cG Tryz.prog 2 (kyI .i64) bJ true S j.2.2.2.2.2.2.2.1::cG Tryz.prog 2 (kyI .i64) dB true T j.2.2.2.2.2.2.2.2.1::cG Tryz.prog 2 (kyI .i64) bJ true C j.2.2.2.2.2.2.2.2.2::Blk g0 48 (bC g.1 b6 b7 b8 b9 c0 c1)::Blk f3 48 (bC m.1 e7 e8 e9 f0 f1 f2)::Blk k0 48 (bC l.1 e1 e2 e3 e4 e5 e6)::Blk d9 48 (bC c.1 b0 b1 b2 b3 b4 b5)::Blk d1 48 (bC f.1 U V W X Y Z)::Blk c2 48 (bC b.1 I J K L M N)::Fo) (rSl aT m3 ([(⟨(ByteArray.mk #[]),0,0⟩:aG)]:List aG)::rSl aI (.slice none 0 0) ([]:List aJ)::rSl aE (.slice none 0 0) ([]:List aF)::rSl aE i5 i4.Nodes::rSl aI l7 i4.Turns::rSl bF g2 j.1.Results::rSl aE g3 j.1.Store.Nodes::rSl aI g4 j.1.Store.Turns::rSl aX g5 j.1.Events::rSl bM g6 j.1.Mounts::rSl (kI .i64) g7 j.1.Wounded::rSl aE g8 j.2.1::rSl aI g9 j.2.2.1::rSl aT i0 j.2.2.2.1::rSl bH i1 j.2.2.2.2.1::rSl bB i2 j.2.2.2.2.2.1::rSl aO i3 j.2.2.2.2.2.2.1::rSl kS (.slice none 0 0) ([]:List ByteArray)::rSl aI (.slice none 0 0) ([]:List aJ)::rSl aE (.slice none 0 0) ([]:List aF)::rSl cA (.slice q125 R.length g1) R::rSl bF b6 g.1.Results::rSl aE b7 g.1.Store.Nodes::rSl aI b8 g.1.Store.Turns::rSl aX b9 g.1.Events::rSl bM c0 g.1.Mounts::rSl (kI .i64) c1 g.1.Wounded::rSl aE f4 g.2.1::rSl aI f5 g.2.2.1::rSl aT f6 g.2.2.2.1::rSl bH f7 g.2.2.2.2.1::rSl bB f8 g.2.2.2.2.2.1::rSl aO f9 g.2.2.2.2.2.2.1::rSl kS (.slice none 0 0) ([]:List ByteArray)::rSl aI (.slice none 0 0) ([]:List aJ)::rSl aE (.slice none 0 0) ([]:List aF)::rSl cA (.slice none 0 0) ([]:List cE)::rSl bF e7 m.1.Results::rSl aE e8 m.1.Store.Nodes::rSl aI e9 m.1.Store.Turns::rSl aX f0 m.1.Events::rSl bM f1 m.1.Mounts::rSl (kI .i64) f2 m.1.Wounded::rSl aE l0 m.2.1::rSl aI l1 m.2.2.1::rSl aT l2 m.2.2.2.1::rSl bH l3 m.2.2.2.2.1::rSl bB l4 m.2.2.2.2.2.1::rSl aO l5 m.2.2.2.2.2.2.1::rSl kS (.slice none 0 0) ([]:List ByteArray)::rSl aI (.slice none 0 0) ([]:List aJ)::rSl aE (.slice none 0 0) ([]:List aF)::rSl cA (.slice none 0 0) ([]:List cE)::rSl bF e1 l.1.Results::rSl aE e2 l.1.Store.Nodes::rSl aI e3 l.1.Store.Turns::rSl aX e4 l.1.Events::rSl bM e5 l.1.Mounts::rSl (kI .i64) e6 l.1.Wounded::rSl aE m8 l.2.1::rSl aI m9 l.2.2.1::rSl aT n0 l.2.2.2.1::rSl bH n1 l.2.2.2.2.1::rSl bB n2 l.2.2.2.2.2.1::rSl aO n3 l.2.2.2.2.2.2.1::rSl kS (.slice none 0 0) ([]:List ByteArray)::rSl aI (.slice none 0 0) ([]:List aJ)::rSl aE (.slice none 0 0) ([]:List aF)::rSl cA (.slice q75 Q.length e0) Q::rSl bF b0 c.1.Results::rSl aE b1 c.1.Store.Nodes::rSl aI b2 c.1.Store.Turns::rSl aX b3 c.1.Events::rSl bM b4 c.1.Mounts::rSl (kI .i64) b5 c.1.Wounded::rSl aE d3 c.2.1::rSl aI d4 c.2.2.1::rSl aT d5 c.2.2.2.1::rSl bH d6 c.2.2.2.2.1::rSl bB d7 c.2.2.2.2.2.1::rSl aO d8 c.2.2.2.2.2.2.1::rSl kS (.slice none 0 0) ([]:List ByteArray)::rSl aI (.slice none 0 0) ([]:List aJ)::rSl aE (.slice none 0 0) ([]:List aF)::rSl cA (.slice q55 P.length d2) P::rSl bF U f.1.Results::rSl aE V f.1.Store.Nodes::rSl aI W f.1.Store.Turns::rSl aX X f.1.Events::rSl bM Y f.1.Mounts::rSl (kI .i64) Z f.1.Wounded::rSl aE j4 f.2.1::rSl aI j5 f.2.2.1::rSl aT j6 f.2.2.2.1::rSl bH j7 f.2.2.2.2.1::rSl bB j8 f.2.2.2.2.2.1::rSl aO j9 f.2.2.2.2.2.2.1::rSl kS (.slice none 0 0) ([]:List ByteArray)::rSl aI (.slice none 0 0) ([]:List aJ)::rSl aE (.slice none 0 0) ([]:List aF)::rSl cA (.slice q35 O.length d0) O::rSl bF I b.1.Results::rSl aE J b.1.Store.Nodes::rSl aI K b.1.Store.Turns::rSl aX L b.1.Events::rSl bM M b.1.Mounts::rSl (kI .i64) N b.1.Wounded::rSl aE c4 b.2.1::rSl aI c5 b.2.2.1::rSl aT c6 b.2.2.2.1::rSl bH c7 b.2.2.2.2.1::rSl bB c8 b.2.2.2.2.2.1::rSl aO c9 b.2.2.2.2.2.2.1::rSl aO (.slice none 0 0) ([]:List aD)::rSl bB (.slice none 0 0) ([]:List aK)::rSl bH (.slice none 0 0) ([]:List aN)::rSl kS (.slice none 0 0) ([]:List ByteArray)::rSl aI (.slice none 0 0) ([]:List aJ)::rSl aE (.slice none 0 0) ([]:List aF)::rSl cA (.slice q15 G.length c3) G::rSl aE m5 F.1::rSl aI m6 F.2.1::rSl aT m7 F.2.2::rs):=H
              refine bd hm fun n5 j3 hm=>aW E (ws' (d:=102) E rfl rfl rfl rfl k) rfl rfl (cB E rfl rfl (cf7 _)) (Co (x1:=(⟨[],[]⟩:aR)) H mm2 mm1 m0 j3)<|?_
              rintro _ w (⟨rfl,rfl,H⟩ | ⟨n6,rfl,n7,n8,n9,o0,o1,o2,o3,rfl,H⟩) a E
              ·replace hm:=Et hm
               refine aQ E (ws' (d:=102) E rfl rfl rfl rfl k) rfl rfl (uX E rfl rfl rfl (v:=.bool true) (by kernel_rfl)) fun a E=>pk 2 E (kc 102 rfl k) rfl fun a E=>nt<|wp_ret<|aY E rfl rfl<|have H:=H.drs [0,0,0,0,0,0,0,0,0,0,0,0,0];?_
               cases hm
               exact ⟨rfl,H.reads (Y3 (Y8 (Y8 (Y8 (Y8 (Y8 (Y8 (Y8 (Y8 (Y8 (Y8 (Y8 (Y8 (Y8 (Y8 (Y8 Y0))))))))))))))))⟩
              ·replace hm:=Eu hm
               refine aQ E (ws' (d:=102) E rfl rfl rfl rfl k) rfl rfl (uX E rfl rfl rfl (v:=.bool false) (by kernel_rfl)) fun a E=>pk 2 E (kc 102 rfl k) rfl fun a E=>nt<|wp_ret<|aY E rfl rfl<|have H:=H.drs [0,0,0,0,0,0,0,0,0,0,0,0,0,0,0,0,0];?_
               cases hm
               exact ⟨rfl,H.reads (Y6 (Y8 (Y8 (Y8 (Y8 (Y8 (Y8 (Y8 (Y8 (Y8 (Y8 (Y8 (Y8 (Y8 (Y8 (Y8 Y0))))))))))))))))⟩
             ·refine pk 7 E (kc 102 rfl k) rfl fun a E=>nt<|wp_ret<|aY E rfl rfl<|have H:=H.drs [0,0,0,0,0,0,0,0,0,0,0,0,0];?_
              cases hm
              exact ⟨rfl,H.reads (Y8 (Y8 (Y8 (Y8 (Y8 (Y8 (Y8 (Y8 (Y8 (Y8 (Y8 (Y8 (Y8 (Y8 (Y8 Y0)))))))))))))))⟩
            ·refine pk 13 E (kc 96 rfl s) rfl fun a E=>nt<|wp_ret<|aY E rfl rfl<|have H:=H.drs [0,0,0,0,0,0,0,0,0,0,0,0];?_
             cases hm
             exact ⟨rfl,H.reads (Y8 (Y8 (Y8 (Y8 (Y8 (Y8 (Y8 (Y8 (Y8 (Y8 (Y8 (Y8 (Y8 (Y8 (Y8 Y0)))))))))))))))⟩
           ·refine pk 19 E (kc 90 rfl q) rfl fun a E=>nt<|wp_ret<|aY E rfl rfl<|have H:=H.drs [0,0,0,0,0,0,0,0,0,0,0];?_
            cases hm
            exact ⟨rfl,H.reads (Y8 (Y8 (Y8 (Y8 (Y8 (Y8 (Y8 (Y8 (Y8 (Y8 (Y8 (Y8 (Y8 (Y8 (Y8 Y0)))))))))))))))⟩
          ·refine pk 24 E (kc 85 rfl B) rfl fun a E=>nt<|wp_ret<|aY E rfl rfl<|have H:=H.drs [0,0,0,0,0,0,0,0,0,0,0];?_
           cases hm
           exact ⟨rfl,H.reads (Y8 (Y8 (Y8 (Y8 (Y8 (Y8 (Y8 (Y8 (Y8 (Y8 (Y8 (Y8 (Y8 (Y8 (Y8 Y0)))))))))))))))⟩
         ·refine pk 31 E (kc 78 rfl p) rfl fun a E=>nt<|wp_ret<|aY E rfl rfl<|have H:=H.drs [0,0,0,0,0,0,0,0,0,0,0];?_
          cases hm
          exact ⟨rfl,H.reads (Y8 (Y8 (Y8 (Y8 (Y8 (Y8 (Y8 (Y8 (Y8 (Y8 (Y8 (Y8 (Y8 (Y8 (Y8 Y0)))))))))))))))⟩
        ·refine pk 36 E (kc 73 rfl A) rfl fun a E=>nt<|wp_ret<|aY E rfl rfl<|have H:=H.drs [0,0,0,0,0,0,0,0,0,0,0];?_
         cases hm
         exact ⟨rfl,H.reads (Y8 (Y8 (Y8 (Y8 (Y8 (Y8 (Y8 (Y8 (Y8 (Y8 (Y8 (Y8 (Y8 (Y8 (Y8 Y0)))))))))))))))⟩
       ·refine pk 43 E (kc 66 rfl n) rfl fun a E=>nt<|wp_ret<|aY E rfl rfl<|have H:=H.drs [0,0,0,0,0,0,0,0,0,0,0];?_
        cases hm
        exact ⟨rfl,H.reads (Y6 (Y8 (Y8 (Y8 (Y8 (Y8 (Y8 (Y8 (Y8 (Y8 (Y8 (Y8 (Y8 (Y8 (Y8 Y0)))))))))))))))⟩
      ·refine pk 48 E (kc 61 rfl z) rfl fun a E=>nt<|wp_ret<|aY E rfl rfl<|have H:=H.drs [0,0,0,0,0,0,0,0,0,0,0];?_
       cases hm
       exact ⟨rfl,H.reads (Y6 (Y8 (Y8 (Y8 (Y8 (Y8 (Y8 (Y8 (Y8 (Y8 (Y8 (Y8 (Y8 (Y8 (Y8 Y0)))))))))))))))⟩
     ·refine pk 53 E (kc 56 rfl y) rfl fun a E=>nt<|wp_ret<|aY E rfl rfl<|have H:=H.drs [0,0,0,0,0,0,0,0,0,0,0];?_
      cases hm
      exact ⟨rfl,H.reads (Y6 (Y8 (Y8 (Y8 (Y8 (Y8 (Y8 (Y8 (Y8 (Y8 (Y8 (Y8 (Y8 (Y8 (Y8 Y0)))))))))))))))⟩
    ·refine pk 57 E (kc 52 rfl u) rfl fun a E=>nt<|wp_ret<|aY E rfl rfl<|have H:=H.drs [0,0,0,0,0,0,0,0,0,0,0];?_
     cases hm
     exact ⟨rfl,H.reads (Y6 (Y8 (Y8 (Y8 (Y8 (Y8 (Y8 (Y8 (Y8 (Y8 (Y8 (Y8 (Y8 (Y8 (Y8 Y0)))))))))))))))⟩
   ·refine pk 63 E (kc 46 rfl o) rfl fun a E=>nt<|wp_ret<|aY E rfl rfl<|have H:=H.drs [0,0,0,0,0,0,0,0,0,0,0];?_
    cases hm
    exact ⟨rfl,H.reads (Y6 (Y8 (Y8 (Y8 (Y8 (Y8 (Y8 (Y8 (Y8 (Y8 (Y8 (Y8 (Y8 (Y8 (Y8 Y0)))))))))))))))⟩
  ·refine pk 68 E (kc 41 rfl t) rfl fun a E=>nt<|wp_ret<|aY E rfl rfl<|have H:=H.drs [0,0,0,0,0,0,0,0,0,0,0];?_
   cases hm
   exact ⟨rfl,H.reads (Y6 (Y8 (Y8 (Y8 (Y8 (Y8 (Y8 (Y8 (Y8 (Y8 (Y8 (Y8 (Y8 (Y8 (Y8 Y0)))))))))))))))⟩

def kY(e:List aF)(f:List aF):Nat→Int→Option Bool
  | 0,_=>none
  | g+1,d=>
    if (decide (d < (e.length:Int)))=true then ((idx e d).bind fun b=>(idx f d).bind fun c=>if (!((sEq b.Path c.Path) && ((sEq b.Data c.Data) && ((b.Version == c.Version) && ((b.Turn == c.Turn) && (b.Owner == c.Owner))))))=true then (some (false)) else (kY e f g (IntKind.i64.wrap (d+1)))) else (some (true))
def qQ(b:List aF)(c:List aF):Option Bool:=
  if ((b.length:Int) != (c.length:Int))=true then (some (false)) else (kY b c (((b.length:Int) - 0:Int).toNat+1) 0)
theorem Ao{l m:Value}{i n:List aF}(H:Sep w (Fo) rs)(f:rSl aE l i ∈ rs)(j:rSl aE m n ∈ rs){r:Bool}(hm:qQ i n=some r) :
    Calls Tryz.prog 38 [l,m].toArray w (Ret fun v w'=>.bool r=v∧Sep w' (Fo) (rs)):=by
 unfold qQ at hm
 refine ent Tryz.func38 rfl Tryz.ntmps38 rfl rfl fun a E=>sq<|pr 1 E rfl fun a E=>nt<|wp_seq<|sq<|pr 1 E rfl fun a E=>sv E rfl rfl rfl (cV E H rfl rfl f U22) fun a E=>pr 1 E rfl fun a E=>?_
 refine sv E rfl rfl rfl (cV E H rfl rfl j U22) fun a E=>pr 1 E rfl fun a E=>nt<|wif E hm rfl (fun hm=>?_) fun hm=>?_
 ·refine sq<|pr 1 E rfl fun a E=>nt<|wp_ret<|aP<|aY E rfl rfl<|?_
  cases hm
  exact ⟨rfl,H.reads Y0⟩
 ·refine wp_skip<|aC<|wp_seq<|sq<|pr 1 E rfl fun a E=>nt<|wp_block<|bX (fun e a w=>∃ o g,Env 26 a [(0,l),(1,m),(5,.int .i64 o)]∧Sep w (Fo) g∧(∀ r,r ∈ rs→r ∈ g)∧kY i n e o=some r) (((i.length:Int) - 0:Int).toNat+1) ?_ ?_
  ·exact ⟨_,_,E.to rfl,H,Y0,hm⟩
  ·clear E H hm
   rintro e a w ⟨o,g,E,H,d,hm⟩
   cases e with
   | zero=>exact (bU hm rfl).elim
   | succ e=>
    unfold kY at hm
    refine wp_seq<|sq<|pr 2 E rfl fun a E=>sv E rfl rfl rfl (cV E H rfl rfl (d _ f) U22) fun a E=>pr 1 E rfl fun a E=>nt<|wif E hm rfl (fun hm=>?_) fun hm=>?_
    ·refine wp_skip<|aC<|wp_seq<|wp_block<|wp_seq<|?_
     obtain ⟨y,H⟩:=H.raw (d _ f)
     obtain ⟨z,H⟩:=H.raw (t1 (d _ j))
     refine dw [(0,0),(1,0),(2,0),(3,0),(4,0),(5,0),(6,0),(7,0),(8,0)] [] [1,0] H (by kernel_rfl) (fun _ _ _ h=>False.elim h.2) fun w W0 hI H=>fn 2 E rfl fun a E=>bd hm fun b p hm=>?_
     obtain ⟨q14,A,q,s⟩:=oD (P:=Tryz.prog) (k:=.i64) hI (mT (.head _)) U22 iZ p
     refine bT E rfl (wn rfl) rfl rfl (fun w hW=>rR E rfl rfl rfl (q w)) fun a E=>?_
     refine bT E rfl (wn rfl) rfl rfl (fun w hW=>fC E rfl rfl (E2 (cs:=[.string b.Path,.string b.Data,.int .i64 b.Version,.int .i64 b.Turn,.int .i64 b.Owner]) (DR.ir (G8 s)) (fun _ _ _ h=>tT h) U95 rfl iZ w hW)) fun a E=>?_
     refine fn 2 E rfl fun a E=>bd hm fun c t hm=>?_
     obtain ⟨q20,B,u,x⟩:=oD (P:=Tryz.prog) (k:=.i64) hI (mT (.tail _ (.head _))) U22 iZ t
     refine bT E rfl (wn rfl) rfl rfl (fun w hW=>rR E rfl rfl rfl (u w)) fun a E=>?_
     refine bT E rfl (wn rfl) rfl rfl (fun w hW=>fC E rfl rfl (E2 (cs:=[.string c.Path,.string c.Data,.int .i64 c.Version,.int .i64 c.Turn,.int .i64 c.Owner]) (DR.ir (G8 x)) (fun _ _ _ h=>tT h) U95 rfl iZ w hW)) fun a E=>?_
     refine bT E rfl (wn rfl) rfl rfl (fun w hW=>(uX E rfl rfl rfl (v:=.bool (!((sEq b.Path c.Path) && ((sEq b.Data c.Data) && ((b.Version == c.Version) && ((b.Turn == c.Turn) && (b.Owner == c.Owner))))))) (Rl JX (Hs U95 JW (I9 (by rfl) (by kernel_rfl) (by kernel_rfl) (Y9 U9) (I9 (by rfl) (by kernel_rfl) (by kernel_rfl) (Y9 U9) (I9 (by rfl) (by kernel_rfl) (by kernel_rfl) (Eo U2) (I9 (by rfl) (by kernel_rfl) (by kernel_rfl) (Eo U2) (Ke (by rfl) (by kernel_rfl) (by kernel_rfl) (Eo U2)))))))))) fun a E=>?_
     refine bP<|?_
     clear hI
     refine aC<|wif E hm rfl (fun hm=>?_) fun hm=>?_
     ·refine sq<|pr 1 E rfl fun a E=>nt<|wp_ret<|bW<|aP<|aP<|bW<|aP<|?_
      refine aY E rfl rfl<|?_
      cases hm
      exact ⟨rfl,H.reads (Y2 d)⟩
     ·exact wp_skip<|bZ<|aC<|wp_region_lit<|pr 3 E rfl fun a E=>nt<|⟨e,Nat.lt_succ_self e,_,_,E.to rfl,H,(Y2 d),hm⟩
    ·refine wp_exit<|bG<|bG<|dN<|aC<|sq<|pr 1 E rfl fun a E=>nt<|wp_ret<|?_
     refine aY E rfl rfl<|?_
     cases hm
     exact ⟨rfl,H.reads d⟩

def iT(x1:aR)(e:aR):Nat→Int→Option Bool
  | 0,_=>none
  | f+1,b=>
    if (decide (b < (x1.Turns.length:Int)))=true then ((idx x1.Turns b).bind fun c=>(idx e.Turns b).bind fun d=>if (!((sEq c.Dir d.Dir) && (c.Next == d.Next)))=true then (some (false)) else (iT x1 e f (IntKind.i64.wrap (b+1)))) else (some (true))
def nX(x1:aR)(c:aR)(b:Bool):Option Bool:=
  if b=true then (some (false)) else (iT x1 c (((x1.Turns.length:Int) - 0:Int).toNat+1) 0)
def qR(x1:aR)(b:aR):Option Bool:=
  (qQ x1.Nodes b.Nodes).bind fun c=>if (!c)=true then (nX x1 b true) else (nX x1 b ((x1.Turns.length:Int) != (b.Turns.length:Int)))
theorem Ap{x1 o:aR}{x y z A:Value}(H:Sep w (Fo) rs)(K:rSl aE x x1.Nodes ∈ rs)(p:rSl aI y x1.Turns ∈ rs)(L:rSl aE z o.Nodes ∈ rs)(q:rSl aI A o.Turns ∈ rs){r:Bool}(hm:qR x1 o=some r) :
    Calls Tryz.prog 12 [.agg #[x,y],.agg #[z,A]].toArray w (Ret fun v w'=>.bool r=v∧Sep w' (Fo) (rs)):=by
 unfold qR at hm
 refine ent Tryz.func12 rfl Tryz.ntmps12 rfl rfl fun a E=>sq<|bS E H (wn rfl) rfl rfl rfl rfl rfl fun g w a H E=>bS E H (wn rfl) rfl rfl rfl rfl rfl fun j w a H E=>pr 1 E rfl fun a E=>nt<|wp_seq<|aV (fun a w=>∃ s e,Env 39 a [(2,pt g 0),(3,pt j 0),(20,.bool s)]∧Sep w (Blk g 25 [x,y]::Blk j 25 [z,A]::Fo) e∧(∀ r,r ∈ rs→r ∈ e)∧nX x1 o s=some r) ?_ ?_
 ·refine wp_region_lit<|pr 1 E rfl fun a E=>lb E H 1 rfl rfl rfl rfl rfl rfl rfl U22 rfl fun a E=>pr 1 E rfl fun a E=>lb E H 0 rfl rfl rfl rfl rfl rfl rfl U22 rfl fun a E=>bd hm fun M B hm=>xk E rfl rfl rfl rfl rfl MC (Ao H K L B) fun w H a E=>pr 2 E rfl fun a E=>cs hm (fun b hm=>?_) fun b hm=>?_
  ·exact pk 8 E (kc 12 rfl b) rfl fun a E=>nt<|have H:=H.frs [0,1] rfl;⟨_,_,E.to rfl,H,Y0,hm⟩
  ·exact pk 1 E (kc 12 rfl b) rfl fun a E=>aQ E (ws' (d:=12) E rfl rfl rfl rfl b) rfl rfl (cD (i:=1) E H rfl rfl rfl rfl U23 rfl) fun a E=>aQ E (ws' (d:=12) E rfl rfl rfl rfl b) rfl rfl (cV E H rfl rfl p U23) fun a E=>pk 1 E (kc 12 rfl b) rfl fun a E=>aQ E (ws' (d:=12) E rfl rfl rfl rfl b) rfl rfl (cD (i:=0) E H rfl rfl rfl rfl U23 rfl) fun a E=>aQ E (ws' (d:=12) E rfl rfl rfl rfl b) rfl rfl (cV E H rfl rfl q U23) fun a E=>pk 2 E (kc 12 rfl b) rfl fun a E=>nt<|have H:=H.frs [0,1] rfl;⟨_,_,E.to rfl,H,Y0,hm⟩
 ·clear E H hm
  rintro a w ⟨s,e,E,H,t,hm⟩
  unfold nX at hm
  refine wif E hm rfl (fun hm=>?_) fun hm=>?_
  ·refine sq<|pr 1 E rfl fun a E=>nt<|wp_ret<|aP<|aY E rfl rfl<|have H:=H.drs [0,0];?_
   cases hm
   exact ⟨rfl,H.reads t⟩
  ·refine wp_skip<|aC<|wp_seq<|sq<|pr 1 E rfl fun a E=>nt<|wp_block<|bX (fun n a w=>∃ u f,Env 39 a [(2,pt g 0),(3,pt j 0),(5,.int .i64 u)]∧Sep w (Blk g 25 [x,y]::Blk j 25 [z,A]::Fo) f∧(∀ r,r ∈ rs→r ∈ f)∧iT x1 o n u=some r) (((x1.Turns.length:Int) - 0:Int).toNat+1) ?_ ?_
   ·exact ⟨_,_,E.to rfl,H,t,hm⟩
   ·clear E H hm
    rintro n a w ⟨u,f,E,H,c,hm⟩
    cases n with
    | zero=>exact (bU hm rfl).elim
    | succ n=>
     unfold iT at hm
     refine wp_seq<|sq<|pr 2 E rfl fun a E=>lb E H 0 rfl rfl rfl rfl rfl rfl rfl U23 rfl fun a E=>sv E rfl rfl rfl (cV E H rfl rfl (c _ p) U23) fun a E=>pr 1 E rfl fun a E=>nt<|wif E hm rfl (fun hm=>?_) fun hm=>?_
     ·refine wp_skip<|aC<|wp_seq<|wp_block<|wp_seq<|?_
      obtain ⟨N,H⟩:=H.raw (c _ p)
      obtain ⟨O,H⟩:=H.raw (t1 (c _ q))
      refine dw [(0,0),(1,0),(2,0),(3,0),(4,0),(5,0),(6,0),(7,0),(8,0),(9,0),(10,0)] [0,1] [1,0] H (by kernel_rfl) (fun _ _ _ h=>False.elim h.2) fun w W0 hI H=>fn 1 E rfl fun a E=>fb E rfl (wn rfl) rfl rfl rfl rfl m0 rfl U23 rfl fun a E=>fn 1 E rfl fun a E=>bd hm fun l C hm=>?_
      obtain ⟨q23,Q,D,F⟩:=oD (P:=Tryz.prog) (k:=.i64) hI (mT (.head _)) U23 oG C
      refine bT E rfl (wn rfl) rfl rfl (fun w hW=>rR E rfl rfl rfl (D w)) fun a E=>?_
      refine bT E rfl (wn rfl) rfl rfl (fun w hW=>fC E rfl rfl (E2 (cs:=[.string l.Dir,.int .i64 l.Next]) (DR.ir (G8 F)) (fun _ _ _ h=>tU h) U77 rfl oG w hW)) fun a E=>?_
      refine fn 1 E rfl fun a E=>fb E rfl (wn rfl) rfl rfl rfl rfl mm1 rfl U23 rfl fun a E=>fn 1 E rfl fun a E=>bd hm fun m G hm=>?_
      obtain ⟨q29,R,I,J⟩:=oD (P:=Tryz.prog) (k:=.i64) hI (mT (.tail _ (.head _))) U23 oG G
      refine bT E rfl (wn rfl) rfl rfl (fun w hW=>rR E rfl rfl rfl (I w)) fun a E=>?_
      refine bT E rfl (wn rfl) rfl rfl (fun w hW=>fC E rfl rfl (E2 (cs:=[.string m.Dir,.int .i64 m.Next]) (DR.ir (G8 J)) (fun _ _ _ h=>tU h) U77 rfl oG w hW)) fun a E=>?_
      refine bT E rfl (wn rfl) rfl rfl (fun w hW=>(uX E rfl rfl rfl (v:=.bool (!((sEq l.Dir m.Dir) && (l.Next == m.Next)))) (Rl JZ (Hs U77 JY (I9 (by rfl) (by kernel_rfl) (by kernel_rfl) (Y9 U9) (Ke (by rfl) (by kernel_rfl) (by kernel_rfl) (Eo U2))))))) fun a E=>?_
      refine bP<|?_
      clear hI
      refine aC<|wif E hm rfl (fun hm=>?_) fun hm=>?_
      ·refine sq<|pr 1 E rfl fun a E=>nt<|wp_ret<|bW<|aP<|aP<|bW<|aP<|?_
       refine aY E rfl rfl<|have H:=H.drs [0,0];?_
       cases hm
       exact ⟨rfl,H.reads (Y2 c)⟩
      ·exact wp_skip<|bZ<|aC<|wp_region_lit<|pr 3 E rfl fun a E=>nt<|⟨n,Nat.lt_succ_self n,_,_,E.to rfl,H,(Y2 c),hm⟩
     ·refine wp_exit<|bG<|bG<|dN<|aC<|sq<|pr 1 E rfl fun a E=>nt<|wp_ret<|?_
      refine aY E rfl rfl<|have H:=H.drs [0,0];?_
      cases hm
      exact ⟨rfl,H.reads c⟩

def hB(rec_1:Int→Option Bool)(d:Bool)(b:Int)(c:Bool):Option Bool:=
  if c=true then (some (d)) else (rec_1 (IntKind.i64.wrap (b+1)))
def eJ(x3:Int)(j:Bool)(d:aH×(List aF)×(List aJ)×(List aG)×(List aN)×(List aK)×(List aD)×(List ((Int)×aH))×(List ((Int)×bQ))×(List ((Int)×aH)))(k:(List cE))(l:Bool)(m:Bool):Option Bool:=
  if m=true then (some (false)) else (if (x3 == 281474976710656)=true then (some (j)) else ((cT d.2.1 d.2.2.1 d.2.2.2.1 d.2.2.2.2.1 d.2.2.2.2.2.1 d.2.2.2.2.2.2.1 d.2.2.2.2.2.2.2.1 d.2.2.2.2.2.2.2.2.1 d.2.2.2.2.2.2.2.2.2 (⟨2,0,IntKind.i64.wrap (x3+1),0,false,k,(ByteArray.mk #[]),0,0,(⟨[],[]⟩:aR),[],(⟨0,0,(ByteArray.mk #[]),false⟩:aK)⟩:aU)).bind fun c=>(cT c.2.1 c.2.2.1 c.2.2.2.1 c.2.2.2.2.1 c.2.2.2.2.2.1 c.2.2.2.2.2.2.1 c.2.2.2.2.2.2.2.1 c.2.2.2.2.2.2.2.2.1 c.2.2.2.2.2.2.2.2.2 (⟨3,0,IntKind.i64.wrap (x3+1),0,l,[],(ByteArray.mk #[]),0,0,(⟨[],[]⟩:aR),[],(⟨0,0,(ByteArray.mk #[]),false⟩:aK)⟩:aU)).bind fun b=>(fO b.2.1 b.2.2.1).bind fun e=>(cT b.2.1 b.2.2.1 b.2.2.2.1 b.2.2.2.2.1 b.2.2.2.2.2.1 b.2.2.2.2.2.2.1 b.2.2.2.2.2.2.2.1 b.2.2.2.2.2.2.2.2.1 b.2.2.2.2.2.2.2.2.2 (⟨3,0,IntKind.i64.wrap (x3+1),0,true,[],(ByteArray.mk #[]),0,0,(⟨[],[]⟩:aR),[],(⟨0,0,(ByteArray.mk #[]),false⟩:aK)⟩:aU)).bind fun f=>if j=true then (if (b.1.Err == 0)=true then (if (f.1.Err == 0)=true then ((fO f.2.1 f.2.2.1).bind fun g=>(qR g e).bind fun i=>if i=true then (if c.1.Yes=true then (if l=true then (some (true)) else (some ((e.Nodes.length:Int) == 1))) else (some ((e.Nodes.length:Int) == 1))) else (some (false))) else (some (false))) else (some (false))) else (some (false))))
def dQ(e:Bool)(x3:Int)(j:Bool)(k:List dH)(g:(List aF)×(List aJ)×(List aG)):Nat→Int→Option Bool
  | 0,_=>none
  | l+1,f=>
    if (decide (f < (k.length:Int)))=true then ((idx k f).bind fun o=>if (decide (o.Version ≥ 281474976710656))=true then (hB (dQ e x3 j k g l) e f true) else ((idx k f).bind fun p=>if (decide ((p.Path.size:Int) > 1000))=true then (hB (dQ e x3 j k g l) e f true) else ((idx k f).bind fun q=>hB (dQ e x3 j k g l) e f (decide ((q.Data.size:Int) > 1000))))) else ((zK k).bind fun i=>(cT g.1 g.2.1 g.2.2 ([]:List aN) ([]:List aK) ([]:List aD) [] [] [] (⟨3,0,x3,0,false,[],(ByteArray.mk #[]),0,0,(⟨[],[]⟩:aR),[],(⟨0,0,(ByteArray.mk #[]),false⟩:aK)⟩:aU)).bind fun b=>(cT b.2.1 b.2.2.1 b.2.2.2.1 b.2.2.2.2.1 b.2.2.2.2.2.1 b.2.2.2.2.2.2.1 b.2.2.2.2.2.2.2.1 b.2.2.2.2.2.2.2.2.1 b.2.2.2.2.2.2.2.2.2 (⟨2,0,x3,0,false,i,(ByteArray.mk #[]),0,0,(⟨[],[]⟩:aR),[],(⟨0,0,(ByteArray.mk #[]),false⟩:aK)⟩:aU)).bind fun c=>(cT c.2.1 c.2.2.1 c.2.2.2.1 c.2.2.2.2.1 c.2.2.2.2.2.1 c.2.2.2.2.2.2.1 c.2.2.2.2.2.2.2.1 c.2.2.2.2.2.2.2.2.1 c.2.2.2.2.2.2.2.2.2 (⟨3,0,x3,0,j,[],(ByteArray.mk #[]),0,0,(⟨[],[]⟩:aR),[],(⟨0,0,(ByteArray.mk #[]),false⟩:aK)⟩:aU)).bind fun d=>if (b.1.Err != 0)=true then (eJ x3 e d i j true) else (if (c.1.Err != 133)=true then (eJ x3 e d i j true) else (if (d.1.Err != 0)=true then (eJ x3 e d i j true) else ((mR d.2.2.2.2.1).bind fun m=>if ((m.length:Int) != 0)=true then (eJ x3 e d i j true) else ((fO d.2.1 d.2.2.1).bind fun n=>eJ x3 e d i j ((n.Nodes.length:Int) != 1))))))
def hC(b:Bool)(x3:Int)(f:Bool)(c:List dH)(d:(List aF)×(List aJ)×(List aG))(e:Bool):Option Bool:=
  if e=true then (some (b)) else (dQ b x3 f c d (((c.length:Int) - 0:Int).toNat+1) 0)
def lZ(c:List dH)(x3:Int)(d:Bool):Option Bool:=
  zD.bind fun e=>yS.bind fun f=>Db f (some (false)) fun b=>if (decide ((c.length:Int) > 8))=true then (hC e x3 d c b true) else (if (decide (x3 < 0))=true then (hC e x3 d c b true) else (hC e x3 d c b (decide (x3 > 281474976710656))))
theorem L3{Y:Value}{X:List dH}{x3:Int}{q:Bool}(H:Sep w (Fo) rs)(J:rSl rE Y X ∈ rs)(I:u7 Tryz.prog ∈ rs){r:Bool}(hm:lZ X x3 q=some r) :
    Calls Tryz.prog 5 [Y,.int .i64 x3,.bool q].toArray w (Ret fun v w'=>.bool r=v∧Sep w' (Fo) (rs)):=by
 unfold lZ at hm
 refine ent Tryz.func5 rfl Tryz.ntmps5 rfl rfl fun a E=>sq<|pr 1 E rfl fun a E=>nx<|bd hm fun N f2 hm=>xk E rfl rfl rfl rfl rfl cf6 (An H I f2) fun w H a E=>pr 1 E rfl fun a E=>nx<|bd hm fun p5 d5 hm=>?_
 refine cF E rfl rfl rfl rfl rfl BB (E6 H d5)<|?_
 rintro _ w (⟨rfl,rfl,H⟩ | ⟨k,rfl,B,K,L,M,C,D,F,rfl,H⟩) a E
 ·replace hm:=Et hm
  refine pr 1 E rfl fun a E=>nt<|wp_seq<|sq<|pr 1 E rfl fun a E=>sv E rfl rfl rfl (uX E rfl rfl rfl (v:=.bool true) (by kernel_rfl)) fun a E=>pr 13 E rfl fun a E=>nt<|wp_cond_true (E.eval rfl)<|?_
  refine sq<|pr 1 E rfl fun a E=>sv E rfl rfl rfl (uX E rfl rfl rfl (v:=.bool false) (by kernel_rfl)) fun a E=>pr 4 E rfl fun a E=>nt<|wp_ret<|aP<|aY E rfl rfl<|?_
  cases hm
  exact ⟨rfl,H.reads Y0⟩
 ·replace hm:=Eu hm
  refine pr 1 E rfl fun a E=>nt<|wp_seq<|aV (fun a w=>∃ Z y,Env 165 a [(0,Y),(1,.int .i64 x3),(2,.bool q),(7,.bool N),(8,pt B 0),(34,.bool Z)]∧Sep w (Blk B 75 [K,L,M,.slice none 0 0,.slice none 0 0,.slice none 0 0,.map (some C),.map (some D),.map (some F)]::cG Tryz.prog 2 (kyI .i64) bJ true C []::cG Tryz.prog 2 (kyI .i64) dB true D []::cG Tryz.prog 2 (kyI .i64) bJ true F []::Fo) y∧(∀ r,r ∈ rs→r ∈ y)∧rSl aE K k.1 ∈ y∧rSl aI L k.2.1 ∈ y∧rSl aT M k.2.2 ∈ y∧hC N x3 q X k Z=some r) ?_ ?_
  ·refine wp_region_lit<|pr 1 E rfl fun a E=>sv E rfl rfl rfl (uX E rfl rfl rfl (v:=.bool false) (by kernel_rfl)) fun a E=>pr 2 E rfl fun a E=>aQ E (ws E rfl rfl rfl rfl) rfl rfl (cV E H rfl rfl (t3 J) U58) fun a E=>pr 3 E rfl fun a E=>cs hm (fun O hm=>?_) fun O hm=>?_
   ·exact pk 7 E (kc 27 rfl O) rfl fun a E=>nt<|⟨_,_,E.to rfl,H,(Y3 Y0),m0,mm1,mm2,hm⟩
   ·refine pk 4 E (kc 27 rfl O) rfl fun a E=>cs hm (fun P hm=>?_) fun P hm=>?_
    ·exact pk 3 E (kc 31 rfl P) rfl fun a E=>nt<|⟨_,_,E.to rfl,H,(Y3 Y0),m0,mm1,mm2,hm⟩
    ·exact pk 3 E (kc 31 rfl P) rfl fun a E=>nt<|⟨_,_,E.to rfl,H,(Y3 Y0),m0,mm1,mm2,hm⟩
  ·clear E H hm
   rintro a w ⟨Z,y,E,H,b0,d6,d7,d8,hm⟩
   unfold hC at hm
   refine wif E hm rfl (fun hm=>?_) fun hm=>?_
   ·refine sq<|pr 1 E rfl fun a E=>sv E rfl rfl rfl (uX E rfl rfl rfl (v:=.bool true) (by kernel_rfl)) fun a E=>pr 4 E rfl fun a E=>nt<|wp_ret<|aP<|aY E rfl rfl<|have H:=H.drs [0,0,0,0];?_
    cases hm
    exact ⟨rfl,H.reads b0⟩
   ·refine wp_skip<|aC<|wp_seq<|sq<|pr 1 E rfl fun a E=>nt<|wp_block<|bX (fun V a w=>∃ U z,Env 165 a [(0,Y),(1,.int .i64 x3),(2,.bool q),(7,.bool N),(8,pt B 0),(9,.int .i64 U)]∧Sep w (Blk B 75 [K,L,M,.slice none 0 0,.slice none 0 0,.slice none 0 0,.map (some C),.map (some D),.map (some F)]::cG Tryz.prog 2 (kyI .i64) bJ true C []::cG Tryz.prog 2 (kyI .i64) dB true D []::cG Tryz.prog 2 (kyI .i64) bJ true F []::Fo) z∧(∀ r,r ∈ rs→r ∈ z)∧rSl aE K k.1 ∈ z∧rSl aI L k.2.1 ∈ z∧rSl aT M k.2.2 ∈ z∧dQ N x3 q X k V U=some r) (((X.length:Int) - 0:Int).toNat+1) ?_ ?_
    ·exact ⟨_,_,E.to rfl,H,b0,d6,d7,d8,hm⟩
    ·clear E H hm
     rintro V a w ⟨U,z,E,H,b,Q,R,S,hm⟩
     cases V with
     | zero=>exact (bU hm rfl).elim
     | succ V=>
      unfold dQ at hm
      refine wp_seq<|sq<|pr 2 E rfl fun a E=>sv E rfl rfl rfl (cV E H rfl rfl (b _ J) U58) fun a E=>pr 1 E rfl fun a E=>nt<|wif E hm rfl (fun hm=>?_) fun hm=>?_
      ·refine wp_skip<|aC<|wp_seq<|wp_block<|aV (fun a w=>∃ b1 A,Env 165 a [(0,Y),(1,.int .i64 x3),(2,.bool q),(7,.bool N),(8,pt B 0),(9,.int .i64 U),(69,.bool b1)]∧Sep w (Blk B 75 [K,L,M,.slice none 0 0,.slice none 0 0,.slice none 0 0,.map (some C),.map (some D),.map (some F)]::cG Tryz.prog 2 (kyI .i64) bJ true C []::cG Tryz.prog 2 (kyI .i64) dB true D []::cG Tryz.prog 2 (kyI .i64) bJ true F []::Fo) A∧(∀ r,r ∈ rs→r ∈ A)∧rSl aE K k.1 ∈ A∧rSl aI L k.2.1 ∈ A∧rSl aT M k.2.2 ∈ A∧hB (dQ N x3 q X k V) N U b1=some r) ?_ ?_
       ·refine wp_region_lit<|pr 2 E rfl fun a E=>bd hm fun f3 d9 hm=>dR E H (wn rfl) rfl rfl rfl rfl rfl (b _ J) U58 J4 d9 fun q39 a H E=>have H:=H.derive1 m0 (rAt (kI .i64) (q39.add 3) f3.Version) (fun ok h=>Kt h);pr 1 E rfl fun a E=>sv E rfl rfl rfl (qT E H rfl rfl m0 U2 rfl) fun a E=>pr 2 E rfl fun a E=>cs hm (fun o hm=>?_) fun o hm=>?_
        ·exact pk 17 E (kc 52 rfl o) rfl fun a E=>nt<|⟨_,_,E.to rfl,H,(Y2 b),(t2 Q),(t2 R),(t2 S),hm⟩
        ·refine pk 2 E (kc 52 rfl o) rfl fun a E=>bd hm fun f4 e0 hm=>dR E H (ws' (d:=52) E rfl rfl rfl rfl o) rfl rfl rfl rfl rfl (t2 (b _ J)) U58 J4 e0 fun q43 a H E=>have H:=H.derive1 m0 (rAt kS (q43.add 1) f4.Path) (fun ok h=>Kr h);pk 1 E (kc 52 rfl o) rfl fun a E=>aQ E (ws' (d:=52) E rfl rfl rfl rfl o) rfl rfl (qT E H rfl rfl m0 U9 rfl) fun a E=>pk 4 E (kc 52 rfl o) rfl fun a E=>cs hm (fun p hm=>?_) fun p hm=>?_
         ·exact pk 8 E (kc 61 rfl p) rfl fun a E=>nt<|⟨_,_,E.to rfl,H,(Y4 b),(t4 Q),(t4 R),(t4 S),hm⟩
         ·exact pk 2 E (kc 61 rfl p) rfl fun a E=>bd hm fun f5 e1 hm=>dR E H (ws' (d:=61) E rfl rfl rfl rfl p) rfl rfl rfl rfl rfl (t4 (b _ J)) U58 J4 e1 fun q47 a H E=>have H:=H.derive1 m0 (rAt kS (q47.add 2) f5.Data) (fun ok h=>Ks h);pk 1 E (kc 61 rfl p) rfl fun a E=>aQ E (ws' (d:=61) E rfl rfl rfl rfl p) rfl rfl (qT E H rfl rfl m0 U9 rfl) fun a E=>pk 3 E (kc 61 rfl p) rfl fun a E=>nt<|⟨_,_,E.to rfl,H,(Y6 b),(t6 Q),(t6 R),(t6 S),hm⟩
       ·clear E H hm
        rintro a w ⟨b1,A,E,H,b2,e2,e3,e4,hm⟩
        unfold hB at hm
        refine wif E hm rfl (fun hm=>?_) fun hm=>?_
        ·refine sq<|pr 2 E rfl fun a E=>nt<|wp_ret<|bW<|aP<|aP<|bW<|aP<|?_
         refine aY E rfl rfl<|have H:=H.drs [0,0,0,0];?_
         cases hm
         exact ⟨rfl,H.reads b2⟩
        ·exact wp_skip<|bZ<|aC<|wp_region_lit<|pr 3 E rfl fun a E=>nt<|⟨V,Nat.lt_succ_self V,_,_,E.to rfl,H,b2,e2,e3,e4,hm⟩
      ·refine wp_exit<|bG<|bG<|dN<|aC<|sq<|pr 1 E rfl fun a E=>bd hm fun G e5 hm=>cF E rfl rfl rfl rfl rfl BT (Fs H (b _ J) e5)<|?_
       rintro _ w ⟨l8,rfl,H⟩ a E
       refine pr 1 E rfl fun a E=>nx<|pr 2 E rfl fun a E=>sv E rfl rfl rfl (cL E rfl (E.evs rfl) (v:=.agg #[.int .i64 3,.int .i64 0,.int .i64 x3,.int .i64 0,.bool false,.slice none 0 0,.string (ByteArray.mk #[]),.int .i64 0,.int .i64 0,.slice none 0 0,.slice none 0 0,.slice none 0 0,.int .i64 0,.int .i64 0,.string (ByteArray.mk #[]),.bool false]) (by kernel_rfl)) fun a E=>have H:=H.nilSl cA;have H:=H.nilSl aE;have H:=H.nilSl aI;have H:=H.nilSl kS;have H:=H.nilSl bH;?_
       refine have H:=H.nilSl bB;have H:=H.nilSl aO;have H:=H.frs [0,4,4,4,4] rfl;bd hm fun l9 e6 hm=>cF E rfl rfl rfl rfl rfl B9 (fA (x20:=(⟨3,0,x3,0,false,[],(ByteArray.mk #[]),0,0,(⟨[],[]⟩:aR),[],(⟨0,0,(ByteArray.mk #[]),false⟩:aK)⟩:aU)) H (t7 Q) (t7 R) (t7 S) mm2 mm1 m0 mm6 mm5 mm4 mm3 (t7 (b _ I)) e6)<|?_
       rintro _ w ⟨m1,m2,m3,m4,m5,m6,m7,m8,m9,n0,n1,n2,rfl,H⟩ a E
       refine al E H rfl rfl rfl rfl gO fun n3 w a H E=>bA (i:=0) E H (wn rfl) rfl rfl rfl rfl rfl rfl bV rfl (bD H m0 mm1 mm2 mm3 mm4 mm5) fun w H=>nx<|pr 3 E rfl fun a E=>?_
       obtain ⟨q66,W,rfl⟩:=H.rowform (i:=5) rfl
       refine sv E rfl rfl rfl (cL E rfl (E.evs rfl) (v:=.agg #[.int .i64 2,.int .i64 0,.int .i64 x3,.int .i64 0,.bool false,(.slice q66 G.length W),.string (ByteArray.mk #[]),.int .i64 0,.int .i64 0,.slice none 0 0,.slice none 0 0,.slice none 0 0,.int .i64 0,.int .i64 0,.string (ByteArray.mk #[]),.bool false]) (by kernel_rfl)) fun a E=>have H:=H.thaw (i:=5) rfl;have H:=H.nilSl aE;have H:=H.nilSl aI;have H:=H.nilSl kS;have H:=H.frs [0,4,4,4,4] rfl;bd hm fun n4 e7 hm=>cF E rfl rfl rfl rfl rfl B9 (fA (x20:=(⟨2,0,x3,0,false,G,(ByteArray.mk #[]),0,0,(⟨[],[]⟩:aR),[],(⟨0,0,(ByteArray.mk #[]),false⟩:aK)⟩:aU)) H (t4 mm6) (t5 mm6) (t6 mm6) (t7 mm6) (t8 mm6) (t1 (t8 mm6)) mm3 mm2 mm1 m0 (t7 (t8 (t8 (b _ I)))) e7)<|?_
       rintro _ w ⟨n5,n6,n7,n8,n9,o0,o1,o2,o3,o4,o5,o6,rfl,H⟩ a E
       refine al E H rfl rfl rfl rfl gO fun o7 w a H E=>bA (i:=0) E H (wn rfl) rfl rfl rfl rfl rfl rfl bV rfl (bD H m0 mm1 mm2 mm3 mm4 mm5) fun w H=>nx<|pr 3 E rfl fun a E=>sv E rfl rfl rfl (cL E rfl (E.evs rfl) (v:=.agg #[.int .i64 3,.int .i64 0,.int .i64 x3,.int .i64 0,.bool q,.slice none 0 0,.string (ByteArray.mk #[]),.int .i64 0,.int .i64 0,.slice none 0 0,.slice none 0 0,.slice none 0 0,.int .i64 0,.int .i64 0,.string (ByteArray.mk #[]),.bool false]) (by kernel_rfl)) fun a E=>have H:=H.nilSl cA;have H:=H.nilSl aE;have H:=H.nilSl aI;have H:=H.nilSl kS;?_
       refine have H:=H.frs [5,1,5,5,5,5] rfl;bd hm fun n e8 hm=>cF E rfl rfl rfl rfl rfl B9 (fA (x20:=(⟨3,0,x3,0,q,[],(ByteArray.mk #[]),0,0,(⟨[],[]⟩:aR),[],(⟨0,0,(ByteArray.mk #[]),false⟩:aK)⟩:aU)) H (t4 mm6) (t5 mm6) (t6 mm6) (t7 mm6) (t8 mm6) (t1 (t8 mm6)) mm3 mm2 mm1 m0 (t7 (t8 (t8 (t8 (t8 (b _ I)))))) e8)<|?_
       rintro _ w ⟨o8,o9,p0,p1,p2,p3,c9,d0,d1,d2,d3,d4,rfl,H⟩ a E
       refine al E H rfl rfl rfl rfl gO fun p4 w a H E=>bA (i:=0) E H (wn rfl) rfl rfl rfl rfl rfl rfl bV rfl (bD H m0 mm1 mm2 mm3 mm4 mm5) fun w H=>nt<|wp_seq<|aV (fun a w=>∃ b3 g,Env 165 a [(1,.int .i64 x3),(2,.bool q),(7,.bool N),(8,pt B 0),(10,(.slice q66 G.length W)),(112,.bool b3)]∧Sep w (Blk B 75 [c9,d0,d1,d2,d3,d4,.map (some C),.map (some D),.map (some F)]::cG Tryz.prog 2 (kyI .i64) bJ true C n.2.2.2.2.2.2.2.1::cG Tryz.prog 2 (kyI .i64) dB true D n.2.2.2.2.2.2.2.2.1::cG Tryz.prog 2 (kyI .i64) bJ true F n.2.2.2.2.2.2.2.2.2::Fo) g∧(∀ r,r ∈ rs→r ∈ g)∧rSl cA (.slice q66 G.length W) G ∈ g∧rSl aE c9 n.2.1 ∈ g∧rSl aI d0 n.2.2.1 ∈ g∧rSl aT d1 n.2.2.2.1 ∈ g∧rSl bH d2 n.2.2.2.2.1 ∈ g∧rSl bB d3 n.2.2.2.2.2.1 ∈ g∧rSl aO d4 n.2.2.2.2.2.2.1 ∈ g∧eJ x3 N n G q b3=some r) ?_ ?_
       ·refine wp_region_lit<|pr 1 E rfl fun a E=>lb E H 6 rfl rfl rfl rfl rfl rfl rfl U41 rfl fun a E=>pr 2 E rfl fun a E=>cs hm (fun s hm=>?_) fun s hm=>?_
        ·exact pk 22 E (kc 90 rfl s) rfl fun a E=>nt<|have H:=H.drs [0,4,4];⟨_,_,E.to rfl,H,(Y3 (Y8 (Y8 (Y8 (Y8 (Y8 (Y8 b))))))),(t1 (t8 (t8 (t8 mm6)))),mm6,(t1 mm6),(t2 mm6),(t3 mm6),(t4 mm6),(t5 mm6),hm⟩
        ·refine pk 1 E (kc 90 rfl s) rfl fun a E=>aQ E (ws' (d:=90) E rfl rfl rfl rfl s) rfl rfl (cD (i:=5) E H rfl rfl rfl rfl U41 rfl) fun a E=>pk 3 E (kc 90 rfl s) rfl fun a E=>cs hm (fun t hm=>?_) fun t hm=>?_
         ·exact pk 17 E (kc 95 rfl t) rfl fun a E=>nt<|have H:=H.drs [0,4,4];⟨_,_,E.to rfl,H,(Y3 (Y8 (Y8 (Y8 (Y8 (Y8 (Y8 b))))))),(t1 (t8 (t8 (t8 mm6)))),mm6,(t1 mm6),(t2 mm6),(t3 mm6),(t4 mm6),(t5 mm6),hm⟩
         ·refine pk 1 E (kc 95 rfl t) rfl fun a E=>aQ E (ws' (d:=95) E rfl rfl rfl rfl t) rfl rfl (cD (i:=0) E H rfl rfl rfl rfl U41 rfl) fun a E=>pk 3 E (kc 95 rfl t) rfl fun a E=>cs hm (fun l hm=>?_) fun l hm=>?_
          ·exact pk 12 E (kc 100 rfl l) rfl fun a E=>nt<|have H:=H.drs [0,4,4];⟨_,_,E.to rfl,H,(Y3 (Y8 (Y8 (Y8 (Y8 (Y8 (Y8 b))))))),(t1 (t8 (t8 (t8 mm6)))),mm6,(t1 mm6),(t2 mm6),(t3 mm6),(t4 mm6),(t5 mm6),hm⟩
          ·refine pk 1 E (kc 100 rfl l) rfl fun a E=>have H:=H.frs [6,6,6,6,6,5,6] rfl;bd hm fun f6 b4 hm=>aW E (ws' (d:=100) E rfl rfl rfl rfl l) rfl rfl (cB E rfl rfl (ED _)) (B3 H (t3 mm6) b4)<|?_
           rintro _ w ⟨f7,rfl,H⟩ a E
           refine aQ E (ws' (d:=100) E rfl rfl rfl rfl l) rfl rfl (kK (i:=0) E H rfl rfl rfl U62) fun a E=>pk 3 E (kc 100 rfl l) rfl fun a E=>cs hm (fun j hm=>?_) fun j hm=>?_
           ·exact pk 6 E (kc 106 rfl j) rfl fun a E=>nt<|have H:=H.drs [0,1,4,4];⟨_,_,E.to rfl,H,(Y3 (Y8 (Y8 (Y8 (Y8 (Y8 (Y8 b))))))),(t1 (t8 (t8 (t8 mm6)))),mm6,(t1 mm6),(t2 mm6),(t3 mm6),(t4 mm6),(t5 mm6),hm⟩
           ·refine pk 1 E (kc 106 rfl j) rfl fun a E=>have H:=H.frs [7,7,7,7,7,7,6,7] rfl;bd hm fun f8 b5 hm=>aW E (ws' (d:=106) E rfl rfl rfl rfl j) rfl rfl (cB E rfl rfl (Qi _)) (tC H mm6 (t1 mm6) b5)<|?_
            rintro _ w ⟨e9,f9,rfl,H⟩ a E
            exact aQ E (ws' (d:=106) E rfl rfl rfl rfl j) rfl rfl (Nh E rfl rfl (v:=e9) (by kernel_rfl)) fun a E=>aQ E (ws' (d:=106) E rfl rfl rfl rfl j) rfl rfl (cV E H rfl rfl m0 U22) fun a E=>pk 2 E (kc 106 rfl j) rfl fun a E=>nt<|have H:=H.drs [1,1,4,4];⟨_,_,E.to rfl,H,(Y5 (Y8 (Y8 (Y8 (Y8 (Y8 (Y8 b))))))),(t3 (t8 (t8 (t8 mm6)))),(t2 mm6),(t3 mm6),(t4 mm6),(t5 mm6),(t6 mm6),(t7 mm6),hm⟩
       ·clear E H hm
        rintro a w ⟨b3,g,E,H,c,b6,b7,b8,b9,c0,c1,c2,hm⟩
        unfold eJ at hm
        refine wif E hm rfl (fun hm=>?_) fun hm=>?_
        ·refine sq<|pr 1 E rfl fun a E=>nt<|wp_ret<|aP<|aY E rfl rfl<|have H:=H.drs [0,0,0,0];?_
         cases hm
         exact ⟨rfl,H.reads c⟩
        ·refine wp_skip<|aC<|wp_seq<|sq<|pr 2 E rfl fun a E=>nt<|wif E hm rfl (fun hm=>?_) fun hm=>?_
         ·refine sq<|pr 2 E rfl fun a E=>nt<|wp_ret<|aP<|aY E rfl rfl<|have H:=H.drs [0,0,0,0];?_
          cases hm
          exact ⟨rfl,H.reads c⟩
         ·refine wp_skip<|aC<|sq<|pr 4 E rfl fun a E=>sv E rfl rfl rfl (cL E rfl (E.evs rfl) (v:=.agg #[.int .i64 2,.int .i64 0,.int .i64 (IntKind.i64.wrap (x3+1)),.int .i64 0,.bool false,(.slice q66 G.length W),.string (ByteArray.mk #[]),.int .i64 0,.int .i64 0,.slice none 0 0,.slice none 0 0,.slice none 0 0,.int .i64 0,.int .i64 0,.string (ByteArray.mk #[]),.bool false]) (by kernel_rfl)) fun a E=>have H:=H.nilSl aE;have H:=H.nilSl aI;have H:=H.nilSl kS;bd hm fun g0 c3 hm=>?_
          refine cF E rfl rfl rfl rfl rfl B9 (fA (x20:=(⟨2,0,IntKind.i64.wrap (x3+1),0,false,G,(ByteArray.mk #[]),0,0,(⟨[],[]⟩:aR),[],(⟨0,0,(ByteArray.mk #[]),false⟩:aK)⟩:aU)) H (t3 b7) (t3 b8) (t3 b9) (t3 c0) (t3 c1) (t3 c2) (t3 b6) mm2 mm1 m0 (t3 (c _ I)) c3)<|?_
          rintro _ w ⟨g1,g2,g3,g4,g5,g6,g7,g8,g9,i0,i1,i2,rfl,H⟩ a E
          refine al E H rfl rfl rfl rfl gO fun i3 w a H E=>bA (i:=0) E H (wn rfl) rfl rfl rfl rfl rfl rfl bV rfl (bD H m0 mm1 mm2 mm3 mm4 mm5) fun w H=>nx<|pr 4 E rfl fun a E=>sv E rfl rfl rfl (cL E rfl (E.evs rfl) (v:=.agg #[.int .i64 3,.int .i64 0,.int .i64 (IntKind.i64.wrap (x3+1)),.int .i64 0,.bool q,.slice none 0 0,.string (ByteArray.mk #[]),.int .i64 0,.int .i64 0,.slice none 0 0,.slice none 0 0,.slice none 0 0,.int .i64 0,.int .i64 0,.string (ByteArray.mk #[]),.bool false]) (by kernel_rfl)) fun a E=>have H:=H.nilSl cA;have H:=H.nilSl aE;have H:=H.nilSl aI;have H:=H.nilSl kS;?_
          refine have H:=H.frs [0,4,4,4,4] rfl;bd hm fun i4 c4 hm=>cF E rfl rfl rfl rfl rfl B9 (fA (x20:=(⟨3,0,IntKind.i64.wrap (x3+1),0,q,[],(ByteArray.mk #[]),0,0,(⟨[],[]⟩:aR),[],(⟨0,0,(ByteArray.mk #[]),false⟩:aK)⟩:aU)) H (t4 mm6) (t5 mm6) (t6 mm6) (t7 mm6) (t8 mm6) (t1 (t8 mm6)) mm3 mm2 mm1 m0 (t3 (t8 (t8 (c _ I)))) c4)<|?_
          rintro _ w ⟨i5,i6,i7,i8,i9,j0,j1,j2,j3,j4,j5,j6,rfl,H⟩ a E
          refine al E H rfl rfl rfl rfl gO fun j7 w a H E=>bA (i:=0) E H (wn rfl) rfl rfl rfl rfl rfl rfl bV rfl (bD H m0 mm1 mm2 mm3 mm4 mm5) fun w H=>nx<|pr 1 E rfl fun a E=>have H:=H.frs [5,5,5,5,4,5] rfl;bd hm fun j8 c5 hm=>cF E rfl rfl rfl rfl rfl Qi (tC H mm6 (t1 mm6) c5)<|?_
          rintro _ w ⟨f0,f1,rfl,H⟩ a E
          refine al E H rfl rfl rfl rfl lF fun j9 w a H E=>bA (i:=0) E H (wn rfl) rfl rfl rfl rfl rfl rfl dJ rfl (jQ H m0 mm1) fun w H=>nx<|pr 3 E rfl fun a E=>sv E rfl rfl rfl (cL E rfl (E.evs rfl) (v:=.agg #[.int .i64 3,.int .i64 0,.int .i64 (IntKind.i64.wrap (x3+1)),.int .i64 0,.bool true,.slice none 0 0,.string (ByteArray.mk #[]),.int .i64 0,.int .i64 0,.slice none 0 0,.slice none 0 0,.slice none 0 0,.int .i64 0,.int .i64 0,.string (ByteArray.mk #[]),.bool false]) (by kernel_rfl)) fun a E=>have H:=H.nilSl cA;have H:=H.nilSl aE;have H:=H.nilSl aI;have H:=H.nilSl kS;?_
          refine have H:=H.frs [6,3,2,6,6,6,6] rfl;bd hm fun k0 c6 hm=>cF E rfl rfl rfl rfl rfl B9 (fA (x20:=(⟨3,0,IntKind.i64.wrap (x3+1),0,true,[],(ByteArray.mk #[]),0,0,(⟨[],[]⟩:aR),[],(⟨0,0,(ByteArray.mk #[]),false⟩:aK)⟩:aU)) H (t6 mm6) (t7 mm6) (t8 mm6) (t1 (t8 mm6)) (t2 (t8 mm6)) (t3 (t8 mm6)) mm3 mm2 mm1 m0 (t5 (t8 (t8 (t8 (t8 (c _ I)))))) c6)<|?_
          rintro _ w ⟨k1,k2,k3,k4,k5,k6,k7,k8,k9,l0,l1,l2,rfl,H⟩ a E
          refine al E H rfl rfl rfl rfl gO fun l3 w a H E=>bA (i:=0) E H (wn rfl) rfl rfl rfl rfl rfl rfl bV rfl (bD H m0 mm1 mm2 mm3 mm4 mm5) fun w H=>nt<|wp_seq<|dw [(0,0),(1,0),(2,0),(3,0),(4,0),(5,0),(6,0),(7,0),(8,0),(9,0),(10,0),(11,0),(12,0),(14,0),(13,1),(15,1),(16,0),(17,0),(18,0),(19,0),(20,0),(21,0),(22,0),(23,0),(24,0),(25,0),(26,0),(27,0),(28,0),(29,0),(30,2)] [0,5,6,7] [16] H (by kernel_rfl) (fun _ _ _ h=>False.elim h.2) fun w W0 hI H=>fn 2 E rfl fun a E=>cs hm (fun u hm=>?_) fun u hm=>?_
          ·refine fk 1 E (kc 136 rfl u) rfl fun a E=>fb E rfl (ws' (d:=136) E rfl rfl rfl rfl u) rfl rfl rfl rfl mm2 rfl U41 rfl fun a E=>fk 3 E (kc 136 rfl u) rfl fun a E=>cs hm (fun x hm=>?_) fun x hm=>?_
           ·refine fk 1 E (kc 141 rfl x) rfl fun a E=>fb E rfl (ws' (d:=141) E rfl rfl rfl rfl x) rfl rfl rfl rfl m0 rfl U41 rfl fun a E=>fk 3 E (kc 141 rfl x) rfl fun a E=>cs hm (fun e hm=>?_) fun e hm=>?_
            ·refine fk 1 E (kc 146 rfl e) rfl fun a E=>fbn E [f0,f1] rfl (ws' (d:=146) E rfl rfl rfl rfl e) rfl rfl rfl rfl mm1 rfl U25 rfl dJ fun a E=>bY rfl<|have H:=H.frs [7,7,7,7,7,7,6,7] rfl;bd hm fun l4 c7 hm=>aW E (ws' (d:=146) E rfl rfl rfl rfl e) rfl rfl (cB E rfl rfl (Qi _)) (tC H mm6 (t1 mm6) c7)<|?_
             rintro _ w ⟨l5,l6,rfl,H⟩ a E
             refine nt<|?_
             refine ⟨⟨_,_,H,(aB mm1 (aB mm5 (aB mm6 (aB (t1 mm6) (aL))))),(aA (t4 (t8 mm6)) (aM))⟩,?_⟩
             refine bY rfl<|bd hm fun l7 c8 hm=>aW E (ws' (d:=146) E rfl rfl rfl rfl e) rfl rfl (cB E rfl rfl (MB _)) (Ap H m0 mm1 (t4 (t8 mm6)) (t5 (t8 mm6)) c8)<|?_
             rintro _ w ⟨rfl,H⟩ a E
             refine nt<|?_
             refine ⟨⟨_,_,H,(aB mm1 (aB mm5 (aB mm6 (aB (t1 mm6) (aL))))),(aA (t4 (t8 mm6)) (aM))⟩,?_⟩
             refine fk 2 E (kc 146 rfl e) rfl fun a E=>cs hm (fun f hm=>?_) fun f hm=>?_
             ·refine fk 1 E (kc 152 rfl f) rfl fun a E=>fb E rfl (ws' (d:=152) E rfl rfl rfl rfl f) rfl rfl rfl rfl mm3 rfl U4 rfl fun a E=>fk 1 E (kc 152 rfl f) rfl fun a E=>cs hm (fun T hm=>?_) fun T hm=>?_
              ·refine fk 3 E (kc' (kc 155 rfl T) 152 rfl f) rfl fun a E=>cs hm (fun m hm=>?_) fun m hm=>?_
               ·refine fk 6 E (kc' (kc 158 rfl m) 152 rfl f) rfl fun a E=>bO rfl<|pr 1 E rfl fun a E=>nt<|bP<|?_
                clear hI
                refine aC<|wp_ret<|aY E rfl rfl<|have H:=H.drs [0,0,0,0,0,0,0,0];?_
                cases hm
                exact ⟨rfl,H.reads (Y3 (Y8 (Y8 (Y8 (Y8 (Y8 (Y8 c)))))))⟩
               ·refine fk 1 E (kc 158 rfl m) rfl fun a E=>fb E rfl (ws' (d:=158) E rfl rfl rfl rfl m) rfl rfl rfl rfl mm1 rfl U22 rfl fun a E=>bT E rfl (ws' (d:=158) E rfl rfl rfl rfl m) rfl rfl (fun w hW=>Rh E rfl rfl (Rg (DR.ir (mT (.head _))) U22 w hW)) fun a E=>?_
                refine fk 3 E (kc' (kc 158 rfl m) 152 rfl f) rfl fun a E=>bO rfl<|pr 1 E rfl fun a E=>nt<|bP<|?_
                clear hI
                refine aC<|wp_ret<|aY E rfl rfl<|have H:=H.drs [0,0,0,0,0,0,0,0];?_
                cases hm
                exact ⟨rfl,H.reads (Y3 (Y8 (Y8 (Y8 (Y8 (Y8 (Y8 c)))))))⟩
              ·refine fk 4 E (kc' (kc 155 rfl T) 152 rfl f) rfl fun a E=>fb E rfl (ws E rfl rfl rfl rfl) rfl rfl rfl rfl mm1 rfl U22 rfl fun a E=>bT E rfl (ws E rfl rfl rfl rfl) rfl rfl (fun w hW=>Rh E rfl rfl (Rg (DR.ir (mT (.head _))) U22 w hW)) fun a E=>?_
               refine fk 3 E (kc 152 rfl f) rfl fun a E=>bO rfl<|pr 1 E rfl fun a E=>nt<|bP<|?_
               clear hI
               refine aC<|wp_ret<|aY E rfl rfl<|have H:=H.drs [0,0,0,0,0,0,0,0];?_
               cases hm
               exact ⟨rfl,H.reads (Y3 (Y8 (Y8 (Y8 (Y8 (Y8 (Y8 c)))))))⟩
             ·refine fk 12 E (kc 152 rfl f) rfl fun a E=>bO rfl<|pr 1 E rfl fun a E=>nt<|bP<|?_
              clear hI
              refine aC<|wp_ret<|aY E rfl rfl<|have H:=H.drs [0,0,0,0,0,0,0,0];?_
              cases hm
              exact ⟨rfl,H.reads (Y3 (Y8 (Y8 (Y8 (Y8 (Y8 (Y8 c)))))))⟩
            ·refine fk 2 E (kc 146 rfl e) rfl fun a E=>bY rfl<|pk 1 E (kc 146 rfl e) rfl fun a E=>nt<|?_
             refine ⟨⟨_,_,H,(aB m0 (aB mm5 (aB mm6 (aB (t1 mm6) (aL))))),(aA (t2 (t8 mm6)) (aM))⟩,?_⟩
             refine bY rfl<|pk 1 E (kc 146 rfl e) rfl fun a E=>nt<|?_
             refine ⟨⟨_,_,H,(aB m0 (aB mm5 (aB mm6 (aB (t1 mm6) (aL))))),(aA (t2 (t8 mm6)) (aM))⟩,?_⟩
             refine fk 14 E (kc 146 rfl e) rfl fun a E=>bO rfl<|pr 1 E rfl fun a E=>nt<|bP<|?_
             clear hI
             refine aC<|wp_ret<|aY E rfl rfl<|have H:=H.drs [0,0,0,0,0,0,0,0];?_
             cases hm
             exact ⟨rfl,H.reads (Y1 (Y8 (Y8 (Y8 (Y8 (Y8 (Y8 c)))))))⟩
           ·refine fk 7 E (kc 141 rfl x) rfl fun a E=>bY rfl<|pr 1 E rfl fun a E=>nt<|?_
            refine ⟨⟨_,_,H,(aB m0 (aB mm5 (aB mm6 (aB (t1 mm6) (aL))))),(aA (t2 (t8 mm6)) (aM))⟩,?_⟩
            refine bY rfl<|pr 1 E rfl fun a E=>nt<|?_
            refine ⟨⟨_,_,H,(aB m0 (aB mm5 (aB mm6 (aB (t1 mm6) (aL))))),(aA (t2 (t8 mm6)) (aM))⟩,?_⟩
            refine fn 14 E rfl fun a E=>bO rfl<|pr 1 E rfl fun a E=>nt<|bP<|?_
            clear hI
            refine aC<|wp_ret<|aY E rfl rfl<|have H:=H.drs [0,0,0,0,0,0,0,0];?_
            cases hm
            exact ⟨rfl,H.reads (Y1 (Y8 (Y8 (Y8 (Y8 (Y8 (Y8 c)))))))⟩
          ·refine fk 12 E (kc 136 rfl u) rfl fun a E=>bY rfl<|pr 1 E rfl fun a E=>nt<|?_
           refine ⟨⟨_,_,H,(aB m0 (aB mm5 (aB mm6 (aB (t1 mm6) (aL))))),(aA (t2 (t8 mm6)) (aM))⟩,?_⟩
           refine bY rfl<|pr 1 E rfl fun a E=>nt<|?_
           refine ⟨⟨_,_,H,(aB m0 (aB mm5 (aB mm6 (aB (t1 mm6) (aL))))),(aA (t2 (t8 mm6)) (aM))⟩,?_⟩
           refine fn 14 E rfl fun a E=>bO rfl<|pr 1 E rfl fun a E=>nt<|bP<|?_
           clear hI
           refine aC<|wp_ret<|aY E rfl rfl<|have H:=H.drs [0,0,0,0,0,0,0,0];?_
           cases hm
           exact ⟨rfl,H.reads (Y1 (Y8 (Y8 (Y8 (Y8 (Y8 (Y8 c)))))))⟩

end Go.Cb
