/- Functions of the program, walked: each comes to its plain function. -/
import Derived.Test.YtpbgbliikifjjaaGreatDoorKse3
import Derived.Test.YtpbgbliikifjjaaGreatDoorExse
import Derived.Test.YtpbgbliikifjjaaGreatDoorNwse
import Derived.Test.YtpbgbliikifjjaaGreatDoorSkse
set_option linter.unusedVariables false
set_option linter.unusedSimpArgs false
set_option maxRecDepth 20000
set_option maxHeartbeats 1000000
namespace Go.Cb
open Go.Proofs Go.RowKit
variable {w:World} {Fo:List Ob} {rs:List Rp}

def fP(c:List aN)(d:ByteArray):Nat→Int→Option Int
  | 0,_=>none
  | f+1,b=>
    if (decide (b < (c.length:Int)))=true then ((idx c b).bind fun g=>(a7 g d).bind fun e=>if e=true then (some (b)) else (fP c d f (IntKind.i64.wrap (b+1)))) else (some ((-1)))
def jI(b:List aN)(c:ByteArray):Option Int:=
  fP b c (((b.length:Int) - 0:Int).toNat+1) 0
theorem vH{j:Value}{d:List aN}{e:Nat}{f:ByteArray}(H:Sep w (Blk e 9 [.string f]::Fo) rs)(i:rSl bG j d ∈ rs){r:Int}(hm:jI d f=some r) :
    Calls Tryz.prog 120 [j,.func (.func 121) #[] #[pt e 0]].toArray w (Ret fun v w'=>.int .i64 r=v∧Sep w' (Blk e 9 [.string f]::Fo) (rs)):=by
 unfold jI at hm
 refine ent Tryz.func120 rfl Tryz.ntmps120 rfl rfl fun a E=>sq<|pr 1 E rfl fun a E=>nt<|wp_seq<|sq<|pr 1 E rfl fun a E=>sv E rfl rfl rfl (cR E H rfl rfl i U62) fun a E=>pr 1 E rfl fun a E=>?_
 refine nt<|wp_block<|bX (fun c a w=>∃ k g,Env 19 a [(0,j),(1,.func (.func 121) #[] #[pt e 0]),(7,.int .i64 (d.length:Int)),(8,.int .i64 k)]∧Sep w (Blk e 9 [.string f]::Fo) g∧(∀ r,r ∈ rs→r ∈ g)∧fP d f c k=some r) (((d.length:Int) - 0:Int).toNat+1) ?_ ?_
 ·exact ⟨_,_,E.to rfl,H,Y0,hm⟩
 ·clear E H hm
  rintro c a w ⟨k,g,E,H,b,hm⟩
  cases c with
  | zero=>exact (bT hm rfl).elim
  | succ c=>
   unfold fP at hm
   refine sq<|pr 1 E rfl fun a E=>nt<|wp_seq<|wif E hm rfl (fun hm=>?_) fun hm=>?_
   ·refine wp_skip<|aC<|wp_seq<|wp_block<|sq<|pr 2 E rfl fun a E=>nx<|pr 3 E rfl fun a E=>bd hm fun o l hm=>?_
    refine dE E H (wn rfl) rfl rfl rfl rfl rfl (b _ i) U62 gQ l fun q11 a H E=>ldf eC E H rfl rfl rfl rfl rfl m0 s9 rfl gQ fun a E=>bd hm fun n m hm=>aU E (wn rfl) rfl rfl (bP E rfl rfl rfl (Wd _)) (Cs H m)<|?_
    rintro _ w ⟨rfl,H⟩ a E
    refine nt<|wif E hm rfl (fun hm=>?_) fun hm=>?_
    ·refine sq<|pr 2 E rfl fun a E=>nt<|wp_ret<|bV<|aP<|aP<|bV<|aP<|?_
     refine aY E rfl rfl<|?_
     cases hm
     exact ⟨rfl,H.reads (Y1 b)⟩
    ·exact wp_skip<|bY<|aC<|wp_region_lit<|pr 2 E rfl fun a E=>nt<|⟨c,Nat.lt_succ_self c,_,_,E.to rfl,H,(Y1 b),hm⟩
   ·refine wp_exit<|bH<|bH<|dG<|aC<|sq<|pr 1 E rfl fun a E=>nt<|wp_ret<|?_
    refine aY E rfl rfl<|?_
    cases hm
    exact ⟨rfl,H.reads b⟩

def B6(b:List aN)(d:ByteArray):Option (Int×Bool):=
  (jI b d).bind fun c=>if (decide (c < 0))=true then (some (0,false)) else ((idx b c).bind fun e=>some (e.Txn,true))
theorem Gf{c:Value}{d:List aN}{e:ByteArray}(H:Sep w (Fo) rs)(b:rSl bG c d ∈ rs){r:Int×Bool}(hm:B6 d e=some r) :
    Calls Tryz.prog 68 [c,.string e].toArray w (Ret fun v w'=>.tuple #[.int .i64 r.1,.bool r.2]=v∧Sep w' (Fo) (rs)):=by
 unfold B6 at hm
 refine ent Tryz.func68 rfl Tryz.ntmps68 rfl rfl fun a E=>sq<|bS E H (wn rfl) rfl rfl rfl rfl rfl fun j w a H E=>pr 2 E rfl fun a E=>nx<|pr 1 E rfl fun a E=>sv E rfl rfl rfl (iP E rfl rfl rfl) fun a E=>bd hm fun k f hm=>xk E rfl rfl rfl rfl rfl Bi (vH H b f) fun w H a E=>?_
 refine pr 1 E rfl fun a E=>nt<|wp_seq<|sq<|pr 2 E rfl fun a E=>nt<|wif E hm rfl (fun hm=>?_) fun hm=>?_
 ·refine sq<|pr 2 E rfl fun a E=>nt<|wp_ret<|aP<|fX E rfl rfl rfl<|have H:=H.drop 0;?_
  cases hm
  exact ⟨rfl,H.reads Y0⟩
 ·refine wp_skip<|aC<|sq<|pr 2 E rfl fun a E=>bd hm fun i g hm=>dE E H (wn rfl) rfl rfl rfl rfl rfl b U62 gQ g fun q10 a H E=>have H:=H.derive1 m0 (rAt (kI .i64) (q10.add 1) i.Txn) (fun ok h=>Cd h);pr 1 E rfl fun a E=>sv E rfl rfl rfl (nT E H rfl rfl m0 U2 rfl) fun a E=>?_
  refine pr 2 E rfl fun a E=>nt<|wp_ret<|fX E rfl rfl rfl<|have H:=H.drop 0;?_
  cases hm
  exact ⟨rfl,H.reads (Y2 Y0)⟩

def uD(d:ByteArray)(b:List aN):Option Bool:=
  (B6 b d).bind fun c=>some (c.2)
theorem N2{q:ByteArray}{n c:Nat}{b d e f g i j k l:Value}{m:List aN}(H:Sep w (Blk n 28 [pt c 0]::Blk c 75 [d,e,f,b,g,i,j,k,l]::Fo) rs)(o:rSl bG b m ∈ rs){r:Bool}(hm:uD q m=some r) :
    Calls Tryz.prog 67 [.string q,pt n 0].toArray w (Ret fun v w'=>.bool r=v∧Sep w' (Blk n 28 [pt c 0]::Blk c 75 [d,e,f,b,g,i,j,k,l]::Fo) (rs)):=by
 unfold uD at hm
 refine ent Tryz.func67 rfl Tryz.ntmps67 rfl rfl fun a E=>sq<|pr 1 E rfl fun a E=>nx<|lb E H 0 rfl rfl rfl rfl rfl rfl rfl U28 rfl fun a E=>pr 2 E rfl fun a E=>lb E H 1 rfl rfl rfl rfl rfl rfl rfl U62 rfl fun a E=>pr 1 E rfl fun a E=>bd hm fun s p hm=>?_
 refine xk E rfl rfl rfl rfl rfl Zp (Gf H o p) fun w H a E=>pr 5 E rfl fun a E=>nx<|pr 2 E rfl fun a E=>nt<|wp_ret<|aY E rfl rfl<|?_
 cases hm
 exact ⟨rfl,H.reads Y0⟩

def gK(d:List ByteArray)(c:List aN):Nat→Int→Option Int
  | 0,_=>none
  | g+1,b=>
    if (decide (b < (d.length:Int)))=true then ((idx d b).bind fun e=>(uD e c).bind fun f=>if f=true then (some (b)) else (gK d c g (IntKind.i64.wrap (b+1)))) else (some ((-1)))
def lD(b:List ByteArray)(c:List aN):Option Int:=
  gK b c (((b.length:Int) - 0:Int).toNat+1) 0
theorem yF{m g n o p q s t u x:Value}{c:List ByteArray}{y j:Nat}{z:List aN}(H:Sep w (Row 9 kS m c::Blk y 28 [pt j 0]::Blk j 75 [n,o,p,g,q,s,t,u,x]::Fo) rs)(C:rSl bG g z ∈ rs){r:Int}(hm:lD c z=some r) :
    Calls Tryz.prog 119 [m,.func (.func 67) #[] #[pt y 0]].toArray w (Ret fun v w'=>.int .i64 r=v∧Sep w' (Blk y 28 [pt j 0]::Blk j 75 [n,o,p,g,q,s,t,u,x]::Row 9 kS m c::Fo) (rs)):=by
 unfold lD at hm
 refine ent Tryz.func119 rfl Tryz.ntmps119 rfl rfl fun a E=>sq<|pr 1 E rfl fun a E=>nt<|wp_seq<|sq<|pr 1 E rfl fun a E=>sv E rfl rfl rfl (iZ (i:=0) E H rfl rfl rfl U33) fun a E=>pr 1 E rfl fun a E=>?_
 refine nt<|wp_block<|bX (fun l a w=>∃ A e,Env 19 a [(0,m),(1,.func (.func 67) #[] #[pt y 0]),(7,.int .i64 (c.length:Int)),(8,.int .i64 A)]∧Sep w (Row 9 kS m c::Blk y 28 [pt j 0]::Blk j 75 [n,o,p,g,q,s,t,u,x]::Fo) e∧(∀ r,r ∈ rs→r ∈ e)∧gK c z l A=some r) (((c.length:Int) - 0:Int).toNat+1) ?_ ?_
 ·exact ⟨_,_,E.to rfl,H,Y0,hm⟩
 ·clear E H hm
  rintro l a w ⟨A,e,E,H,b,hm⟩
  cases l with
  | zero=>exact (bT hm rfl).elim
  | succ l=>
   unfold gK at hm
   refine sq<|pr 1 E rfl fun a E=>nt<|wp_seq<|wif E hm rfl (fun hm=>?_) fun hm=>?_
   ·refine wp_skip<|aC<|wp_seq<|wp_block<|sq<|pr 2 E rfl fun a E=>nx<|pr 3 E rfl fun a E=>bd hm fun F f hm=>?_
    obtain ⟨G,I,B⟩:=H.rowformNE (i:=0) rfl f
    refine sv E rfl rfl rfl (cY (d:=kS) E B rfl rfl rfl rfl U33 sz9 f) fun a E=>sv E rfl rfl rfl (mX (d:=kS) (i:=0) (k:=0) E H Nz B rfl rfl rfl f rfl U9 rfl) fun a E=>have H:=H.frs [0,2,2] rfl;bd hm fun J D hm=>aU E (wn rfl) rfl rfl (bP E rfl rfl rfl (Zo _)) (N2 H (b _ C) D)<|?_
    rintro _ w ⟨rfl,H⟩ a E
    refine nt<|wif E hm rfl (fun hm=>?_) fun hm=>?_
    ·refine sq<|pr 2 E rfl fun a E=>nt<|wp_ret<|bV<|aP<|aP<|bV<|aP<|?_
     refine aY E rfl rfl<|?_
     cases hm
     exact ⟨rfl,H.reads b⟩
    ·exact wp_skip<|bY<|aC<|wp_region_lit<|pr 2 E rfl fun a E=>nt<|have H:=H.frs [1,1,2] rfl;⟨l,Nat.lt_succ_self l,_,_,E.to rfl,H,b,hm⟩
   ·refine wp_exit<|bH<|bH<|dG<|aC<|sq<|pr 1 E rfl fun a E=>nt<|wp_ret<|?_
    refine aY E rfl rfl<|have H:=H.frs [0,2,2] rfl;?_
    cases hm
    exact ⟨rfl,H.reads b⟩

def jR(d:List ByteArray)(b:List aN):Option Bool:=
  (lD d b).bind fun c=>some (decide (c ≥ 0))
theorem wK{n b d e f g i j k l:Value}{o:List ByteArray}{p c:Nat}{m:List aN}(H:Sep w (Row 9 kS n o::Blk p 28 [pt c 0]::Blk c 75 [d,e,f,b,g,i,j,k,l]::Fo) rs)(q:rSl bG b m ∈ rs){r:Bool}(hm:jR o m=some r) :
    Calls Tryz.prog 66 [n,.func (.func 67) #[] #[pt p 0]].toArray w (Ret fun v w'=>.bool r=v∧Sep w' (Blk p 28 [pt c 0]::Blk c 75 [d,e,f,b,g,i,j,k,l]::Row 9 kS n o::Fo) (rs)):=by
 unfold jR at hm
 refine ent Tryz.func66 rfl Tryz.ntmps66 rfl rfl fun a E=>sq<|pr 1 E rfl fun a E=>nx<|pr 2 E rfl fun a E=>bd hm fun t s hm=>xk E rfl rfl rfl rfl rfl Iq (yF H q s) fun w H a E=>pr 2 E rfl fun a E=>nt<|?_
 refine wp_ret<|aY E rfl rfl<|?_
 cases hm
 exact ⟨rfl,H.reads Y0⟩

def pA(f:List aE)(g:List aI)(c:List aK)(d:List aD)(x20:bA)(e:Int):Option (aG×(List aE)×(List aI)×(List aK)×(List aD)):=
  if (e != 0)=true then ((dM e).bind fun i=>some (i,f,g,c,d)) else ((rP f g c d x20.Pieces).bind fun b=>some (b.1,b.2.1,b.2.2.1,b.2.2.2.1,b.2.2.2.2))
def pB(d:List aE)(e:List aI)(b:List aK)(c:List aD)(x20:bA)(f:Int)(g:Bool):Option (aG×(List aE)×(List aI)×(List aK)×(List aD)):=
  if g=true then (pA d e b c x20 131) else (pA d e b c x20 f)
def wX(f:List aE)(g:List aI)(j:List aH)(k:List aN)(c:List aK)(d:List aD)(x20:bA):Option (aG×(List aE)×(List aI)×(List aK)×(List aD)):=
  (zH x20.Pieces).bind fun e=>(jR e k).bind fun i=>(pZ j e).bind fun b=>if (b == 0)=true then (pB f g c d x20 b i) else (pB f g c d x20 b false)
theorem T8{c:Nat}{L M u x g j k y z A l m n:Value}{N:List aE}{O:List aI}{b1:List aH}{b2:List aN}{o:List aK}{p:List aD}{x20:bA}(H:Sep w (Blk c 75 [L,M,u,x,g,j,l,m,n]::Fo) rs)(B:rSl aF L N ∈ rs)(C:rSl aJ M O ∈ rs)(T:rSl aS u b1 ∈ rs)(U:rSl bG x b2 ∈ rs)(D:rSl aX g o ∈ rs)(F:rSl aO j p ∈ rs)(G:rSl cE k x20.Pieces ∈ rs)(V:xU Tryz.prog ∈ rs){r:aG×(List aE)×(List aI)×(List aK)×(List aD)}(hm:wX N O b1 b2 o p x20=some r) :
    Calls Tryz.prog 25 [pt c 0,.agg (aR x20 k y z A).toArray].toArray w (Ret fun v w'=>∃ b3 b4 b5 b6 b7 b8 b9 P Q R,.agg (bC r.1 b3 b4 b5 b6 b7 b8).toArray=v∧Sep w' (Blk c 75 [b9,P,u,x,Q,R,l,m,n]::Fo) (rSl bE b3 r.1.Results::rSl aF b4 r.1.Store.Nodes::rSl aJ b5 r.1.Store.Turns::rSl aV b6 r.1.Events::rSl bL b7 r.1.Mounts::rSl (kI .i64) b8 r.1.Wounded::rSl aF b9 r.2.1::rSl aJ P r.2.2.1::rSl aX Q r.2.2.2.1::rSl aO R r.2.2.2.2::rs)):=by
 unfold wX at hm
 refine ent Tryz.func25 rfl Tryz.ntmps25 rfl rfl fun a E=>sq<|bS E H (wn rfl) rfl rfl rfl rfl rfl fun q w a H E=>bS E H (wn rfl) rfl rfl rfl rfl rfl fun s w a H E=>al E H rfl rfl rfl rfl gN fun t w a H E=>nx<|pr 1 E rfl fun a E=>lb E H 1 rfl rfl rfl rfl rfl rfl rfl U26 rfl fun a E=>bd hm fun d4 W hm=>?_
 refine cG E rfl rfl rfl rfl rfl Sb (Q6 H G W)<|?_
 rintro _ w ⟨d5,rfl,H⟩ a E
 refine pr 1 E rfl fun a E=>nx<|pr 1 E rfl fun a E=>sv E rfl rfl rfl (iP E rfl rfl rfl) fun a E=>have H:=H.frs [2,2,4,4,4] rfl;bd hm fun d6 X hm=>xk E rfl rfl rfl rfl rfl Ls (wK H U X) fun w H a E=>pr 1 E rfl fun a E=>nx<|?_
 refine lb E H 0 rfl rfl rfl rfl rfl rfl rfl U28 rfl fun a E=>pr 1 E rfl fun a E=>have H:=H.thaw (i:=2) rfl;have H:=H.frs [3,3,2,3] rfl;bd hm fun S Y hm=>xk E rfl rfl rfl rfl rfl Sd (zN H (t1 T) m0 Y) fun w H a E=>pr 1 E rfl fun a E=>nt<|aT (fun a w=>∃ I d,Env 30 a [(2,pt q 0),(3,pt s 0),(4,pt t 0),(7,.int .i64 I)]∧Sep w (Blk q 28 [pt c 0]::Blk s 37 (aR x20 k y z A)::Blk t 48 bN::Blk c 75 [L,M,u,x,g,j,l,m,n]::Fo) d∧(∀ r,r ∈ rs→r ∈ d)∧pA N O o p x20 I=some r) ?_ ?_
 ·refine aT (fun a w=>∃ J e,Env 30 a [(2,pt q 0),(3,pt s 0),(4,pt t 0),(7,.int .i64 S),(21,.bool J)]∧Sep w (Blk q 28 [pt c 0]::Blk s 37 (aR x20 k y z A)::Blk t 48 bN::Blk c 75 [L,M,u,x,g,j,l,m,n]::Fo) e∧(∀ r,r ∈ rs→r ∈ e)∧pB N O o p x20 S J=some r) ?_ ?_
  ·refine wp_region_lit<|pr 3 E rfl fun a E=>cs hm (fun f hm=>?_) fun f hm=>?_
   ·exact pk 2 E (kc 19 rfl f) rfl fun a E=>nt<|have H:=H.frs [0,2,3,3] rfl;⟨_,_,E.to rfl,H,(Y1 Y0),hm⟩
   ·exact pk 2 E (kc 19 rfl f) rfl fun a E=>nt<|have H:=H.frs [0,2,3,3] rfl;⟨_,_,E.to rfl,H,(Y1 Y0),hm⟩
  ·clear E H hm
   rintro a w ⟨J,e,E,H,K,hm⟩
   unfold pB at hm
   refine wif E hm rfl (fun hm=>?_) fun hm=>?_
   ·exact wp_region_lit<|pr 1 E rfl fun a E=>nt<|⟨_,_,E.to rfl,H,K,hm⟩
   ·exact wp_skip<|aC<|⟨_,_,E.to rfl,H,K,hm⟩
 ·clear E H hm
  rintro a w ⟨I,d,E,H,b,hm⟩
  unfold pA at hm
  refine wp_seq<|sq<|pr 2 E rfl fun a E=>nt<|wif E hm rfl (fun hm=>?_) fun hm=>?_
  ·refine sq<|pr 1 E rfl fun a E=>bd hm fun c0 Z hm=>cG E rfl rfl rfl rfl rfl tM (dT H Z)<|?_
   rintro _ w ⟨c1,c2,c3,c4,c5,c6,rfl,H⟩ a E
   refine aZ (i:=2) E H (wn rfl) rfl rfl rfl rfl rfl rfl bU rfl (bF H m0 mm1 mm2 mm3 mm4 mm5) fun w H=>nt<|wp_ret<|aP<|dH E rfl (cV (i:=2) (us:=(bC c0 c1 c2 c3 c4 c5 c6)) H rfl rfl rfl U48 rfl bU)<|have H:=H.drs [0,0,0];?_
   cases hm
   exact X10 ⟨rfl,H.reads (aA m0 (aA mm1 (aA mm2 (aA mm3 (aA mm4 (aA mm5 (aA (t6 (b _ B)) (aA (t6 (b _ C)) (aA (t6 (b _ D)) (aA (t6 (b _ F)) (fun r hr=>(t6 (b r hr)))))))))))))⟩
  ·refine wp_skip<|aC<|sq<|lb E H 0 rfl rfl rfl rfl rfl rfl rfl U28 rfl fun a E=>pr 1 E rfl fun a E=>lb E H 1 rfl rfl rfl rfl rfl rfl rfl U26 rfl fun a E=>have H:=H.frs [2,2,2,3] rfl;bd hm fun c7 b0 hm=>cG E rfl rfl rfl rfl rfl Sf (x6 H (b _ B) (b _ C) (b _ D) (b _ F) (b _ G) (b _ V) b0)<|?_
   rintro _ w ⟨c8,c9,d0,d1,d2,d3,d7,d8,d9,e0,rfl,H⟩ a E
   refine aZ (i:=3) E H (wn rfl) rfl rfl rfl rfl rfl rfl bU rfl (bF H m0 mm1 mm2 mm3 mm4 mm5) fun w H=>nt<|wp_ret<|dH E rfl (cV (i:=3) (us:=(bC c7.1 c8 c9 d0 d1 d2 d3)) H rfl rfl rfl U48 rfl bU)<|have H:=H.drs [1,1,1];?_
   cases hm
   exact X10 ⟨rfl,H.reads (aA m0 (aA mm1 (aA mm2 (aA mm3 (aA mm4 (aA mm5 (aA mm6 (aA (t1 mm6) (aA (t2 mm6) (aA (t3 mm6) (fun r hr=>(t2 (t8 (b r hr))))))))))))))⟩

def mO(b:aG×(List aE)×(List aI)×(List aK)×(List aD))(c:(List ((Int)×aG))):Option (aG×(List aE)×(List aI)×(List aK)×(List aD)×(List ((Int)×aG))):=
  some (b.1,b.2.1,b.2.2.1,b.2.2.2.1,b.2.2.2.2,c)
def jX(b:aG×(List aE)×(List aI)×(List aK)×(List aD))(c:List ((Int)×aG))(x20:bA)(d:Bool):Option (aG×(List aE)×(List aI)×(List aK)×(List aD)×(List ((Int)×aG))):=
  if d=true then ((mpt (kyI .i64) c x20.Id b.1).bind fun e=>mO b e) else (mO b c)
def mP(c:List ((Int)×aG))(x20:bA)(f:List aE)(g:List aI)(d:List aK)(e:List aD)(k:List aH)(l:List aN)(i:Bool):Option (aG×(List aE)×(List aI)×(List aK)×(List aD)×(List ((Int)×aG))):=
  if i=true then ((dM 2).bind fun j=>some (j,f,g,d,e,c)) else ((wX f g k l d e x20).bind fun b=>if (x20.Id != 0)=true then (if (b.1.Err != 131)=true then (jX b c x20 (b.1.Err != 132)) else (jX b c x20 false)) else (jX b c x20 false))
def qK(b:List ((Int)×aG))(x20:bA)(e:List aE)(f:List aI)(c:List aK)(d:List aD)(g:List aH)(i:List aN)(j:Bool)(k:Int)(l:Int)(m:Bool)(n:Int)(o:(List cL))(p:(List aE))(q:(List aI))(s:(List bK))(t:(List lQ))(u:(List Int)):Option (aG×(List aE)×(List aI)×(List aK)×(List aD)×(List ((Int)×aG))):=
  if j=true then (some ((⟨k,l,m,n,o,(⟨p,q⟩:bB),s,t,u⟩:aG),e,f,c,d,b)) else (if (x20.Id != 0)=true then (mP b x20 e f c d g i ((b.length:Int) == 512)) else (mP b x20 e f c d g i false))
def sV(f:List aE)(g:List aI)(i:List aH)(j:List aN)(d:List aK)(e:List aD)(c:List ((Int)×aG))(x20:bA):Option (aG×(List aE)×(List aI)×(List aK)×(List aD)×(List ((Int)×aG))):=
  (A2 (kyI .i64) c x20.Id nP).bind fun b=>qK c x20 f g d e i j b.2 b.1.Err b.1.At b.1.Yes b.1.Epoch b.1.Results b.1.Store.Nodes b.1.Store.Turns b.1.Events b.1.Mounts b.1.Wounded
theorem L3{p g:Nat}{d4 d5 M N J L q F G I s t:Value}{f8:List aE}{f9:List aI}{g0:List aH}{g1:List aN}{c1:List aK}{c2:List aD}{u:List ((Int)×aG)}{x20:bA}(H:Sep w (Blk p 75 [d4,d5,M,N,J,L,.map (some g),s,t]::cB Tryz.prog 2 (kyI .i64) bI true g u::Fo) rs)(b5:rSl aF d4 f8 ∈ rs)(b6:rSl aJ d5 f9 ∈ rs)(g9:rSl aS M g0 ∈ rs)(i0:rSl bG N g1 ∈ rs)(b7:rSl aX J c1 ∈ rs)(b8:rSl aO L c2 ∈ rs)(i1:rSl cE q x20.Pieces ∈ rs)(i2:xU Tryz.prog ∈ rs){r:aG×(List aE)×(List aI)×(List aK)×(List aD)×(List ((Int)×aG))}(hm:sV f8 f9 g0 g1 c1 c2 u x20=some r) :
    Calls Tryz.prog 37 [pt p 0,.agg (aR x20 q F G I).toArray,.func (.func 25) #[] #[]].toArray w (Ret fun v w'=>∃ i7 i8 i9 j0 j1 j2 j3 g6 g7 g8,.agg (bC r.1 i7 i8 i9 j0 j1 j2).toArray=v∧Sep w' (Blk p 75 [j3,g6,M,N,g7,g8,.map (some g),s,t]::cB Tryz.prog 2 (kyI .i64) bI true g r.2.2.2.2.2::Fo) (rSl bE i7 r.1.Results::rSl aF i8 r.1.Store.Nodes::rSl aJ i9 r.1.Store.Turns::rSl aV j0 r.1.Events::rSl bL j1 r.1.Mounts::rSl (kI .i64) j2 r.1.Wounded::rSl aF j3 r.2.1::rSl aJ g6 r.2.2.1::rSl aX g7 r.2.2.2.1::rSl aO g8 r.2.2.2.2.1::rs)):=by
 unfold sV at hm
 refine ent Tryz.func37 rfl Tryz.ntmps37 rfl rfl fun a E=>sq<|bS E H (wn rfl) rfl rfl rfl rfl rfl fun m w a H E=>al E H rfl rfl rfl rfl gN fun x w a H E=>nt<|wp_seq<|aT (fun a w=>∃ d6 U V X Y Z b0 d7 b1 b2 b3 b4 d8 d9 e0 e1 e2 e3 j,Env 59 a [(0,pt p 0),(2,.func (.func 25) #[] #[]),(4,pt m 0),(6,pt x 0),(7,pt d6 0),(8,.bool d7)]∧Sep w (Blk p 75 [d4,d5,M,N,J,L,.map (some g),s,t]::Blk m 37 (aR x20 q F G I)::Blk x 48 bN::Blk d6 48 [.int .i64 b1,.int .i64 b2,.bool b3,.int .i64 b4,U,V,X,Y,Z,b0]::cB Tryz.prog 2 (kyI .i64) bI true g u::Fo) j∧(∀ r,r ∈ rs→r ∈ j)∧rSl bE U d8 ∈ j∧rSl aF V d9 ∈ j∧rSl aJ X e0 ∈ j∧rSl aV Y e1 ∈ j∧rSl bL Z e2 ∈ j∧rSl (kI .i64) b0 e3 ∈ j∧qK u x20 f8 f9 c1 c2 g0 g1 d7 b1 b2 b3 b4 d8 d9 e0 e1 e2 e3=some r) ?_ ?_
 ·refine bd hm fun k1 c3 hm=>?_
  have hI:dP [Blk m 37 (aR x20 q F G I),Blk p 75 [d4,d5,M,N,J,L,.map (some g),s,t]] [] { w with drawn:=w.drawn+1 }:=⟨_,_,H.kept (Kp.drawn _ w _),(aB mm1 (aB mm2 (aL))),(aM)⟩
  refine jY _ (.go 0 0 (.go 1 0 (.go 2 0 (.go 3 0 (.go 4 0 (.go 5 0 (.alt 6 (.go 7 0 (.go 8 0 (.go 9 0 (.go 10 1 (.go 11 1 (.go 12 2 .nil)))))) 10 (.go 6 1 (.go 7 0 (.go 8 0 (.go 9 0 (.go 11 1 (.go 12 2 .nil))))))))))))) [12] kG (by kernel_rfl) (fun _ _ _ h=>False.elim h.2) hI<|have H:=H.kept (Kp.drawn _ w (w.drawn+1));?_
  generalize ({ w with drawn:=w.drawn+1 }:World)=w at H hI ⊢
  replace hI:∃ W,dP [Blk m 37 (aR x20 q F G I),Blk p 75 [d4,d5,M,N,J,L,.map (some g),s,t]] [] W:=⟨_,hI⟩
  obtain ⟨W0,hI⟩:=hI
  refine aW E rfl (wn rfl) rfl rfl (fun w hW=>(bD E rfl rfl)) fun a E=>aW E rfl (wn rfl) rfl rfl (fun w hW=>(sF E rfl rfl)) fun a E=>aW E rfl (wn rfl) rfl rfl (fun w hW=>iY E rfl rfl (v:=pt p 6) (O6 _ _)) fun a E=>aW E rfl (wn rfl) rfl rfl (fun w hW=>eZ E rfl rfl (kD mm1 rfl U68 rfl w hW)) fun a E=>aW E rfl (wn rfl) rfl rfl (fun w hW=>iY E rfl rfl (v:=pt m 1) (O5 _ _)) fun a E=>aW E rfl (wn rfl) rfl rfl (fun w hW=>eZ E rfl rfl (kD m0 rfl U2 rfl w hW)) fun a E=>?_
  refine kM rfl rfl ?_ ?_
  ·refine lR (i:=3) (K:=(kyI .i64)) E H (wn rfl) rfl rfl rfl rfl rfl rfl (dX U2) U68 yV A4 c3 fun k2 a H E=>?_
   obtain ⟨k3,k4,k5,k6,k7,k8,rfl,h⟩:=jC H;clear H;have H:=h
   refine nt<|?_
   refine ⟨⟨_,_,H,(aB mm1 (aB mm2 (aL))),(aM)⟩,?_⟩
   refine aW E rfl (wn rfl) rfl rfl (fun w hW=>(bD E rfl rfl)) fun a E=>aW E rfl (wn rfl) rfl rfl (fun w hW=>(cX E rfl rfl rfl)) fun a E=>aW E rfl (wn rfl) rfl rfl (fun w hW=>(cX E rfl rfl rfl)) fun a E=>cJ rfl<|al E H rfl rfl rfl rfl gN fun k9 w a H E=>nt<|?_
   refine ⟨⟨_,_,H,(aB mm2 (aB mm3 (aL))),(aM)⟩,?_⟩
   refine cJ rfl<|aZ (i:=0) E H (wn rfl) rfl rfl rfl rfl rfl rfl bU rfl (bF H mm5 mm4 mm3 mm2 mm1 m0) fun w H=>nt<|?_
   refine ⟨⟨_,_,H,(aB mm2 (aB mm3 (aL))),(aM)⟩,?_⟩
   refine cP rfl<|pr 1 E rfl fun a E=>nt<|dW<|?_
   clear hI
   exact aC<|have H:=H.frs [4,1,2,3,4] rfl;X19 ⟨E.to rfl,H,(Y7 Y0),mm5,mm4,mm3,mm2,mm1,m0,hm⟩
  ·refine al E H rfl rfl rfl rfl gN fun l0 w a H E=>nt<|?_
   refine ⟨⟨_,_,H,(aB mm2 (aB mm3 (aL))),(aM)⟩,?_⟩
   refine cJ rfl<|lR (i:=4) (K:=(kyI .i64)) E H (wn rfl) rfl rfl rfl rfl rfl rfl (dX U2) U68 yV A4 c3 fun l1 a H E=>?_
   obtain ⟨l2,l3,l4,l5,l6,l7,rfl,h⟩:=jC H;clear H;have H:=h
   refine nt<|?_
   refine ⟨⟨_,_,H,(aB mm2 (aB mm3 (aL))),(aM)⟩,?_⟩
   refine aW E rfl (wn rfl) rfl rfl (fun w hW=>(bD E rfl rfl)) fun a E=>aW E rfl (wn rfl) rfl rfl (fun w hW=>(cX E rfl rfl rfl)) fun a E=>aW E rfl (wn rfl) rfl rfl (fun w hW=>(cX E rfl rfl rfl)) fun a E=>cJ rfl<|aZ (i:=0) E H (wn rfl) rfl rfl rfl rfl rfl rfl bU rfl (bF H mm5 mm4 mm3 mm2 mm1 m0) fun w H=>nt<|?_
   refine ⟨⟨_,_,H,(aB mm2 (aB mm3 (aL))),(aM)⟩,?_⟩
   refine cP rfl<|pr 1 E rfl fun a E=>nt<|dW<|?_
   clear hI
   exact aC<|have H:=H.frs [4,1,2,3,4] rfl;X19 ⟨E.to rfl,H,(Y7 Y0),mm5,mm4,mm3,mm2,mm1,m0,hm⟩
 ·clear E H hm
  rintro a w ⟨d6,U,V,X,Y,Z,b0,d7,b1,b2,b3,b4,d8,d9,e0,e1,e2,e3,j,E,H,l,e4,e5,e6,e7,e8,e9,hm⟩
  unfold qK at hm
  refine sq<|pr 1 E rfl fun a E=>nt<|wif E hm rfl (fun hm=>?_) fun hm=>?_
  ·refine sq<|sv E rfl rfl rfl (cA (i:=3) (us:=[.int .i64 b1,.int .i64 b2,.bool b3,.int .i64 b4,U,V,X,Y,Z,b0]) E H rfl rfl rfl rfl U48 rfl bU) fun a E=>aZ (i:=2) E H (wn rfl) rfl rfl rfl rfl rfl rfl bU rfl (bF H e4 e5 e6 e7 e8 e9) fun w H=>nt<|wp_ret<|aP<|dH E rfl (cV (i:=2) (us:=[.int .i64 b1,.int .i64 b2,.bool b3,.int .i64 b4,U,V,X,Y,Z,b0]) H rfl rfl rfl U48 rfl bU)<|have H:=H.drs [1,1,1];?_
   cases hm
   exact X10 ⟨rfl,H.reads (aA e4 (aA e5 (aA e6 (aA e7 (aA e8 (aA e9 (aA (l _ b5) (aA (l _ b6) (aA (l _ b7) (aA (l _ b8) (l)))))))))))⟩
  ·refine wp_skip<|aC<|wp_seq<|aT (fun a w=>∃ f0 b9,Env 59 a [(0,pt p 0),(2,.func (.func 25) #[] #[]),(4,pt m 0),(6,pt x 0),(32,.bool f0)]∧Sep w (Blk p 75 [d4,d5,M,N,J,L,.map (some g),s,t]::Blk m 37 (aR x20 q F G I)::Blk x 48 bN::cB Tryz.prog 2 (kyI .i64) bI true g u::Fo) b9∧(∀ r,r ∈ rs→r ∈ b9)∧mP u x20 f8 f9 c1 c2 g0 g1 f0=some r) ?_ ?_
   ·refine wp_region_lit<|pr 1 E rfl fun a E=>lb E H 1 rfl rfl rfl rfl rfl rfl rfl U2 rfl fun a E=>pr 2 E rfl fun a E=>cs hm (fun k hm=>?_) fun k hm=>?_
    ·exact pk 3 E (kc 25 rfl k) rfl fun a E=>aQ E (ws' (d:=25) E rfl rfl rfl rfl k) rfl rfl (cD (i:=0) E H rfl rfl rfl rfl U68 rfl) fun a E=>aQ E (ws' (d:=25) E rfl rfl rfl rfl k) rfl rfl (r7 (i:=4) E H rfl rfl rfl U68) fun a E=>pk 2 E (kc 25 rfl k) rfl fun a E=>nt<|have H:=H.drop 3;⟨_,_,E.to rfl,H,l,hm⟩
    ·exact pk 7 E (kc 25 rfl k) rfl fun a E=>nt<|have H:=H.drop 3;⟨_,_,E.to rfl,H,l,hm⟩
   ·clear E H hm
    rintro a w ⟨f0,b9,E,H,e,hm⟩
    unfold mP at hm
    refine wif E hm rfl (fun hm=>?_) fun hm=>?_
    ·refine sq<|bd hm fun j4 i3 hm=>cG E rfl rfl rfl rfl rfl tM (dT H i3)<|?_
     rintro _ w ⟨j5,j6,j7,j8,j9,k0,rfl,H⟩ a E
     refine aZ (i:=2) E H (wn rfl) rfl rfl rfl rfl rfl rfl bU rfl (bF H m0 mm1 mm2 mm3 mm4 mm5) fun w H=>nt<|wp_ret<|aP<|dH E rfl (cV (i:=2) (us:=(bC j4 j5 j6 j7 j8 j9 k0)) H rfl rfl rfl U48 rfl bU)<|have H:=H.drs [1,1];?_
     cases hm
     exact X10 ⟨rfl,H.reads (aA m0 (aA mm1 (aA mm2 (aA mm3 (aA mm4 (aA mm5 (aA (t6 (e _ b5)) (aA (t6 (e _ b6)) (aA (t6 (e _ b7)) (aA (t6 (e _ b8)) (fun r hr=>(t6 (e r hr)))))))))))))⟩
    ·refine wp_skip<|aC<|sq<|pr 2 E rfl fun a E=>sv E rfl rfl rfl (cA (i:=1) (us:=(aR x20 q F G I)) E H rfl rfl rfl rfl U37 rfl s7) fun a E=>bd hm fun b i4 hm=>aU E (wn rfl) rfl rfl (bP E rfl rfl rfl (Zn _)) (T8 H (e _ b5) (e _ b6) (e _ g9) (e _ i0) (e _ b7) (e _ b8) (e _ i1) (e _ i2) i4)<|?_
     rintro _ w ⟨y,z,A,B,C,D,c4,c5,c6,c7,rfl,H⟩ a E
     refine al E H rfl rfl rfl rfl gN fun c8 w a H E=>aZ (i:=0) E H (wn rfl) rfl rfl rfl rfl rfl rfl bU rfl (bF H m0 mm1 mm2 mm3 mm4 mm5) fun w H=>nt<|aT (fun a w=>∃ f1 f,Env 59 a [(6,pt x 0),(9,pt c8 0)]∧Sep w (Blk x 48 bN::Blk c8 48 (bC b.1 y z A B C D)::Blk p 75 [c4,c5,M,N,c6,c7,.map (some g),s,t]::cB Tryz.prog 2 (kyI .i64) bI true g f1::Fo) f∧(∀ r,r ∈ rs→r ∈ f)∧rSl bE y b.1.Results ∈ f∧rSl aF z b.1.Store.Nodes ∈ f∧rSl aJ A b.1.Store.Turns ∈ f∧rSl aV B b.1.Events ∈ f∧rSl bL C b.1.Mounts ∈ f∧rSl (kI .i64) D b.1.Wounded ∈ f∧rSl aF c4 b.2.1 ∈ f∧rSl aJ c5 b.2.2.1 ∈ f∧rSl aX c6 b.2.2.2.1 ∈ f∧rSl aO c7 b.2.2.2.2 ∈ f∧mO b f1=some r) ?_ ?_
     ·refine aT (fun a w=>∃ c0 c,Env 59 a [(0,pt p 0),(4,pt m 0),(6,pt x 0),(9,pt c8 0),(50,.bool c0)]∧Sep w (Blk p 75 [c4,c5,M,N,c6,c7,.map (some g),s,t]::Blk m 37 (aR x20 q F G I)::Blk x 48 bN::Blk c8 48 (bC b.1 y z A B C D)::cB Tryz.prog 2 (kyI .i64) bI true g u::Fo) c∧(∀ r,r ∈ rs→r ∈ c)∧rSl aF c4 b.2.1 ∈ c∧rSl aJ c5 b.2.2.1 ∈ c∧rSl aX c6 b.2.2.2.1 ∈ c∧rSl aO c7 b.2.2.2.2 ∈ c∧rSl bE y b.1.Results ∈ c∧rSl aF z b.1.Store.Nodes ∈ c∧rSl aJ A b.1.Store.Turns ∈ c∧rSl aV B b.1.Events ∈ c∧rSl bL C b.1.Mounts ∈ c∧rSl (kI .i64) D b.1.Wounded ∈ c∧jX b u x20 c0=some r) ?_ ?_
      ·refine wp_region_lit<|pr 1 E rfl fun a E=>lb E H 2 rfl rfl rfl rfl rfl rfl rfl U2 rfl fun a E=>pr 2 E rfl fun a E=>cs hm (fun n hm=>?_) fun n hm=>?_
       ·refine pk 1 E (kc 41 rfl n) rfl fun a E=>aQ E (ws' (d:=41) E rfl rfl rfl rfl n) rfl rfl (cD (i:=0) E H rfl rfl rfl rfl U41 rfl) fun a E=>pk 3 E (kc 41 rfl n) rfl fun a E=>cs hm (fun o hm=>?_) fun o hm=>?_
        ·exact pk 1 E (kc 46 rfl o) rfl fun a E=>aQ E (ws' (d:=46) E rfl rfl rfl rfl o) rfl rfl (cD (i:=0) E H rfl rfl rfl rfl U41 rfl) fun a E=>pk 2 E (kc 46 rfl o) rfl fun a E=>nt<|have H:=H.frs [4,1,4,4,4] rfl;⟨_,_,E.to rfl,H,(Y2 (Y8 e)),mm6,(t1 mm6),(t2 mm6),(t3 mm6),m0,mm1,mm2,mm3,mm4,mm5,hm⟩
        ·exact pk 4 E (kc 46 rfl o) rfl fun a E=>nt<|have H:=H.frs [4,1,4,4,4] rfl;⟨_,_,E.to rfl,H,(Y2 (Y8 e)),mm6,(t1 mm6),(t2 mm6),(t3 mm6),m0,mm1,mm2,mm3,mm4,mm5,hm⟩
       ·exact pk 9 E (kc 41 rfl n) rfl fun a E=>nt<|have H:=H.frs [4,1,4,4,4] rfl;⟨_,_,E.to rfl,H,(Y2 (Y8 e)),mm6,(t1 mm6),(t2 mm6),(t3 mm6),m0,mm1,mm2,mm3,mm4,mm5,hm⟩
      ·clear E H hm
       rintro a w ⟨c0,c,E,H,c9,d0,d1,d2,d3,O,P,Q,R,S,T,hm⟩
       unfold jX at hm
       refine wif E hm rfl (fun hm=>?_) fun hm=>?_
       ·refine dw [(0,0),(1,0),(2,0),(3,0),(4,0),(5,0),(6,0),(7,2)] [0,1,3] [] H (by kernel_rfl) (fun _ _ _ h=>False.elim h.2) fun w W0 hI H=>fn 3 E rfl fun a E=>fb E rfl (wn rfl) rfl rfl rfl rfl m0 rfl U68 rfl fun a E=>fn 1 E rfl fun a E=>fb E rfl (wn rfl) rfl rfl rfl rfl mm1 rfl U2 rfl fun a E=>fbn E (bC b.1 y z A B C D) rfl (wn rfl) rfl rfl rfl rfl mm2 rfl U48 rfl bU fun a E=>bQ rfl<|bd hm fun l8 g2 hm=>zR (i:=4) (K:=(kyI .i64)) (v:=b.1) (cs:=[.int .i64 b.1.Err,.int .i64 b.1.At,.bool b.1.Yes,.int .i64 b.1.Epoch,y,z,A,B,C,D]) E H (wn rfl) rfl rfl rfl rfl rfl rfl (dX U2) U68 g2 (fun ok hr=>(lS (hr _ O) (hr _ P) (hr _ Q) (hr _ R) (hr _ S) (hr _ T))) fun w H=>?_
        refine nt<|bR<|?_
        clear hI
        exact aC<|have H:=H.drop 1;have H:=H.frs [3,1,3,3] rfl;⟨_,_,E.to rfl,H,c9,O,P,Q,R,S,T,d0,d1,d2,d3,hm⟩
       ·exact wp_skip<|aC<|have H:=H.drop 1;have H:=H.frs [3,1,3,3] rfl;⟨_,_,E.to rfl,H,c9,O,P,Q,R,S,T,d0,d1,d2,d3,hm⟩
     ·clear E H hm
      rintro a w ⟨f1,f,E,H,i5,f2,f3,f4,f5,f6,f7,i6,g3,g4,g5,hm⟩
      unfold mO at hm
      refine sq<|sv E rfl rfl rfl (cA (i:=1) (us:=(bC b.1 y z A B C D)) E H rfl rfl rfl rfl U48 rfl bU) fun a E=>aZ (i:=0) E H (wn rfl) rfl rfl rfl rfl rfl rfl bU rfl (bF H f2 f3 f4 f5 f6 f7) fun w H=>nt<|wp_ret<|dH E rfl (cV (i:=0) (us:=(bC b.1 y z A B C D)) H rfl rfl rfl U48 rfl bU)<|have H:=H.drs [0,0];?_
      cases hm
      exact X10 ⟨rfl,H.reads (aA f2 (aA f3 (aA f4 (aA f5 (aA f6 (aA f7 (aA i6 (aA g3 (aA g4 (aA g5 (i5)))))))))))⟩

def pE(x1:Int):Option Bool:=
  if (decide (x1 ≥ 0))=true then (some (decide (x1 ≤ 281474976710656))) else (some (false))
theorem wL{x1:Int}(H:Sep w (Fo) rs){r:Bool}(hm:pE x1=some r) :
    Calls Tryz.prog 130 [.int .i64 x1].toArray w (Ret fun v w'=>.bool r=v∧Sep w' (Fo) (rs)):=by
 unfold pE at hm
 refine ent Tryz.func130 rfl Tryz.ntmps130 rfl rfl fun a E=>sq<|pr 1 E rfl fun a E=>nx<|pr 3 E rfl fun a E=>cs hm (fun b hm=>?_) fun b hm=>?_
 ·refine pk 4 E (kc 5 rfl b) rfl fun a E=>nt<|wp_ret<|aY E rfl rfl<|?_
  cases hm
  exact ⟨rfl,H.reads Y0⟩
 ·refine pk 4 E (kc 5 rfl b) rfl fun a E=>nt<|wp_ret<|aY E rfl rfl<|?_
  cases hm
  exact ⟨rfl,H.reads Y0⟩

def gG(rec_1:Int→(List ((Int)×Int))→Option Bool)(e:(List ((Int)×Int)))(b:aN)(f:Int)(c:Bool):Option Bool:=
  if c=true then (some (false)) else ((mpt (kyI .i64) e b.Txn b.Age).bind fun d=>rec_1 (IntKind.i64.wrap (f+1)) d)
def eN(d:List aN):Nat→Int→(List ((Int)×Int))→Option Bool
  | 0,_,_=>none
  | f+1,c,e=>
    if (decide (c < (d.length:Int)))=true then ((idx d c).bind fun b=>(mlk (kyI .i64) e b.Txn).bind fun g=>(fA b.Dir).bind fun i=>if (!i)=true then (gG (eN d f) e b c true) else ((pE b.Txn).bind fun j=>if (!j)=true then (gG (eN d f) e b c true) else ((pE b.Age).bind fun k=>if (!k)=true then (gG (eN d f) e b c true) else (if g.isSome=true then (if ((g.getD 0) != b.Age)=true then (gG (eN d f) e b c true) else (if (decide (c > 0))=true then ((idx d (IntKind.i64.wrap (c - 1))).bind fun l=>gG (eN d f) e b c (!(sLt l.Dir b.Dir))) else (gG (eN d f) e b c false))) else (if (decide (c > 0))=true then ((idx d (IntKind.i64.wrap (c - 1))).bind fun m=>gG (eN d f) e b c (!(sLt m.Dir b.Dir))) else (gG (eN d f) e b c false)))))) else (some (true))
def w8(b:List aN):Option Bool:=
  eN b (((b.length:Int) - 0:Int).toNat+1) 0 []
theorem Ds{s:Value}{o:List aN}(H:Sep w (Fo) rs)(t:rSl bG s o ∈ rs){r:Bool}(hm:w8 o=some r) :
    Calls Tryz.prog 129 [s].toArray w (Ret fun v w'=>.bool r=v∧Sep w' (Fo) (rs)):=by
 unfold w8 at hm
 refine ent Tryz.func129 rfl Tryz.ntmps129 rfl rfl fun a E=>sq<|pr 1 E rfl fun a E=>nx<|tK (k:=2) (K:=(kyI .i64)) (d:=(kI .i64)) (g:=false) E H (wn rfl) rfl rfl rfl fun C w a H E=>pr 1 E rfl fun a E=>nt<|wp_seq<|sq<|?_
 refine pr 1 E rfl fun a E=>sv E rfl rfl rfl (cR E H rfl rfl t U62) fun a E=>pr 1 E rfl fun a E=>nt<|wp_block<|bX (fun p a w=>∃ x y z,Env 69 a [(0,s),(3,.map (some C)),(9,s),(10,.int .i64 (o.length:Int)),(11,.int .i64 x)]∧Sep w (cB Tryz.prog 2 (kyI .i64) (kI .i64) false C y::Fo) z∧(∀ r,r ∈ rs→r ∈ z)∧eN o p x y=some r) (((o.length:Int) - 0:Int).toNat+1) ?_ ?_
 ·exact X3 ⟨E.to rfl,H,Y0,hm⟩
 ·clear E H hm
  rintro p a w ⟨x,y,z,E,H,e,hm⟩
  cases p with
  | zero=>exact (bT hm rfl).elim
  | succ p=>
   unfold eN at hm
   refine sq<|pr 1 E rfl fun a E=>nt<|wp_seq<|wif E hm rfl (fun hm=>?_) fun hm=>?_
   ·refine wp_skip<|aC<|wp_seq<|wp_block<|sq<|pr 1 E rfl fun a E=>bd hm fun F G hm=>dE E H (wn rfl) rfl rfl rfl rfl rfl (e _ t) U62 gQ G fun q11 a H E=>ldf eC E H rfl rfl rfl rfl rfl m0 s9 rfl gQ fun a E=>?_
    refine al E H rfl rfl rfl rfl Jd fun D w a H E=>pr 1 E rfl fun a E=>aZ (i:=0) E H (wn rfl) rfl rfl rfl rfl rfl rfl gQ rfl rfl fun w H=>nx<|pr 2 E rfl fun a E=>lb E H 0 rfl rfl rfl rfl rfl rfl rfl U2 rfl fun a E=>bd hm fun X I hm=>sv E rfl rfl rfl (Ny (i:=1) (K:=(kyI .i64)) (z0:=0) (u:=X) E H rfl rfl rfl rfl (dX U2) Sz AH I) fun a E=>pr 5 E rfl fun a E=>?_
    refine nt<|wp_seq<|aT (fun a w=>∃ A q,Env 69 a [(0,s),(3,.map (some C)),(5,pt D 0),(9,s),(10,.int .i64 (o.length:Int)),(11,.int .i64 x),(62,.bool A)]∧Sep w (cB Tryz.prog 2 (kyI .i64) (kI .i64) false C y::Blk D 103 (nG F)::Fo) q∧(∀ r,r ∈ rs→r ∈ q)∧gG (eN o p) y F x A=some r) ?_ ?_
    ·obtain ⟨Y,H⟩:=H.raw (t1 (e _ t))
     refine dw [(0,0),(1,0),(2,1),(3,0),(4,0),(5,0),(6,0),(7,1),(8,0),(9,0),(10,0),(11,0),(12,0),(13,1),(14,0),(15,0),(16,0),(17,0),(18,0),(19,0),(20,0),(21,0),(22,0),(23,0),(24,0),(25,0),(26,0),(27,0),(28,0),(29,0),(30,0),(31,0),(32,0),(33,0),(34,0),(35,0),(36,0),(37,0),(38,0),(39,0)] [0] [0] H (by kernel_rfl) (fun _ _ _ h=>False.elim h.2) fun w W0 hI H=>fn 1 E rfl fun a E=>fb E rfl (wn rfl) rfl rfl rfl rfl m0 rfl U9 rfl fun a E=>bZ rfl<|bd hm fun Z J hm=>xk E rfl rfl rfl rfl rfl yU (gC H J) fun w H a E=>nt<|?_
     refine ⟨⟨_,_,H,(aB m0 (aL)),(aA m0 (aM))⟩,?_⟩
     refine fn 2 E rfl fun a E=>cs hm (fun f hm=>?_) fun f hm=>?_
     ·refine fk 2 E (kc 27 rfl f) rfl fun a E=>bZ rfl<|pk 1 E (kc 27 rfl f) rfl fun a E=>nt<|?_
      refine ⟨⟨_,_,H,(aB m0 (aL)),(aA m0 (aM))⟩,?_⟩
      refine fk 5 E (kc 27 rfl f) rfl fun a E=>bZ rfl<|pr 1 E rfl fun a E=>nt<|?_
      refine ⟨⟨_,_,H,(aB m0 (aL)),(aA m0 (aM))⟩,?_⟩
      refine fn 26 E rfl fun a E=>bR<|?_
      clear hI
      exact aC<|have H:=H.frs [0,1] rfl;⟨_,_,E.to rfl,H,(Y2 e),hm⟩
     ·refine fk 1 E (kc 27 rfl f) rfl fun a E=>fb E rfl (ws' (d:=27) E rfl rfl rfl rfl f) rfl rfl rfl rfl m0 rfl U2 rfl fun a E=>bZ rfl<|bd hm fun b0 L hm=>aU E (ws' (d:=27) E rfl rfl rfl rfl f) rfl rfl (cC E rfl rfl (Ei _)) (wL H L)<|?_
      rintro _ w ⟨rfl,H⟩ a E
      refine nt<|?_
      refine ⟨⟨_,_,H,(aB m0 (aL)),(aA m0 (aM))⟩,?_⟩
      refine fk 3 E (kc 27 rfl f) rfl fun a E=>cs hm (fun j hm=>?_) fun j hm=>?_
      ·refine fk 2 E (kc 33 rfl j) rfl fun a E=>bZ rfl<|pk 1 E (kc 33 rfl j) rfl fun a E=>nt<|?_
       refine ⟨⟨_,_,H,(aB m0 (aL)),(aA m0 (aM))⟩,?_⟩
       refine fk 26 E (kc 33 rfl j) rfl fun a E=>bR<|?_
       clear hI
       exact aC<|have H:=H.frs [0,1] rfl;⟨_,_,E.to rfl,H,(Y2 e),hm⟩
      ·refine fk 1 E (kc 33 rfl j) rfl fun a E=>fb E rfl (ws' (d:=33) E rfl rfl rfl rfl j) rfl rfl rfl rfl m0 rfl U2 rfl fun a E=>bZ rfl<|bd hm fun b1 M hm=>aU E (ws' (d:=33) E rfl rfl rfl rfl j) rfl rfl (cC E rfl rfl (Ei _)) (wL H M)<|?_
       rintro _ w ⟨rfl,H⟩ a E
       refine nt<|?_
       refine ⟨⟨_,_,H,(aB m0 (aL)),(aA m0 (aM))⟩,?_⟩
       refine fk 3 E (kc 33 rfl j) rfl fun a E=>cs hm (fun l hm=>?_) fun l hm=>?_
       ·refine fk 23 E (kc 39 rfl l) rfl fun a E=>bR<|?_
        clear hI
        exact aC<|have H:=H.frs [0,1] rfl;⟨_,_,E.to rfl,H,(Y2 e),hm⟩
       ·refine fk 2 E (kc 39 rfl l) rfl fun a E=>cs hm (fun m hm=>?_) fun m hm=>?_
        ·refine fk 2 E (kc 41 rfl m) rfl fun a E=>fb E rfl (ws' (d:=41) E rfl rfl rfl rfl m) rfl rfl rfl rfl m0 rfl U2 rfl fun a E=>fk 4 E (kc' (kc 41 rfl m) 39 rfl l) rfl fun a E=>cs hm (fun n hm=>?_) fun n hm=>?_
         ·refine fk 14 E (kc 48 rfl n) rfl fun a E=>bR<|?_
          clear hI
          exact aC<|have H:=H.frs [0,1] rfl;⟨_,_,E.to rfl,H,(Y2 e),hm⟩
         ·refine fk 3 E (kc 48 rfl n) rfl fun a E=>cs hm (fun b hm=>?_) fun b hm=>?_
          ·refine fk 3 E (kc 51 rfl b) rfl fun a E=>bd hm fun b2 N hm=>?_
           obtain ⟨q35,b3,O,Q⟩:=oO (P:=Tryz.prog) (k:=.i64) hI (oN (.head _)) U62 gQ N
           refine bW E rfl (ws' (d:=51) E rfl rfl rfl rfl b) rfl rfl (fun w hW=>rI E rfl rfl rfl (O w)) fun a E=>?_
           have R:=uU Q (fun _ _ _ h=>G7 h)
           refine fk 1 E (kc 51 rfl b) rfl fun a E=>fa E rfl (ws' (d:=51) E rfl rfl rfl rfl b) rfl rfl rfl rfl R U9 rfl fun a E=>fk 1 E (kc 51 rfl b) rfl fun a E=>fb E rfl (ws' (d:=51) E rfl rfl rfl rfl b) rfl rfl rfl rfl m0 rfl U9 rfl fun a E=>fk 3 E (kc' (kc 51 rfl b) 48 rfl n) rfl fun a E=>bR<|?_
           clear hI
           exact aC<|have H:=H.frs [0,1] rfl;⟨_,_,E.to rfl,H,(Y2 e),hm⟩
          ·refine fk 11 E (kc' (kc 51 rfl b) 48 rfl n) rfl fun a E=>bR<|?_
           clear hI
           exact aC<|have H:=H.frs [0,1] rfl;⟨_,_,E.to rfl,H,(Y2 e),hm⟩
        ·refine fk 10 E (kc' (kc 41 rfl m) 39 rfl l) rfl fun a E=>cs hm (fun c hm=>?_) fun c hm=>?_
         ·refine fk 3 E (kc 51 rfl c) rfl fun a E=>bd hm fun b4 S hm=>?_
          obtain ⟨q43,b5,T,U⟩:=oO (P:=Tryz.prog) (k:=.i64) hI (oN (.head _)) U62 gQ S
          refine bW E rfl (ws' (d:=51) E rfl rfl rfl rfl c) rfl rfl (fun w hW=>rI E rfl rfl rfl (T w)) fun a E=>?_
          have V:=uU U (fun _ _ _ h=>G7 h)
          refine fk 1 E (kc 51 rfl c) rfl fun a E=>fa E rfl (ws' (d:=51) E rfl rfl rfl rfl c) rfl rfl rfl rfl V U9 rfl fun a E=>fk 1 E (kc 51 rfl c) rfl fun a E=>fb E rfl (ws' (d:=51) E rfl rfl rfl rfl c) rfl rfl rfl rfl m0 rfl U9 rfl fun a E=>fk 3 E (kc 51 rfl c) rfl fun a E=>bR<|?_
          clear hI
          exact aC<|have H:=H.frs [0,1] rfl;⟨_,_,E.to rfl,H,(Y2 e),hm⟩
         ·refine fk 11 E (kc 51 rfl c) rfl fun a E=>bR<|?_
          clear hI
          exact aC<|have H:=H.frs [0,1] rfl;⟨_,_,E.to rfl,H,(Y2 e),hm⟩
    ·clear E H hm
     rintro a w ⟨A,q,E,H,B,hm⟩
     unfold gG at hm
     refine wif E hm rfl (fun hm=>?_) fun hm=>?_
     ·refine sq<|pr 1 E rfl fun a E=>nt<|wp_ret<|aP<|bV<|aP<|aP<|bV<|?_
      refine aP<|aY E rfl rfl<|have H:=H.drs [0,0];?_
      cases hm
      exact ⟨rfl,H.reads B⟩
     ·refine wp_skip<|aC<|wp_region_lit<|pr 2 E rfl fun a E=>lb E H 1 rfl rfl rfl rfl rfl rfl rfl U2 rfl fun a E=>pr 1 E rfl fun a E=>lb E H 1 rfl rfl rfl rfl rfl rfl rfl U2 rfl fun a E=>bd hm fun b6 W hm=>Hd (i:=0) (K:=(kyI .i64)) (v:=F.Age) E H (wn rfl) rfl rfl rfl rfl rfl rfl (dX U2) Sz W fun w H=>?_
      exact wpList_nil<|bY<|aC<|wp_region_lit<|pr 2 E rfl fun a E=>nt<|have H:=H.drop 1;⟨p,Nat.lt_succ_self p,X3 ⟨E.to rfl,H,B,hm⟩⟩
   ·refine wp_exit<|bH<|bH<|dG<|aC<|sq<|pr 1 E rfl fun a E=>nt<|wp_ret<|?_
    refine aY E rfl rfl<|have H:=H.drop 0;?_
    cases hm
    exact ⟨rfl,H.reads e⟩

def jS(b:List ((Int)×Int)):Option Unit:=
  some ()
theorem wM{c:Nat}{d:List ((Int)×Int)}(H:Sep w (cB Tryz.prog 2 (kyI .i64) (kI .i64) false c d::Fo) rs){r:Unit}(hm:jS d=some r) :
    Calls Tryz.prog 134 [.map (some c)].toArray w (Ret fun v w'=>∃ b,.func (.func 190) #[] #[pt b 0]=v∧Sep w' (Blk b 183 [.map (some c)]::cB Tryz.prog 2 (kyI .i64) (kI .i64) false c d::Fo) (rs)):=by
 unfold jS at hm
 refine ent Tryz.func134 rfl Tryz.ntmps134 rfl rfl fun a E=>sq<|bS E H (wn rfl) rfl rfl rfl rfl rfl fun e w a H E=>pr 1 E rfl fun a E=>nx<|sv E rfl rfl rfl (iP E rfl rfl rfl) fun a E=>pr 1 E rfl fun a E=>nt<|wp_ret<|?_
 refine aY E rfl rfl<|?_
 cases hm
 exact ⟨_,rfl,H.reads Y0⟩

def wN(x1:aN)(b:ByteArray):Option Int:=
  (jZ x1.Dir b).bind fun c=>some (c)
theorem J2{x1:aN}{b:ByteArray}(H:Sep w (Fo) rs){r:Int}(hm:wN x1 b=some r) :
    Calls Tryz.prog 136 [.agg (nG x1).toArray,.string b].toArray w (Ret fun v w'=>.int .i64 r=v∧Sep w' (Fo) (rs)):=by
 unfold wN at hm
 refine ent Tryz.func136 rfl Tryz.ntmps136 rfl rfl fun a E=>sq<|bS E H (wn rfl) rfl rfl rfl rfl rfl fun d w a H E=>pr 1 E rfl fun a E=>nx<|pr 1 E rfl fun a E=>lb E H 0 rfl rfl rfl rfl rfl rfl rfl U9 rfl fun a E=>pr 1 E rfl fun a E=>bd hm fun e c hm=>?_
 refine xk E rfl rfl rfl rfl rfl Fu (oP H c) fun w H a E=>pr 1 E rfl fun a E=>nt<|wp_ret<|aY E rfl rfl<|have H:=H.drop 0;?_
 cases hm
 exact ⟨rfl,H.reads Y0⟩

def dD(c:List aN)(e:ByteArray):Nat→Int→Int→Option (Int×Bool)
  | 0,_,_=>none
  | f+1,b,d=>
    if (decide (b < d))=true then ((idx c (IntKind.i64.wrap (pH .u64 (IntKind.u64.wrap (IntKind.i64.wrap (b+d))) 1))).bind fun k=>(wN k e).bind fun g=>if (decide (g < 0))=true then (dD c e f (IntKind.i64.wrap ((IntKind.i64.wrap (pH .u64 (IntKind.u64.wrap (IntKind.i64.wrap (b+d))) 1))+1)) d) else (dD c e f b (IntKind.i64.wrap (pH .u64 (IntKind.u64.wrap (IntKind.i64.wrap (b+d))) 1)))) else (if (decide (b < (c.length:Int)))=true then ((idx c b).bind fun i=>(wN i e).bind fun j=>some (b,j == 0)) else (some (b,false)))
def fK(b:List aN)(c:ByteArray):Option (Int×Bool):=
  dD b c (((b.length:Int) - 0:Int).toNat+1) 0 (b.length:Int)
theorem pC{j:Value}{e:List aN}{p:ByteArray}(H:Sep w (Row 103 bG j e::Fo) rs){r:Int×Bool}(hm:fK e p=some r) :
    Calls Tryz.prog 135 [j,.string p,.func (.func 136) #[] #[]].toArray w (Ret fun v w'=>.tuple #[.int .i64 r.1,.bool r.2]=v∧Sep w' (Row 103 bG j e::Fo) (rs)):=by
 unfold fK at hm
 refine ent Tryz.func135 rfl Tryz.ntmps135 rfl rfl fun a E=>sq<|pr 2 E rfl fun a E=>nx<|pr 1 E rfl fun a E=>sv E rfl rfl rfl (iZ (i:=0) E H rfl rfl rfl U62) fun a E=>pr 1 E rfl fun a E=>nx<|pr 3 E rfl fun a E=>?_
 refine nt<|wp_seq<|wp_block<|bX (fun c a w=>∃ q s k,Env 49 a [(0,j),(1,.string p),(2,.func (.func 136) #[] #[]),(8,.int .i64 (e.length:Int)),(9,.int .i64 q),(10,.int .i64 s)]∧Sep w (Row 103 bG j e::Fo) k∧(∀ r,r ∈ rs→r ∈ k)∧dD e p c q s=some r) (((e.length:Int) - 0:Int).toNat+1) ?_ ?_
 ·exact X3 ⟨E.to rfl,H,Y0,hm⟩
 ·clear E H hm
  rintro c a w ⟨q,s,k,E,H,g,hm⟩
  cases c with
  | zero=>exact (bT hm rfl).elim
  | succ c=>
   unfold dD at hm
   refine wp_seq<|sq<|pr 3 E rfl fun a E=>nt<|wif E hm rfl (fun hm=>?_) fun hm=>?_
   ·refine wp_skip<|aC<|wp_block<|sq<|pr 4 E rfl fun a E=>sv E rfl rfl rfl (J4 E rfl rfl rfl (by decide)) fun a E=>pr 2 E rfl fun a E=>nx<|pr 3 E rfl fun a E=>?_
    refine bd hm fun t l hm=>?_
    obtain ⟨y,z,m⟩:=H.rowformNE (i:=0) rfl l
    refine sv E rfl rfl rfl (cY (d:=bG) E m rfl rfl rfl rfl U62 gQ l) fun a E=>sv E rfl rfl rfl (fZ (i:=0) E H eC m rfl rfl rfl l (us:=[.string t.Dir,.int .i64 t.Txn,.int .i64 t.Age]) rfl s9 rfl gQ) fun a E=>pr 1 E rfl fun a E=>bd hm fun A u hm=>aU E (wn rfl) rfl rfl (bP E rfl rfl rfl (Ni _)) (J2 H u)<|?_
    rintro _ w ⟨rfl,H⟩ a E
    refine pr 1 E rfl fun a E=>nt<|wif E hm rfl (fun hm=>?_) fun hm=>?_
    ·exact wp_region_lit<|pr 3 E rfl fun a E=>wpList_nil<|bY<|aC<|⟨c,Nat.lt_succ_self c,X3 ⟨E.to rfl,H,g,hm⟩⟩
    ·exact wp_region_lit<|pr 2 E rfl fun a E=>wpList_nil<|bY<|aC<|⟨c,Nat.lt_succ_self c,X3 ⟨E.to rfl,H,g,hm⟩⟩
   ·refine wp_exit<|bH<|bH<|dG<|aC<|sq<|pr 5 E rfl fun a E=>cs hm (fun b hm=>?_) fun b hm=>?_
    ·refine pk 3 E (kc 39 rfl b) rfl fun a E=>bd hm fun n f hm=>?_
     obtain ⟨B,C,o⟩:=H.rowformNE (i:=0) rfl f
     refine aQ E (ws' (d:=39) E rfl rfl rfl rfl b) rfl rfl (cY (d:=bG) E o rfl rfl rfl rfl U62 gQ f) fun a E=>aQ E (ws' (d:=39) E rfl rfl rfl rfl b) rfl rfl (fZ (i:=0) E H eC o rfl rfl rfl f (us:=[.string n.Dir,.int .i64 n.Txn,.int .i64 n.Age]) rfl s9 rfl gQ) fun a E=>pk 1 E (kc 39 rfl b) rfl fun a E=>bd hm fun D x hm=>aU E (ws' (d:=39) E rfl rfl rfl rfl b) rfl rfl (bP E rfl rfl rfl (Ni _)) (J2 H x)<|?_
     rintro _ w ⟨rfl,H⟩ a E
     refine pk 4 E (kc 39 rfl b) rfl fun a E=>nt<|wp_ret<|fX E rfl rfl rfl<|?_
     cases hm
     exact ⟨rfl,H.reads g⟩
    ·refine pk 11 E (kc 39 rfl b) rfl fun a E=>nt<|wp_ret<|fX E rfl rfl rfl<|?_
     cases hm
     exact ⟨rfl,H.reads g⟩

def a8(x1:aN)(x3:Int)(b:Int):Option Bool:=
  if (x1.Txn == x3)=true then (some (x1.Age != b)) else (some (false))
theorem Ct{x1:aN}{c e:Nat}{x3 f:Int}(H:Sep w (Blk c 2 [.int .i64 x3]::Blk e 2 [.int .i64 f]::Fo) rs){r:Bool}(hm:a8 x1 x3 f=some r) :
    Calls Tryz.prog 128 [.agg (nG x1).toArray,pt c 0,pt e 0].toArray w (Ret fun v w'=>.bool r=v∧Sep w' (Blk c 2 [.int .i64 x3]::Blk e 2 [.int .i64 f]::Fo) (rs)):=by
 unfold a8 at hm
 refine ent Tryz.func128 rfl Tryz.ntmps128 rfl rfl fun a E=>sq<|bS E H (wn rfl) rfl rfl rfl rfl rfl fun g w a H E=>pr 1 E rfl fun a E=>nx<|pr 1 E rfl fun a E=>lb E H 0 rfl rfl rfl rfl rfl rfl rfl U2 rfl fun a E=>lb E H 1 rfl rfl rfl rfl rfl rfl rfl U2 rfl fun a E=>pr 2 E rfl fun a E=>cs hm (fun b hm=>?_) fun b hm=>?_
 ·refine pk 1 E (kc 9 rfl b) rfl fun a E=>aQ E (ws' (d:=9) E rfl rfl rfl rfl b) rfl rfl (cD (i:=0) E H rfl rfl rfl rfl U2 rfl) fun a E=>aQ E (ws' (d:=9) E rfl rfl rfl rfl b) rfl rfl (cD (i:=2) E H rfl rfl rfl rfl U2 rfl) fun a E=>pk 3 E (kc 9 rfl b) rfl fun a E=>nt<|wp_ret<|aY E rfl rfl<|have H:=H.drop 0;?_
  cases hm
  exact ⟨rfl,H.reads Y0⟩
 ·refine pk 6 E (kc 9 rfl b) rfl fun a E=>nt<|wp_ret<|aY E rfl rfl<|have H:=H.drop 0;?_
  cases hm
  exact ⟨rfl,H.reads Y0⟩

def eY(c:List aN)(d:Int)(e:Int):Nat→Int→Option Int
  | 0,_=>none
  | i+1,b=>
    if (decide (b < (c.length:Int)))=true then ((idx c b).bind fun f=>(a8 f d e).bind fun g=>if g=true then (some (b)) else (eY c d e i (IntKind.i64.wrap (b+1)))) else (some ((-1)))
def iO(b:List aN)(c:Int)(d:Int):Option Int:=
  eY b c d (((b.length:Int) - 0:Int).toNat+1) 0
theorem uE{l:Value}{d:List aN}{e f:Nat}{g i:Int}(H:Sep w (Blk e 2 [.int .i64 g]::Blk f 2 [.int .i64 i]::Fo) rs)(k:rSl bG l d ∈ rs){r:Int}(hm:iO d g i=some r) :
    Calls Tryz.prog 120 [l,.func (.func 128) #[] #[pt e 0,pt f 0]].toArray w (Ret fun v w'=>.int .i64 r=v∧Sep w' (Blk e 2 [.int .i64 g]::Blk f 2 [.int .i64 i]::Fo) (rs)):=by
 unfold iO at hm
 refine ent Tryz.func120 rfl Tryz.ntmps120 rfl rfl fun a E=>sq<|pr 1 E rfl fun a E=>nt<|wp_seq<|sq<|pr 1 E rfl fun a E=>sv E rfl rfl rfl (cR E H rfl rfl k U62) fun a E=>pr 1 E rfl fun a E=>?_
 refine nt<|wp_block<|bX (fun c a w=>∃ m j,Env 19 a [(0,l),(1,.func (.func 128) #[] #[pt e 0,pt f 0]),(7,.int .i64 (d.length:Int)),(8,.int .i64 m)]∧Sep w (Blk e 2 [.int .i64 g]::Blk f 2 [.int .i64 i]::Fo) j∧(∀ r,r ∈ rs→r ∈ j)∧eY d g i c m=some r) (((d.length:Int) - 0:Int).toNat+1) ?_ ?_
 ·exact ⟨_,_,E.to rfl,H,Y0,hm⟩
 ·clear E H hm
  rintro c a w ⟨m,j,E,H,b,hm⟩
  cases c with
  | zero=>exact (bT hm rfl).elim
  | succ c=>
   unfold eY at hm
   refine sq<|pr 1 E rfl fun a E=>nt<|wp_seq<|wif E hm rfl (fun hm=>?_) fun hm=>?_
   ·refine wp_skip<|aC<|wp_seq<|wp_block<|sq<|pr 2 E rfl fun a E=>nx<|pr 3 E rfl fun a E=>bd hm fun p n hm=>?_
    refine dE E H (wn rfl) rfl rfl rfl rfl rfl (b _ k) U62 gQ n fun q13 a H E=>ldf eC E H rfl rfl rfl rfl rfl m0 s9 rfl gQ fun a E=>bd hm fun q o hm=>aU E (wn rfl) rfl rfl (bP E rfl rfl rfl (Ya _)) (Ct H o)<|?_
    rintro _ w ⟨rfl,H⟩ a E
    refine nt<|wif E hm rfl (fun hm=>?_) fun hm=>?_
    ·refine sq<|pr 2 E rfl fun a E=>nt<|wp_ret<|bV<|aP<|aP<|bV<|aP<|?_
     refine aY E rfl rfl<|?_
     cases hm
     exact ⟨rfl,H.reads (Y1 b)⟩
    ·exact wp_skip<|bY<|aC<|wp_region_lit<|pr 2 E rfl fun a E=>nt<|⟨c,Nat.lt_succ_self c,_,_,E.to rfl,H,(Y1 b),hm⟩
   ·refine wp_exit<|bH<|bH<|dG<|aC<|sq<|pr 1 E rfl fun a E=>nt<|wp_ret<|?_
    refine aY E rfl rfl<|?_
    cases hm
    exact ⟨rfl,H.reads b⟩

def gV(b:List aN)(c:Int)(d:Int):Option Bool:=
  (iO b c d).bind fun e=>some (decide (e ≥ 0))
theorem sE{f:Value}{g:List aN}{b c:Nat}{d e:Int}(H:Sep w (Blk b 2 [.int .i64 d]::Blk c 2 [.int .i64 e]::Fo) rs)(i:rSl bG f g ∈ rs){r:Bool}(hm:gV g d e=some r) :
    Calls Tryz.prog 127 [f,.func (.func 128) #[] #[pt b 0,pt c 0]].toArray w (Ret fun v w'=>.bool r=v∧Sep w' (Blk b 2 [.int .i64 d]::Blk c 2 [.int .i64 e]::Fo) (rs)):=by
 unfold gV at hm
 refine ent Tryz.func127 rfl Tryz.ntmps127 rfl rfl fun a E=>sq<|pr 1 E rfl fun a E=>nx<|pr 2 E rfl fun a E=>bd hm fun k j hm=>xk E rfl rfl rfl rfl rfl Bi (uE H i j) fun w H a E=>pr 2 E rfl fun a E=>nt<|?_
 refine wp_ret<|aY E rfl rfl<|?_
 cases hm
 exact ⟨rfl,H.reads Y0⟩

def h9(b:ByteArray):Option Bool:=
  (fA b).bind fun c=>some (!c)
theorem Cu{b:ByteArray}(H:Sep w (Fo) rs){r:Bool}(hm:h9 b=some r) :
    Calls Tryz.prog 126 [.string b].toArray w (Ret fun v w'=>.bool r=v∧Sep w' (Fo) (rs)):=by
 unfold h9 at hm
 refine ent Tryz.func126 rfl Tryz.ntmps126 rfl rfl fun a E=>sq<|pr 1 E rfl fun a E=>nx<|pr 1 E rfl fun a E=>bd hm fun d c hm=>xk E rfl rfl rfl rfl rfl yU (gC H c) fun w H a E=>pr 2 E rfl fun a E=>nt<|?_
 refine wp_ret<|aY E rfl rfl<|?_
 cases hm
 exact ⟨rfl,H.reads Y0⟩

def fS(c:List ByteArray):Nat→Int→Option Int
  | 0,_=>none
  | e+1,b=>
    if (decide (b < (c.length:Int)))=true then ((idx c b).bind fun f=>(h9 f).bind fun d=>if d=true then (some (b)) else (fS c e (IntKind.i64.wrap (b+1)))) else (some ((-1)))
def kC(b:List ByteArray):Option Int:=
  fS b (((b.length:Int) - 0:Int).toNat+1) 0
theorem wY{g:Value}{d:List ByteArray}(H:Sep w (Fo) rs)(f:rSl kS g d ∈ rs){r:Int}(hm:kC d=some r) :
    Calls Tryz.prog 119 [g,.func (.func 126) #[] #[]].toArray w (Ret fun v w'=>.int .i64 r=v∧Sep w' (Fo) (rs)):=by
 unfold kC at hm
 refine ent Tryz.func119 rfl Tryz.ntmps119 rfl rfl fun a E=>sq<|pr 1 E rfl fun a E=>nt<|wp_seq<|sq<|pr 1 E rfl fun a E=>sv E rfl rfl rfl (cR E H rfl rfl f U33) fun a E=>pr 1 E rfl fun a E=>?_
 refine nt<|wp_block<|bX (fun c a w=>∃ i e,Env 19 a [(0,g),(1,.func (.func 126) #[] #[]),(7,.int .i64 (d.length:Int)),(8,.int .i64 i)]∧Sep w (Fo) e∧(∀ r,r ∈ rs→r ∈ e)∧fS d c i=some r) (((d.length:Int) - 0:Int).toNat+1) ?_ ?_
 ·exact ⟨_,_,E.to rfl,H,Y0,hm⟩
 ·clear E H hm
  rintro c a w ⟨i,e,E,H,b,hm⟩
  cases c with
  | zero=>exact (bT hm rfl).elim
  | succ c=>
   unfold fS at hm
   refine sq<|pr 1 E rfl fun a E=>nt<|wp_seq<|wif E hm rfl (fun hm=>?_) fun hm=>?_
   ·refine wp_skip<|aC<|wp_seq<|wp_block<|sq<|pr 2 E rfl fun a E=>nx<|pr 3 E rfl fun a E=>bd hm fun m k hm=>?_
    refine dE E H (wn rfl) rfl rfl rfl rfl rfl (b _ f) U33 sz9 k fun q9 a H E=>sv E rfl rfl rfl (nT E H rfl rfl m0 U9 rfl) fun a E=>bd hm fun l j hm=>aU E (wn rfl) rfl rfl (bP E rfl rfl rfl (Xz _)) (Cu H j)<|?_
    rintro _ w ⟨rfl,H⟩ a E
    refine nt<|wif E hm rfl (fun hm=>?_) fun hm=>?_
    ·refine sq<|pr 2 E rfl fun a E=>nt<|wp_ret<|bV<|aP<|aP<|bV<|aP<|?_
     refine aY E rfl rfl<|?_
     cases hm
     exact ⟨rfl,H.reads (Y1 b)⟩
    ·exact wp_skip<|bY<|aC<|wp_region_lit<|pr 2 E rfl fun a E=>nt<|⟨c,Nat.lt_succ_self c,_,_,E.to rfl,H,(Y1 b),hm⟩
   ·refine wp_exit<|bH<|bH<|dG<|aC<|sq<|pr 1 E rfl fun a E=>nt<|wp_ret<|?_
    refine aY E rfl rfl<|?_
    cases hm
    exact ⟨rfl,H.reads b⟩

def iW(b:List ByteArray):Option Bool:=
  (kC b).bind fun c=>some (decide (c ≥ 0))
theorem uS{b:Value}{c:List ByteArray}(H:Sep w (Fo) rs)(d:rSl kS b c ∈ rs){r:Bool}(hm:iW c=some r) :
    Calls Tryz.prog 66 [b,.func (.func 126) #[] #[]].toArray w (Ret fun v w'=>.bool r=v∧Sep w' (Fo) (rs)):=by
 unfold iW at hm
 refine ent Tryz.func66 rfl Tryz.ntmps66 rfl rfl fun a E=>sq<|pr 1 E rfl fun a E=>nx<|pr 2 E rfl fun a E=>bd hm fun f e hm=>xk E rfl rfl rfl rfl rfl Iq (wY H d e) fun w H a E=>pr 2 E rfl fun a E=>nt<|?_
 refine wp_ret<|aY E rfl rfl<|?_
 cases hm
 exact ⟨rfl,H.reads Y0⟩

def iD(c:List ByteArray)(d:ByteArray):Nat→Int→Option Int
  | 0,_=>none
  | e+1,b=>
    if (decide (b < (c.length:Int)))=true then ((idx c b).bind fun f=>if (sEq d f)=true then (some (b)) else (iD c d e (IntKind.i64.wrap (b+1)))) else (some ((-1)))
def nD(b:List ByteArray)(c:ByteArray):Option Int:=
  iD b c (((b.length:Int) - 0:Int).toNat+1) 0
theorem q3{i:Value}{d:List ByteArray}{f:ByteArray}(H:Sep w (Fo) rs)(g:rSl kS i d ∈ rs){r:Int}(hm:nD d f=some r) :
    Calls Tryz.prog 186 [i,.string f].toArray w (Ret fun v w'=>.int .i64 r=v∧Sep w' (Fo) (rs)):=by
 unfold nD at hm
 refine ent Tryz.func186 rfl Tryz.ntmps186 rfl rfl fun a E=>sq<|pr 1 E rfl fun a E=>nt<|wp_seq<|sq<|pr 1 E rfl fun a E=>sv E rfl rfl rfl (cR E H rfl rfl g U33) fun a E=>pr 1 E rfl fun a E=>?_
 refine nt<|wp_block<|bX (fun c a w=>∃ j e,Env 19 a [(0,i),(1,.string f),(7,.int .i64 (d.length:Int)),(8,.int .i64 j)]∧Sep w (Fo) e∧(∀ r,r ∈ rs→r ∈ e)∧iD d f c j=some r) (((d.length:Int) - 0:Int).toNat+1) ?_ ?_
 ·exact ⟨_,_,E.to rfl,H,Y0,hm⟩
 ·clear E H hm
  rintro c a w ⟨j,e,E,H,b,hm⟩
  cases c with
  | zero=>exact (bT hm rfl).elim
  | succ c=>
   unfold iD at hm
   refine sq<|pr 1 E rfl fun a E=>nt<|wp_seq<|wif E hm rfl (fun hm=>?_) fun hm=>?_
   ·refine wp_skip<|aC<|wp_seq<|wp_block<|sq<|pr 2 E rfl fun a E=>nx<|pr 3 E rfl fun a E=>bd hm fun l k hm=>?_
    refine dE E H (wn rfl) rfl rfl rfl rfl rfl (b _ g) U33 sz9 k fun q10 a H E=>sv E rfl rfl rfl (nT E H rfl rfl m0 U9 rfl) fun a E=>pr 1 E rfl fun a E=>nt<|wif E hm rfl (fun hm=>?_) fun hm=>?_
    ·refine sq<|pr 2 E rfl fun a E=>nt<|wp_ret<|bV<|aP<|aP<|bV<|aP<|?_
     refine aY E rfl rfl<|?_
     cases hm
     exact ⟨rfl,H.reads (Y1 b)⟩
    ·exact wp_skip<|bY<|aC<|wp_region_lit<|pr 2 E rfl fun a E=>nt<|⟨c,Nat.lt_succ_self c,_,_,E.to rfl,H,(Y1 b),hm⟩
   ·refine wp_exit<|bH<|bH<|dG<|aC<|sq<|pr 1 E rfl fun a E=>nt<|wp_ret<|?_
    refine aY E rfl rfl<|?_
    cases hm
    exact ⟨rfl,H.reads b⟩

def lP(b:List ByteArray)(c:ByteArray):Option Bool:=
  (nD b c).bind fun d=>some (decide (d ≥ 0))
theorem yK{b:Value}{c:List ByteArray}{d:ByteArray}(H:Sep w (Fo) rs)(e:rSl kS b c ∈ rs){r:Bool}(hm:lP c d=some r) :
    Calls Tryz.prog 131 [b,.string d].toArray w (Ret fun v w'=>.bool r=v∧Sep w' (Fo) (rs)):=by
 unfold lP at hm
 refine ent Tryz.func131 rfl Tryz.ntmps131 rfl rfl fun a E=>sq<|pr 1 E rfl fun a E=>nx<|pr 2 E rfl fun a E=>bd hm fun g f hm=>xk E rfl rfl rfl rfl rfl Yd (q3 H e f) fun w H a E=>pr 2 E rfl fun a E=>nt<|?_
 refine wp_ret<|aY E rfl rfl<|?_
 cases hm
 exact ⟨rfl,H.reads Y0⟩

def qZ(rec_1:Bool→Int→(List ((Int)×Int))→Option ((List aN)×(List Int)×Bool))(x20:Int)(b:Bool)(c:(List ((Int)×Int))):Option ((List aN)×(List Int)×Bool):=
  rec_1 b (IntKind.i64.wrap (x20+1)) c
def uN(rec_1:Bool→Int→(List ((Int)×Int))→Option ((List aN)×(List Int)×Bool))(x20:Int)(b:aN)(d:Int)(x3:Int)(c:(List ((Int)×Int)))(e:Bool)(f:Bool):Option ((List aN)×(List Int)×Bool):=
  if f=true then ((ck (Jh b.Age b.Txn d x3)).bind fun j=>if (Bo b.Age b.Txn d x3)=true then ((mlk (kyI .i64) c b.Txn).bind fun g=>(mpt (kyI .i64) c b.Txn (IntKind.i64.wrap ((g.getD 0)+1))).bind fun i=>qZ rec_1 x20 false i) else (qZ rec_1 x20 false c)) else (qZ rec_1 x20 e c)
def uO(rec_2:(List aN)→Int→Option ((List aN)×(List Int)×Bool))(b:Int)(c:(List aN)):Option ((List aN)×(List Int)×Bool):=
  rec_2 c (IntKind.i64.wrap (b+1))
def oI(e:List ByteArray)(x3:Int)(g:Int):Nat→(List aN)→Int→Option ((List aN)×(List Int)×Bool)
  | 0,_,_=>none
  | i+1,b,d=>
    if (decide (d < (e.length:Int)))=true then ((idx e d).bind fun f=>(fK b f).bind fun c=>if (!c.2)=true then ((ck (0 ≤ c.1∧c.1 ≤ b.length∧b.length ≤ 1000000)).bind fun j=>uO (oI e x3 g i) d (b.take c.1.toNat ++ (⟨f,x3,g⟩:aN)::b.drop c.1.toNat)) else (uO (oI e x3 g i) d b)) else (some (b,[],true))
def lY(e:Int)(x3:Int)(f:List ByteArray)(c:List aN):Nat→Bool→Int→(List ((Int)×Int))→Option ((List aN)×(List Int)×Bool)
  | 0,_,_,_=>none
  | i+1,g,x20,b=>
    if (decide (x20 < (c.length:Int)))=true then ((idx c x20).bind fun d=>if (d.Txn != x3)=true then ((lP f d.Dir).bind fun j=>uN (lY e x3 f c i) x20 d e x3 b g j) else (uN (lY e x3 f c i) x20 d e x3 b g false)) else (if (!g)=true then ((jS b).bind fun k=>(ck (b.length ≤ 1000000)).bind fun l=>some (c,En (b.map (·.1)),false)) else ((ck (c.length ≤ LIM)).bind fun m=>oI f x3 e (((f.length:Int) - 0:Int).toNat+1) c 0))
def lZ(d:Int)(x3:Int)(e:List ByteArray)(b:List aN)(c:Bool):Option ((List aN)×(List Int)×Bool):=
  if c=true then (some (([]:List aN),[],false)) else (lY d x3 e b (((b.length:Int) - 0:Int).toNat+1) true 0 [])
def B7(b:List aN)(x3:Int)(c:Int)(d:List ByteArray):Option ((List aN)×(List Int)×Bool):=
  (iW d).bind fun e=>(gV b x3 c).bind fun f=>(w8 b).bind fun g=>if (!g)=true then (lZ c x3 d b true) else ((pE x3).bind fun i=>if (!i)=true then (lZ c x3 d b true) else ((pE c).bind fun j=>if (!j)=true then (lZ c x3 d b true) else (if e=true then (lZ c x3 d b true) else (lZ c x3 d b f))))
theorem Gg{t z:Value}{p:List aN}{x3 b:Int}{m:List ByteArray}(H:Sep w (Fo) rs)(q:rSl bG t p ∈ rs)(T:rSl kS z m ∈ rs){r:(List aN)×(List Int)×Bool}(hm:B7 p x3 b m=some r) :
    Calls Tryz.prog 71 [t,.int .i64 x3,.int .i64 b,z].toArray w (Ret fun v w'=>∃ d3 d4,.tuple #[d3,d4,.bool r.2.2]=v∧Sep w' (Row 2 (kI .i64) d4 r.2.1::Fo) (rSl bG d3 r.1::rs)):=by
 unfold B7 at hm
 refine ent Tryz.func71 rfl Tryz.ntmps71 rfl rfl fun a E=>sq<|bS E H (wn rfl) rfl rfl rfl rfl rfl fun l w a H E=>bS E H (wn rfl) rfl rfl rfl rfl rfl fun f w a H E=>pr 3 E rfl fun a E=>nx<|pr 1 E rfl fun a E=>bd hm fun d5 b5 hm=>xk E rfl rfl rfl rfl rfl Ls (uS H T b5) fun w H a E=>?_
 refine pr 1 E rfl fun a E=>nx<|pr 1 E rfl fun a E=>sv E rfl rfl rfl (iP E rfl rfl rfl) fun a E=>have H:=H.frs [0,1] rfl;bd hm fun d6 b6 hm=>xk E rfl rfl rfl rfl rfl Jc (sE H q b6) fun w H a E=>pr 1 E rfl fun a E=>nt<|?_
 refine wp_seq<|aT (fun a w=>∃ U G,Env 108 a [(0,t),(3,z),(5,pt l 0),(6,pt f 0),(45,.bool U)]∧Sep w (Blk l 2 [.int .i64 x3]::Blk f 2 [.int .i64 b]::Fo) G∧(∀ r,r ∈ rs→r ∈ G)∧lZ b x3 m p U=some r) ?_ ?_
 ·refine wp_region_lit<|pr 1 E rfl fun a E=>bd hm fun d7 b7 hm=>xk E rfl rfl rfl rfl rfl Yb (Ds H q b7) fun w H a E=>pr 2 E rfl fun a E=>cs hm (fun n hm=>?_) fun n hm=>?_
  ·exact pk 15 E (kc 30 rfl n) rfl fun a E=>nt<|⟨_,_,E.to rfl,H,Y0,hm⟩
  ·refine aQ E (ws' (d:=30) E rfl rfl rfl rfl n) rfl rfl (cD (i:=0) E H rfl rfl rfl rfl U2 rfl) fun a E=>bd hm fun d8 b8 hm=>aU E (ws' (d:=30) E rfl rfl rfl rfl n) rfl rfl (cC E rfl rfl (Ei _)) (wL H b8)<|?_
   rintro _ w ⟨rfl,H⟩ a E
   refine pk 3 E (kc 30 rfl n) rfl fun a E=>cs hm (fun o hm=>?_) fun o hm=>?_
   ·exact pk 10 E (kc 35 rfl o) rfl fun a E=>nt<|⟨_,_,E.to rfl,H,Y0,hm⟩
   ·refine aQ E (ws' (d:=35) E rfl rfl rfl rfl o) rfl rfl (cD (i:=1) E H rfl rfl rfl rfl U2 rfl) fun a E=>bd hm fun d9 b9 hm=>aU E (ws' (d:=35) E rfl rfl rfl rfl o) rfl rfl (cC E rfl rfl (Ei _)) (wL H b9)<|?_
    rintro _ w ⟨rfl,H⟩ a E
    refine pk 3 E (kc 35 rfl o) rfl fun a E=>cs hm (fun I hm=>?_) fun I hm=>?_
    ·exact pk 5 E (kc 40 rfl I) rfl fun a E=>nt<|⟨_,_,E.to rfl,H,Y0,hm⟩
    ·refine pk 3 E (kc 40 rfl I) rfl fun a E=>cs hm (fun J hm=>?_) fun J hm=>?_
     ·exact pk 2 E (kc 43 rfl J) rfl fun a E=>nt<|⟨_,_,E.to rfl,H,Y0,hm⟩
     ·exact pk 2 E (kc 43 rfl J) rfl fun a E=>nt<|⟨_,_,E.to rfl,H,Y0,hm⟩
 ·clear E H hm
  rintro a w ⟨U,G,E,H,L,hm⟩
  unfold lZ at hm
  refine wif E hm rfl (fun hm=>?_) fun hm=>?_
  ·refine sq<|pr 3 E rfl fun a E=>nt<|wp_ret<|aP<|Es E rfl rfl rfl rfl<|have H:=H.nilSl bG;have H:=H.nilRow 2 (kI .i64);have H:=H.drs [1,1];?_
   cases hm
   exact ⟨_,_,rfl,H.reads (aA m0 (fun r hr=>(t1 (L r hr))))⟩
  ·refine wp_skip<|aC<|sq<|tK (k:=2) (K:=(kyI .i64)) (d:=(kI .i64)) (g:=false) E H (wn rfl) rfl rfl rfl fun s w a H E=>pr 1 E rfl fun a E=>nx<|pr 1 E rfl fun a E=>nt<|wp_seq<|?_
   refine sq<|pr 1 E rfl fun a E=>sv E rfl rfl rfl (cR E H rfl rfl (L _ q) U62) fun a E=>pr 1 E rfl fun a E=>nt<|wp_block<|bX (fun A a w=>∃ B x20 C M,Env 108 a [(0,t),(3,z),(5,pt l 0),(6,pt f 0),(13,.map (some s)),(14,.bool B),(47,t),(48,.int .i64 (p.length:Int)),(49,.int .i64 x20)]∧Sep w (Blk l 2 [.int .i64 x3]::Blk f 2 [.int .i64 b]::cB Tryz.prog 2 (kyI .i64) (kI .i64) false s C::Fo) M∧(∀ r,r ∈ rs→r ∈ M)∧lY b x3 m p A B x20 C=some r) (((p.length:Int) - 0:Int).toNat+1) ?_ ?_
   ·exact have H:=H.frs [0,2,2] rfl;X4 ⟨E.to rfl,H,L,hm⟩
   ·clear E H hm
    rintro A a w ⟨B,x20,C,M,E,H,c,hm⟩
    cases A with
    | zero=>exact (bT hm rfl).elim
    | succ A=>
     unfold lY at hm
     refine sq<|pr 1 E rfl fun a E=>nt<|wp_seq<|wif E hm rfl (fun hm=>?_) fun hm=>?_
     ·refine wp_skip<|aC<|aT (fun a w=>∃ V W N,Env 108 a [(0,t),(3,z),(5,pt l 0),(6,pt f 0),(13,.map (some s)),(14,.bool V),(47,t),(48,.int .i64 (p.length:Int)),(49,.int .i64 x20)]∧Sep w (Blk l 2 [.int .i64 x3]::Blk f 2 [.int .i64 b]::cB Tryz.prog 2 (kyI .i64) (kI .i64) false s W::Fo) N∧(∀ r,r ∈ rs→r ∈ N)∧qZ (lY b x3 m p A) x20 V W=some r) ?_ ?_
      ·refine wp_block<|sq<|bd hm fun b2 c0 hm=>dE E H (wn rfl) rfl rfl rfl rfl rfl (c _ q) U62 gQ c0 fun q30 a H E=>ldf eC E H rfl rfl rfl rfl rfl m0 s9 rfl gQ fun a E=>al E H rfl rfl rfl rfl Jd fun b3 w a H E=>aZ (i:=0) E H (wn rfl) rfl rfl rfl rfl rfl rfl gQ rfl rfl fun w H=>nt<|aT (fun a w=>∃ X O,Env 108 a [(0,t),(3,z),(5,pt l 0),(6,pt f 0),(13,.map (some s)),(14,.bool B),(16,pt b3 0),(47,t),(48,.int .i64 (p.length:Int)),(49,.int .i64 x20),(62,.bool X)]∧Sep w (Blk l 2 [.int .i64 x3]::Blk f 2 [.int .i64 b]::cB Tryz.prog 2 (kyI .i64) (kI .i64) false s C::Blk b3 103 (nG b2)::Fo) O∧(∀ r,r ∈ rs→r ∈ O)∧uN (lY b x3 m p A) x20 b2 b x3 C B X=some r) ?_ ?_
       ·refine wp_region_lit<|pr 1 E rfl fun a E=>lb E H 0 rfl rfl rfl rfl rfl rfl rfl U2 rfl fun a E=>lb E H 1 rfl rfl rfl rfl rfl rfl rfl U2 rfl fun a E=>pr 2 E rfl fun a E=>cs hm (fun j hm=>?_) fun j hm=>?_
        ·refine pk 2 E (kc 57 rfl j) rfl fun a E=>aQ E (ws' (d:=57) E rfl rfl rfl rfl j) rfl rfl (cD (i:=0) E H rfl rfl rfl rfl U9 rfl) fun a E=>bd hm fun e0 c1 hm=>aU E (ws' (d:=57) E rfl rfl rfl rfl j) rfl rfl (cC E rfl rfl (Yc _)) (yK H (t1 (c _ T)) c1)<|?_
         rintro _ w ⟨rfl,H⟩ a E
         exact pk 1 E (kc 57 rfl j) rfl fun a E=>nt<|have H:=H.frs [0,3,3,3] rfl;⟨_,_,E.to rfl,H,(Y1 c),hm⟩
        ·exact pk 5 E (kc 57 rfl j) rfl fun a E=>nt<|have H:=H.frs [0,3,3,3] rfl;⟨_,_,E.to rfl,H,(Y1 c),hm⟩
       ·clear E H hm
        rintro a w ⟨X,O,E,H,P,hm⟩
        unfold uN at hm
        refine wif E hm rfl (fun hm=>?_) fun hm=>?_
        ·refine sq<|pr 1 E rfl fun a E=>nx<|pr 1 E rfl fun a E=>lb E H 3 rfl rfl rfl rfl rfl rfl rfl U2 rfl fun a E=>pr 1 E rfl fun a E=>lb E H 3 rfl rfl rfl rfl rfl rfl rfl U2 rfl fun a E=>lb E H 1 rfl rfl rfl rfl rfl rfl rfl U2 rfl fun a E=>lb E H 0 rfl rfl rfl rfl rfl rfl rfl U2 rfl fun a E=>?_
         refine bk hm fun c2 hm=>cG E rfl rfl rfl rfl rfl Ye (Pm H c2)<|?_
         rintro _ w ⟨rfl,H⟩ a E
         refine nt<|wif E hm rfl (fun hm=>?_) fun hm=>?_
         ·refine wp_region_lit<|pr 2 E rfl fun a E=>lb E H 3 rfl rfl rfl rfl rfl rfl rfl U2 rfl fun a E=>bd hm fun b4 c3 hm=>sv E rfl rfl rfl (Fi (i:=2) (K:=(kyI .i64)) (z0:=0) (u:=b4) E H rfl rfl rfl rfl (dX U2) Ta Fs c3) fun a E=>pr 1 E rfl fun a E=>bd hm fun e1 c4 hm=>Hd (i:=2) (K:=(kyI .i64)) (v:=IntKind.i64.wrap ((b4.getD 0)+1)) E H (wn rfl) rfl rfl rfl rfl rfl rfl (dX U2) Ta c4 fun w H=>wpList_nil<|?_
          exact bY<|aC<|have H:=H.drop 3;X3 ⟨E.to rfl,H,P,hm⟩
         ·exact wp_skip<|bY<|aC<|have H:=H.drop 3;X3 ⟨E.to rfl,H,P,hm⟩
        ·exact wp_skip<|bY<|aC<|have H:=H.drop 3;X3 ⟨E.to rfl,H,P,hm⟩
      ·clear E H hm
       rintro a w ⟨V,W,N,E,H,c5,hm⟩
       unfold qZ at hm
       exact wp_region_lit<|pr 2 E rfl fun a E=>nt<|⟨A,Nat.lt_succ_self A,X4 ⟨E.to rfl,H,c5,hm⟩⟩
     ·refine wp_exit<|bH<|bH<|dG<|aC<|wp_seq<|sq<|pr 2 E rfl fun a E=>nt<|wif E hm rfl (fun hm=>?_) fun hm=>?_
      ·refine sq<|pr 2 E rfl fun a E=>have H:=H.frs [1,1,2] rfl;bd hm fun e2 c6 hm=>cG E rfl rfl rfl rfl rfl Yf (wM H c6)<|?_
       rintro _ w ⟨e3,rfl,H⟩ a E
       refine bk hm fun c7 hm=>aU E (wn rfl) rfl rfl (cC E rfl rfl (Yg _)) (Mg (ip:=0) (im:=1) H rfl rfl c7) fun e4 w H a E=>pr 3 E rfl fun a E=>nt<|wp_ret<|aP<|Es E rfl rfl rfl rfl<|have H:=H.drs [1,1,1,1];?_
       cases hm
       exact ⟨_,_,rfl,H.reads (aA (c _ q) (c))⟩
      ·refine wp_skip<|aC<|sq<|pr 1 E rfl fun a E=>bk hm fun c8 hm=>aU E (wn rfl) rfl rfl (cC E rfl rfl (Lx _)) (iS H (c _ q) c8) fun e5 w H a E=>pr 1 E rfl fun a E=>nt<|wp_seq<|?_
       refine sq<|pr 1 E rfl fun a E=>sv E rfl rfl rfl (cR E H rfl rfl (c _ T) U33) fun a E=>pr 1 E rfl fun a E=>nt<|wp_block<|bX (fun Q a w=>∃ Y Z D R,Env 108 a [(5,pt l 0),(6,pt f 0),(17,Y),(84,z),(85,.int .i64 (m.length:Int)),(86,.int .i64 D)]∧Sep w (Blk l 2 [.int .i64 x3]::Blk f 2 [.int .i64 b]::Row 103 bG Y Z::Fo) R∧(∀ r,r ∈ rs→r ∈ R)∧oI m x3 b Q Z D=some r) (((m.length:Int) - 0:Int).toNat+1) ?_ ?_
       ·exact have H:=H.drop 3;have H:=H.frs [0,2,2] rfl;X4 ⟨E.to rfl,H,c,hm⟩
       ·clear E H hm
        rintro Q a w ⟨Y,Z,D,R,E,H,y,hm⟩
        cases Q with
        | zero=>exact (bT hm rfl).elim
        | succ Q=>
         unfold oI at hm
         refine sq<|pr 1 E rfl fun a E=>nt<|wp_seq<|wif E hm rfl (fun hm=>?_) fun hm=>?_
         ·refine wp_skip<|aC<|aT (fun a w=>∃ b0 b1 S,Env 108 a [(5,pt l 0),(6,pt f 0),(17,b0),(84,z),(85,.int .i64 (m.length:Int)),(86,.int .i64 D)]∧Sep w (Blk l 2 [.int .i64 x3]::Blk f 2 [.int .i64 b]::Row 103 bG b0 b1::Fo) S∧(∀ r,r ∈ rs→r ∈ S)∧uO (oI m x3 b Q) D b1=some r) ?_ ?_
          ·refine wp_block<|sq<|bd hm fun F c9 hm=>dE E H (wn rfl) rfl rfl rfl rfl rfl (y _ T) U33 sz9 c9 fun q64 a H E=>sv E rfl rfl rfl (nT E H rfl rfl m0 U9 rfl) fun a E=>pr 1 E rfl fun a E=>nx<|pr 2 E rfl fun a E=>have H:=H.frs [1,1,2] rfl;?_
           refine bd hm fun e6 d0 hm=>xk E rfl rfl rfl rfl rfl Yh (pC H d0) fun w H a E=>pr 5 E rfl fun a E=>nx<|pr 2 E rfl fun a E=>nt<|wif E hm rfl (fun hm=>?_) fun hm=>?_
           ·refine wp_region_lit<|pr 3 E rfl fun a E=>lb E H 1 rfl rfl rfl rfl rfl rfl rfl U2 rfl fun a E=>lb E H 2 rfl rfl rfl rfl rfl rfl rfl U2 rfl fun a E=>sv E rfl rfl rfl (cI E rfl (E.evs rfl) (v:=.agg #[.string F,.int .i64 x3,.int .i64 b]) (by kernel_rfl)) fun a E=>fY (e:=103) (d:=bG) (cs:=[.string F,.int .i64 x3,.int .i64 b]) (xs:=[(⟨F,x3,b⟩:aN)]) E H (wn rfl) rfl rfl rfl (E.evs rfl) (by kernel_rfl) rfl rfl (fun ok hr=>(Rows.single (d:=bG) (cs:=[.string F,.int .i64 x3,.int .i64 b]) (x:=(⟨F,x3,b⟩:aN)) L6)) fun e7 w a H E=>bk hm fun d1 hm=>aU E (wn rfl) rfl rfl (cC E rfl rfl (Yi _)) (Ho.insert_a (ix:=1) (iu:=0) H rfl rfl (by decide) d1) fun e8 w H a E=>pr 1 E rfl fun a E=>?_
            exact wpList_nil<|bY<|aC<|have H:=H.drop 0;have H:=H.frs [0,2,2] rfl;X3 ⟨E.to rfl,H,(Y1 y),hm⟩
           ·exact wp_skip<|bY<|aC<|have H:=H.frs [0,2,2] rfl;X3 ⟨E.to rfl,H,(Y1 y),hm⟩
          ·clear E H hm
           rintro a w ⟨b0,b1,S,E,H,d2,hm⟩
           unfold uO at hm
           exact wp_region_lit<|pr 2 E rfl fun a E=>nt<|⟨Q,Nat.lt_succ_self Q,X4 ⟨E.to rfl,H,d2,hm⟩⟩
         ·refine wp_exit<|bH<|bH<|dG<|aC<|sq<|pr 4 E rfl fun a E=>nt<|wp_ret<|?_
          refine Es E rfl rfl rfl rfl<|have H:=H.thaw (i:=2) rfl;have H:=H.nilRow 2 (kI .i64);have H:=H.drs [1,1];?_
          cases hm
          exact ⟨_,_,rfl,H.reads (aA m0 (fun r hr=>(t1 (y r hr))))⟩

def pR(f:List ((Int)×bO))(x20:bA)(g:(List aN)×(List Int)×Bool)(b:Int)(c:(List cL))(d:Int):Option (aG×(List aN)×(List ((Int)×bO))):=
  (mpt (kyI .i64) f x20.Txn (⟨false,x20.Pieces,(⟨b,d,b == 0,0,c,(⟨[],[]⟩:bB),[],[],[]⟩:aG)⟩:bO)).bind fun e=>some ((⟨b,d,b == 0,0,c,(⟨[],[]⟩:bB),[],[],[]⟩:aG),g.1,e)
def mA(c:List ((Int)×bO))(x20:bA)(f:List aN)(g:(List ByteArray))(j:List aE)(k:List aI)(e:Int):Option (aG×(List aN)×(List ((Int)×bO))):=
  if (e != 0)=true then ((dM e).bind fun i=>some (i,f,c)) else ((B7 f x20.Txn x20.Age g).bind fun d=>if (!d.2.2)=true then (some ((⟨131,0,false,0,[],(⟨[],[]⟩:bB),[],[],d.2.1⟩:aG),f,c)) else ((r5 (⟨j,k⟩:bB) x20.Pieces).bind fun b=>pR c x20 d b.2.2.1 b.2.1 b.2.2.2))
def mB(b:List ((Int)×bO))(x20:bA)(e:List aN)(c:(List ByteArray))(f:List aE)(g:List aI)(i:Int)(d:Bool):Option (aG×(List aN)×(List ((Int)×bO))):=
  if d=true then (mA b x20 e c f g 2) else (mA b x20 e c f g i)
def pS(b:List ((Int)×bO))(x20:bA)(e:List aN)(f:List aE)(g:List aI)(x:List aH)(i:Bool)(j:Bool)(y:(List cF))(k:Int)(l:Int)(m:Bool)(n:Int)(o:(List cL))(p:(List aE))(q:(List aI))(s:(List bK))(t:(List lQ))(u:(List Int)):Option (aG×(List aN)×(List ((Int)×bO))):=
  if i=true then (if j=true then ((dM 133).bind fun v=>some (v,e,b)) else (some ((⟨k,l,m,n,o,(⟨p,q⟩:bB),s,t,u⟩:aG),e,b))) else ((zH x20.Pieces).bind fun c=>(pZ x c).bind fun d=>if (d == 0)=true then (mB b x20 e c f g d ((b.length:Int) == 128)) else (mB b x20 e c f g d false))
def sA(d:List aE)(e:List aI)(f:List aH)(g:List aN)(c:List ((Int)×bO))(x20:bA):Option (aG×(List aN)×(List ((Int)×bO))):=
  (A2 (kyI .i64) c x20.Txn E1).bind fun b=>pS c x20 g d e f b.2 b.1.over_ b.1.pieces_ b.1.a_.Err b.1.a_.At b.1.a_.Yes b.1.a_.Epoch b.1.a_.Results b.1.a_.Store.Nodes b.1.a_.Store.Turns b.1.a_.Events b.1.a_.Mounts b.1.a_.Wounded
theorem J3{l e:Nat}{C D I M o x y z p q s t:Value}{b0:List aE}{b1:List aI}{e9:List aH}{c2:List aN}{u:List ((Int)×bO)}{x20:bA}(H:Sep w (Blk l 75 [C,D,I,M,p,q,s,.map (some e),t]::cB Tryz.prog 2 (kyI .i64) cQ true e u::Fo) rs)(c3:rSl aF C b0 ∈ rs)(c4:rSl aJ D b1 ∈ rs)(f0:rSl aS I e9 ∈ rs)(J:rSl bG M c2 ∈ rs)(L:rSl cE o x20.Pieces ∈ rs)(c5:xU Tryz.prog ∈ rs){r:aG×(List aN)×(List ((Int)×bO))}(hm:sA b0 b1 e9 c2 u x20=some r) :
    Calls Tryz.prog 26 [pt l 0,.agg (aR x20 o x y z).toArray].toArray w (Ret fun v w'=>∃ f7 f8 f9 g0 g1 g2 g3,.agg (bC r.1 f7 f8 f9 g0 g1 g2).toArray=v∧Sep w' (Blk l 75 [C,D,I,g3,p,q,s,.map (some e),t]::cB Tryz.prog 2 (kyI .i64) cQ true e r.2.2::Fo) (rSl bE f7 r.1.Results::rSl aF f8 r.1.Store.Nodes::rSl aJ f9 r.1.Store.Turns::rSl aV g0 r.1.Events::rSl bL g1 r.1.Mounts::rSl (kI .i64) g2 r.1.Wounded::rSl bG g3 r.2.1::rs)):=by
 unfold sA at hm
 refine ent Tryz.func26 rfl Tryz.ntmps26 rfl rfl fun a E=>sq<|bS E H (wn rfl) rfl rfl rfl rfl rfl fun f w a H E=>al E H rfl rfl rfl rfl gN fun B w a H E=>nt<|wp_seq<|aT (fun a w=>∃ c6 e5 P Q R S T U c7 c8 e6 V X Y Z c9 d0 d1 d2 d3 d4 k,Env 103 a [(0,pt l 0),(3,pt f 0),(4,pt B 0),(5,pt c6 0),(6,.bool c7)]∧Sep w (Blk l 75 [C,D,I,M,p,q,s,.map (some e),t]::Blk f 37 (aR x20 o x y z)::Blk B 48 bN::Blk c6 128 [.bool c8,e5,.int .i64 V,.int .i64 X,.bool Y,.int .i64 Z,P,Q,R,S,T,U]::cB Tryz.prog 2 (kyI .i64) cQ true e u::Fo) k∧(∀ r,r ∈ rs→r ∈ k)∧rSl bE P c9 ∈ k∧rSl aF Q d0 ∈ k∧rSl aJ R d1 ∈ k∧rSl aV S d2 ∈ k∧rSl bL T d3 ∈ k∧rSl (kI .i64) U d4 ∈ k∧pS u x20 c2 b0 b1 e9 c7 c8 e6 V X Y Z c9 d0 d1 d2 d3 d4=some r) ?_ ?_
 ·refine bd hm fun i8 b4 hm=>?_
  have hI:dP [Blk f 37 (aR x20 o x y z),Blk l 75 [C,D,I,M,p,q,s,.map (some e),t]] [] { w with drawn:=w.drawn+1 }:=⟨_,_,H.kept (Kp.drawn _ w _),(aB mm1 (aB mm2 (aL))),(aM)⟩
  refine jY _ (.go 0 0 (.go 1 0 (.go 2 0 (.go 3 0 (.go 4 0 (.go 5 0 (.alt 6 (.go 7 0 (.go 8 0 (.go 9 0 (.go 10 1 (.go 11 1 (.go 12 2 .nil)))))) 10 (.go 6 1 (.go 7 0 (.go 8 0 (.go 9 0 (.go 11 1 (.go 12 2 .nil))))))))))))) [12] kG (by kernel_rfl) (fun _ _ _ h=>False.elim h.2) hI<|have H:=H.kept (Kp.drawn _ w (w.drawn+1));?_
  generalize ({ w with drawn:=w.drawn+1 }:World)=w at H hI ⊢
  replace hI:∃ W,dP [Blk f 37 (aR x20 o x y z),Blk l 75 [C,D,I,M,p,q,s,.map (some e),t]] [] W:=⟨_,hI⟩
  obtain ⟨W0,hI⟩:=hI
  refine aW E rfl (wn rfl) rfl rfl (fun w hW=>(bD E rfl rfl)) fun a E=>aW E rfl (wn rfl) rfl rfl (fun w hW=>(sF E rfl rfl)) fun a E=>aW E rfl (wn rfl) rfl rfl (fun w hW=>iY E rfl rfl (v:=pt l 7) (Fv _ _)) fun a E=>aW E rfl (wn rfl) rfl rfl (fun w hW=>eZ E rfl rfl (kD mm1 rfl U69 rfl w hW)) fun a E=>aW E rfl (wn rfl) rfl rfl (fun w hW=>iY E rfl rfl (v:=pt f 2) (Be _ _)) fun a E=>aW E rfl (wn rfl) rfl rfl (fun w hW=>eZ E rfl rfl (kD m0 rfl U2 rfl w hW)) fun a E=>?_
  refine kM rfl rfl ?_ ?_
  ·refine lR (i:=3) (K:=(kyI .i64)) E H (wn rfl) rfl rfl rfl rfl rfl rfl (dX U2) U69 Bm Ef b4 fun i9 a H E=>?_
   obtain ⟨j0,j1,j2,j3,j4,j5,j6,rfl,h⟩:=q5 H;clear H;have H:=h
   refine nt<|?_
   refine ⟨⟨_,_,H,(aB mm1 (aB mm2 (aL))),(aM)⟩,?_⟩
   refine aW E rfl (wn rfl) rfl rfl (fun w hW=>(bD E rfl rfl)) fun a E=>aW E rfl (wn rfl) rfl rfl (fun w hW=>(cX E rfl rfl rfl)) fun a E=>aW E rfl (wn rfl) rfl rfl (fun w hW=>(cX E rfl rfl rfl)) fun a E=>cJ rfl<|al E H rfl rfl rfl rfl Eg fun j7 w a H E=>nt<|?_
   refine ⟨⟨_,_,H,(aB mm2 (aB mm3 (aL))),(aM)⟩,?_⟩
   refine cJ rfl<|aZ (i:=0) E H (wn rfl) rfl rfl rfl rfl rfl rfl Eh rfl (xH H mm6 mm5 mm4 mm3 mm2 mm1 m0) fun w H=>nt<|?_
   refine ⟨⟨_,_,H,(aB mm2 (aB mm3 (aL))),(aM)⟩,?_⟩
   refine cP rfl<|pr 1 E rfl fun a E=>nt<|dW<|?_
   clear hI
   exact aC<|have H:=H.frs [4,1,2,3,4] rfl;X22 ⟨E.to rfl,H,(Y8 Y0),mm5,mm4,mm3,mm2,mm1,m0,hm⟩
  ·refine al E H rfl rfl rfl rfl Eg fun j8 w a H E=>nt<|?_
   refine ⟨⟨_,_,H,(aB mm2 (aB mm3 (aL))),(aM)⟩,?_⟩
   refine cJ rfl<|lR (i:=4) (K:=(kyI .i64)) E H (wn rfl) rfl rfl rfl rfl rfl rfl (dX U2) U69 Bm Ef b4 fun j9 a H E=>?_
   obtain ⟨k0,k1,k2,k3,k4,k5,k6,rfl,h⟩:=q5 H;clear H;have H:=h
   refine nt<|?_
   refine ⟨⟨_,_,H,(aB mm2 (aB mm3 (aL))),(aM)⟩,?_⟩
   refine aW E rfl (wn rfl) rfl rfl (fun w hW=>(bD E rfl rfl)) fun a E=>aW E rfl (wn rfl) rfl rfl (fun w hW=>(cX E rfl rfl rfl)) fun a E=>aW E rfl (wn rfl) rfl rfl (fun w hW=>(cX E rfl rfl rfl)) fun a E=>cJ rfl<|aZ (i:=0) E H (wn rfl) rfl rfl rfl rfl rfl rfl Eh rfl (xH H mm6 mm5 mm4 mm3 mm2 mm1 m0) fun w H=>nt<|?_
   refine ⟨⟨_,_,H,(aB mm2 (aB mm3 (aL))),(aM)⟩,?_⟩
   refine cP rfl<|pr 1 E rfl fun a E=>nt<|dW<|?_
   clear hI
   exact aC<|have H:=H.frs [4,1,2,3,4] rfl;X22 ⟨E.to rfl,H,(Y8 Y0),mm5,mm4,mm3,mm2,mm1,m0,hm⟩
 ·clear E H hm
  rintro a w ⟨c6,e5,P,Q,R,S,T,U,c7,c8,e6,V,X,Y,Z,c9,d0,d1,d2,d3,d4,k,E,H,m,d5,d6,d7,d8,d9,e0,hm⟩
  unfold pS at hm
  refine sq<|pr 1 E rfl fun a E=>nt<|wif E hm rfl (fun hm=>?_) fun hm=>?_
  ·refine wp_seq<|sq<|pr 1 E rfl fun a E=>lb E H 3 rfl rfl rfl rfl rfl rfl rfl U4 rfl fun a E=>nt<|wif E hm rfl (fun hm=>?_) fun hm=>?_
   ·refine sq<|bd hm fun g4 f1 hm=>cG E rfl rfl rfl rfl rfl tM (dT H f1)<|?_
    rintro _ w ⟨g5,g6,g7,g8,g9,i0,rfl,H⟩ a E
    refine aZ (i:=2) E H (wn rfl) rfl rfl rfl rfl rfl rfl bU rfl (bF H m0 mm1 mm2 mm3 mm4 mm5) fun w H=>nt<|wp_ret<|aP<|aP<|dH E rfl (cV (i:=2) (us:=(bC g4 g5 g6 g7 g8 g9 i0)) H rfl rfl rfl U48 rfl bU)<|have H:=H.drs [1,1,1];?_
    cases hm
    exact X7 ⟨rfl,H.reads (aA m0 (aA mm1 (aA mm2 (aA mm3 (aA mm4 (aA mm5 (aA (t6 (m _ J)) (fun r hr=>(t6 (m r hr))))))))))⟩
   ·refine wp_skip<|aC<|sq<|pr 1 E rfl fun a E=>sv E rfl rfl rfl (cA (i:=3) (us:=[.int .i64 V,.int .i64 X,.bool Y,.int .i64 Z,P,Q,R,S,T,U]) E H rfl rfl rfl rfl U48 rfl bU) fun a E=>aZ (i:=2) E H (wn rfl) rfl rfl rfl rfl rfl rfl bU rfl (bF H d5 d6 d7 d8 d9 e0) fun w H=>nt<|wp_ret<|aP<|?_
    refine dH E rfl (cV (i:=2) (us:=[.int .i64 V,.int .i64 X,.bool Y,.int .i64 Z,P,Q,R,S,T,U]) H rfl rfl rfl U48 rfl bU)<|have H:=H.drs [1,1,1];?_
    cases hm
    exact X7 ⟨rfl,H.reads (aA d5 (aA d6 (aA d7 (aA d8 (aA d9 (aA e0 (aA (m _ J) (m))))))))⟩
  ·refine wp_skip<|aC<|sq<|pr 1 E rfl fun a E=>lb E H 1 rfl rfl rfl rfl rfl rfl rfl U26 rfl fun a E=>bd hm fun b5 f2 hm=>cG E rfl rfl rfl rfl rfl Sb (Q6 H (m _ L) f2)<|?_
   rintro _ w ⟨b6,rfl,H⟩ a E
   refine pr 1 E rfl fun a E=>nx<|pr 2 E rfl fun a E=>have H:=H.thaw (i:=0) rfl;bd hm fun e7 f3 hm=>xk E rfl rfl rfl rfl rfl Sd (zN H (t1 (m _ f0)) m0 f3) fun w H a E=>pr 1 E rfl fun a E=>nt<|aT (fun a w=>∃ e1 N,Env 103 a [(0,pt l 0),(3,pt f 0),(4,pt B 0),(7,b6),(8,.int .i64 e1)]∧Sep w (Blk l 75 [C,D,I,M,p,q,s,.map (some e),t]::Blk f 37 (aR x20 o x y z)::Blk B 48 bN::cB Tryz.prog 2 (kyI .i64) cQ true e u::Fo) N∧(∀ r,r ∈ rs→r ∈ N)∧rSl kS b6 b5 ∈ N∧mA u x20 c2 b5 b0 b1 e1=some r) ?_ ?_
   ·refine aT (fun a w=>∃ b2 F,Env 103 a [(0,pt l 0),(3,pt f 0),(4,pt B 0),(7,b6),(8,.int .i64 e7),(47,.bool b2)]∧Sep w (Blk l 75 [C,D,I,M,p,q,s,.map (some e),t]::Blk f 37 (aR x20 o x y z)::Blk B 48 bN::cB Tryz.prog 2 (kyI .i64) cQ true e u::Fo) F∧(∀ r,r ∈ rs→r ∈ F)∧rSl kS b6 b5 ∈ F∧mB u x20 c2 b5 b0 b1 e7 b2=some r) ?_ ?_
    ·refine wp_region_lit<|pr 3 E rfl fun a E=>cs hm (fun n hm=>?_) fun n hm=>?_
     ·exact pk 3 E (kc 40 rfl n) rfl fun a E=>aQ E (ws' (d:=40) E rfl rfl rfl rfl n) rfl rfl (cD (i:=0) E H rfl rfl rfl rfl U69 rfl) fun a E=>aQ E (ws' (d:=40) E rfl rfl rfl rfl n) rfl rfl (r7 (i:=4) E H rfl rfl rfl U69) fun a E=>pk 2 E (kc 40 rfl n) rfl fun a E=>nt<|have H:=H.drop 3;⟨_,_,E.to rfl,H,(Y1 m),m0,hm⟩
     ·exact pk 7 E (kc 40 rfl n) rfl fun a E=>nt<|have H:=H.drop 3;⟨_,_,E.to rfl,H,(Y1 m),m0,hm⟩
    ·clear E H hm
     rintro a w ⟨b2,F,E,H,b7,b8,hm⟩
     unfold mB at hm
     refine wif E hm rfl (fun hm=>?_) fun hm=>?_
     ·exact wp_region_lit<|pr 1 E rfl fun a E=>nt<|⟨_,_,E.to rfl,H,b7,b8,hm⟩
     ·exact wp_skip<|aC<|⟨_,_,E.to rfl,H,b7,b8,hm⟩
   ·clear E H hm
    rintro a w ⟨e1,N,E,H,c,f4,hm⟩
    unfold mA at hm
    refine wp_seq<|sq<|pr 2 E rfl fun a E=>nt<|wif E hm rfl (fun hm=>?_) fun hm=>?_
    ·refine sq<|pr 1 E rfl fun a E=>bd hm fun i1 f5 hm=>cG E rfl rfl rfl rfl rfl tM (dT H f5)<|?_
     rintro _ w ⟨i2,i3,i4,i5,i6,i7,rfl,H⟩ a E
     refine aZ (i:=2) E H (wn rfl) rfl rfl rfl rfl rfl rfl bU rfl (bF H m0 mm1 mm2 mm3 mm4 mm5) fun w H=>nt<|wp_ret<|aP<|dH E rfl (cV (i:=2) (us:=(bC i1 i2 i3 i4 i5 i6 i7)) H rfl rfl rfl U48 rfl bU)<|have H:=H.drs [1,1];?_
     cases hm
     exact X7 ⟨rfl,H.reads (aA m0 (aA mm1 (aA mm2 (aA mm3 (aA mm4 (aA mm5 (aA (t6 (c _ J)) (fun r hr=>(t6 (c r hr))))))))))⟩
    ·refine wp_skip<|aC<|wp_seq<|dw [(0,0),(1,0),(2,0),(3,0),(4,0),(5,0),(6,0),(7,0),(8,0),(9,1),(10,0),(11,0),(12,0),(13,0),(14,1),(15,1),(16,2)] [0,1] [] H (by kernel_rfl) (fun _ _ _ h=>False.elim h.2) fun w W0 hI H=>fn 3 E rfl fun a E=>fb E rfl (wn rfl) rfl rfl rfl rfl m0 rfl U62 rfl fun a E=>fn 1 E rfl fun a E=>fb E rfl (wn rfl) rfl rfl rfl rfl mm1 rfl U2 rfl fun a E=>fn 1 E rfl fun a E=>?_
     refine fb E rfl (wn rfl) rfl rfl rfl rfl mm1 rfl U2 rfl fun a E=>fn 1 E rfl fun a E=>bZ rfl<|bd hm fun b9 f6 hm=>cG E rfl rfl rfl rfl rfl AG (Gg H (c _ J) f4 f6)<|?_
     rintro _ w ⟨e8,l9,rfl,H⟩ a E
     refine nt<|?_
     refine ⟨⟨_,_,H,(aB mm1 (aB mm2 (aL))),(aM)⟩,?_⟩
     refine fn 4 E rfl fun a E=>bZ rfl<|pr 1 E rfl fun a E=>nt<|?_
     refine ⟨⟨_,_,H,(aB mm1 (aB mm2 (aL))),(aM)⟩,?_⟩
     refine bZ rfl<|pr 1 E rfl fun a E=>nt<|?_
     refine ⟨⟨_,_,H,(aB mm1 (aB mm2 (aL))),(aM)⟩,?_⟩
     refine bQ rfl<|pr 1 E rfl fun a E=>nt<|bR<|?_
     clear hI
     refine aC<|wp_seq<|sq<|pr 2 E rfl fun a E=>nt<|wif E hm rfl (fun hm=>?_) fun hm=>?_
     ·refine sq<|pr 1 E rfl fun a E=>?_
      obtain ⟨q99,e2,rfl⟩:=H.rowform (i:=0) rfl
      refine sv E rfl rfl rfl (cI E rfl (E.evs rfl) (v:=.agg #[.int .i64 131,.int .i64 0,.bool false,.int .i64 0,.slice none 0 0,.slice none 0 0,.slice none 0 0,.slice none 0 0,.slice none 0 0,(.slice q99 b9.2.1.length e2)]) (by kernel_rfl)) fun a E=>aZ (i:=3) E H (wn rfl) rfl rfl rfl rfl rfl rfl bU rfl rfl fun w H=>nt<|wp_ret<|aP<|dH E rfl (cV (i:=3) (us:=[.int .i64 131,.int .i64 0,.bool false,.int .i64 0,.slice none 0 0,.slice none 0 0,.slice none 0 0,.slice none 0 0,.slice none 0 0,(.slice q99 b9.2.1.length e2)]) H rfl rfl rfl U48 rfl bU)<|have H:=H.thaw (i:=0) rfl;have H:=H.nilSl bE;have H:=H.nilSl aF;?_
      refine have H:=H.nilSl aJ;have H:=H.nilSl aV;have H:=H.nilSl bL;have H:=H.drs [1,1];?_
      cases hm
      exact X7 ⟨rfl,H.reads (aA mm4 (aA mm3 (aA mm2 (aA mm1 (aA m0 (aA mm5 (aA (t7 (c _ J)) (fun r hr=>(t7 (c r hr))))))))))⟩
     ·refine wp_skip<|aC<|aT (fun a w=>∃ b3 b g j G,Env 103 a [(0,pt l 0),(3,pt f 0),(4,pt B 0),(8,.int .i64 b),(9,e8),(13,b3),(14,.int .i64 j)]∧Sep w (Blk l 75 [C,D,I,M,p,q,s,.map (some e),t]::Blk f 37 (aR x20 o x y z)::Blk B 48 bN::Row 81 bE b3 g::cB Tryz.prog 2 (kyI .i64) cQ true e u::Fo) G∧(∀ r,r ∈ rs→r ∈ G)∧rSl bG e8 b9.1 ∈ G∧pR u x20 b9 b g j=some r) ?_ ?_
      ·refine bd hm fun k7 c0 hm=>?_
       have hI:dP [Blk l 75 [C,D,I,M,p,q,s,.map (some e),t],Blk f 37 (aR x20 o x y z)] [] { w with drawn:=w.drawn+1 }:=⟨_,_,H.kept (Kp.drawn _ w _),(aB mm1 (aB mm2 (aL))),(aM)⟩
       refine jY _ (.go 0 0 (.go 1 0 (.go 2 0 (.go 3 0 (.go 4 0 (.go 5 0 (.alt 6 (.go 7 0 (.go 8 0 (.go 9 0 (.go 10 0 (.go 11 0 (.go 12 1 (.go 13 1 (.go 14 1 (.go 15 1 (.go 16 2 .nil)))))))))) 12 (.go 6 1 (.go 7 0 (.go 8 0 (.go 9 0 (.go 10 0 (.go 11 0 (.go 13 1 (.go 14 1 (.go 15 1 (.go 16 2 .nil))))))))))))))))) [16] kG (by kernel_rfl) (fun _ _ _ h=>False.elim h.2) hI<|have H:=H.kept (Kp.drawn _ w (w.drawn+1));?_
       generalize ({ w with drawn:=w.drawn+1 }:World)=w at H hI ⊢
       replace hI:∃ W,dP [Blk l 75 [C,D,I,M,p,q,s,.map (some e),t],Blk f 37 (aR x20 o x y z)] [] W:=⟨_,hI⟩
       obtain ⟨W0,hI⟩:=hI
       refine aW E rfl (wn rfl) rfl rfl (fun w hW=>(bD E rfl rfl)) fun a E=>aW E rfl (wn rfl) rfl rfl (fun w hW=>(sF E rfl rfl)) fun a E=>aW E rfl (wn rfl) rfl rfl (fun w hW=>iY E rfl rfl (v:=pt l 0) (Bj _ _)) fun a E=>aW E rfl (wn rfl) rfl rfl (fun w hW=>eZ E rfl rfl (yN (us:=[C,D]) m0 rfl U25 rfl dA w hW)) fun a E=>aW E rfl (wn rfl) rfl rfl (fun w hW=>iY E rfl rfl (v:=pt f 5) (Ka _ _)) fun a E=>aW E rfl (wn rfl) rfl rfl (fun w hW=>eZ E rfl rfl (kD mm1 rfl U26 rfl w hW)) fun a E=>?_
       refine kM rfl rfl ?_ ?_
       ·refine cG E rfl rfl rfl rfl rfl Lt (F7 (x1:=(⟨b0,b1⟩:bB)) H (t1 (c _ c3)) (t1 (c _ c4)) (t1 (c _ L)) (t1 (c _ c5)) c0)<|?_
        rintro _ w ⟨k8,k9,l0,rfl,H⟩ a E
        refine nt<|?_
        refine ⟨⟨_,_,H,(aB mm2 (aB mm3 (aL))),(aM)⟩,?_⟩
        refine aW E rfl (wn rfl) rfl rfl (fun w hW=>(bD E rfl rfl)) fun a E=>aW E rfl (wn rfl) rfl rfl (fun w hW=>(cX E rfl rfl rfl)) fun a E=>aW E rfl (wn rfl) rfl rfl (fun w hW=>(cX E rfl rfl rfl)) fun a E=>aW E rfl (wn rfl) rfl rfl (fun w hW=>(cX E rfl rfl rfl)) fun a E=>aW E rfl (wn rfl) rfl rfl (fun w hW=>(cX E rfl rfl rfl)) fun a E=>cJ rfl<|al E H rfl rfl rfl rfl jN fun l1 w a H E=>nt<|?_
        refine ⟨⟨_,_,H,(aB mm3 (aB mm4 (aL))),(aM)⟩,?_⟩
        refine cJ rfl<|aZ (i:=0) E H (wn rfl) rfl rfl rfl rfl rfl rfl dA rfl (jK H m0 mm1) fun w H=>nt<|?_
        refine ⟨⟨_,_,H,(aB mm3 (aB mm4 (aL))),(aM)⟩,?_⟩
        refine cJ rfl<|pr 1 E rfl fun a E=>nt<|?_
        refine ⟨⟨_,_,H,(aB mm3 (aB mm4 (aL))),(aM)⟩,?_⟩
        refine cJ rfl<|pr 1 E rfl fun a E=>nt<|?_
        refine ⟨⟨_,_,H,(aB mm3 (aB mm4 (aL))),(aM)⟩,?_⟩
        refine cP rfl<|pr 1 E rfl fun a E=>nt<|dW<|?_
        clear hI
        exact aC<|have H:=H.drs [0,1];have H:=H.frs [4,1,4,4,4] rfl;X5 ⟨E.to rfl,H,(Y3 c),mm2,hm⟩
       ·refine al E H rfl rfl rfl rfl jN fun l2 w a H E=>nt<|?_
        refine ⟨⟨_,_,H,(aB mm2 (aB mm3 (aL))),(aM)⟩,?_⟩
        refine cJ rfl<|cG E rfl rfl rfl rfl rfl Lt (F7 (x1:=(⟨b0,b1⟩:bB)) H (t1 (c _ c3)) (t1 (c _ c4)) (t1 (c _ L)) (t1 (c _ c5)) c0)<|?_
        rintro _ w ⟨l3,l4,l5,rfl,H⟩ a E
        refine nt<|?_
        refine ⟨⟨_,_,H,(aB mm3 (aB mm4 (aL))),(aM)⟩,?_⟩
        refine aW E rfl (wn rfl) rfl rfl (fun w hW=>(bD E rfl rfl)) fun a E=>aW E rfl (wn rfl) rfl rfl (fun w hW=>(cX E rfl rfl rfl)) fun a E=>aW E rfl (wn rfl) rfl rfl (fun w hW=>(cX E rfl rfl rfl)) fun a E=>aW E rfl (wn rfl) rfl rfl (fun w hW=>(cX E rfl rfl rfl)) fun a E=>aW E rfl (wn rfl) rfl rfl (fun w hW=>(cX E rfl rfl rfl)) fun a E=>cJ rfl<|aZ (i:=1) E H (wn rfl) rfl rfl rfl rfl rfl rfl dA rfl (jK H m0 mm1) fun w H=>nt<|?_
        refine ⟨⟨_,_,H,(aB mm3 (aB mm4 (aL))),(aM)⟩,?_⟩
        refine cJ rfl<|pr 1 E rfl fun a E=>nt<|?_
        refine ⟨⟨_,_,H,(aB mm3 (aB mm4 (aL))),(aM)⟩,?_⟩
        refine cJ rfl<|pr 1 E rfl fun a E=>nt<|?_
        refine ⟨⟨_,_,H,(aB mm3 (aB mm4 (aL))),(aM)⟩,?_⟩
        refine cP rfl<|pr 1 E rfl fun a E=>nt<|dW<|?_
        clear hI
        exact aC<|have H:=H.drs [1,1];have H:=H.frs [4,1,4,4,4] rfl;X5 ⟨E.to rfl,H,(Y3 c),mm2,hm⟩
      ·clear E H hm
       rintro a w ⟨b3,b,g,j,G,E,H,O,c1,hm⟩
       unfold pR at hm
       refine sq<|pr 5 E rfl fun a E=>?_
       obtain ⟨q108,A,rfl⟩:=H.rowform (i:=3) rfl
       refine sv E rfl rfl rfl (cI E rfl (E.evs rfl) (v:=.agg #[.int .i64 b,.int .i64 j,.bool (b == 0),.int .i64 0,(.slice q108 g.length A),.slice none 0 0,.slice none 0 0,.slice none 0 0,.slice none 0 0,.slice none 0 0]) (by kernel_rfl)) fun a E=>al E H rfl rfl rfl rfl gN fun l6 w a H E=>aZ (i:=0) E H (wn rfl) rfl rfl rfl rfl rfl rfl bU rfl rfl fun w H=>nx<|pr 4 E rfl fun a E=>?_
       obtain ⟨q111,l7,rfl⟩:=H.slform c1
       refine aZ (i:=1) E H (wn rfl) rfl rfl rfl rfl rfl rfl Sx rfl rfl fun w H=>nt<|wp_seq<|dw [(0,0),(1,0),(2,0),(3,0),(4,0),(5,0),(6,0),(7,0),(8,0),(9,0),(10,2)] [0,1,2] [] H (by kernel_rfl) (fun _ _ _ h=>False.elim h.2) fun w W0 hI H=>fn 3 E rfl fun a E=>fb E rfl (wn rfl) rfl rfl rfl rfl mm1 rfl U69 rfl fun a E=>fn 1 E rfl fun a E=>fb E rfl (wn rfl) rfl rfl rfl rfl mm2 rfl U2 rfl fun a E=>fn 1 E rfl fun a E=>?_
       refine fb E rfl (wn rfl) rfl rfl rfl rfl mm2 rfl U26 rfl fun a E=>fbn E [.int .i64 b,.int .i64 j,.bool (b == 0),.int .i64 0,(.slice q108 g.length A),.slice none 0 0,.slice none 0 0,.slice none 0 0,.slice none 0 0,.slice none 0 0] rfl (wn rfl) rfl rfl rfl rfl m0 rfl U48 rfl bU fun a E=>?_
       obtain ⟨q113,e3,rfl⟩:=H.slform (O _ L)
       refine bW E rfl (wn rfl) rfl rfl (fun w hW=>(cI E rfl (E.evs rfl) (v:=.agg #[.bool false,(.slice q113 x20.Pieces.length e3),.int .i64 b,.int .i64 j,.bool (b == 0),.int .i64 0,(.slice q108 g.length A),.slice none 0 0,.slice none 0 0,.slice none 0 0,.slice none 0 0,.slice none 0 0]) (by kernel_rfl))) fun a E=>?_
       refine bQ rfl<|have H:=H.thaw (i:=4) rfl;bd hm fun l8 e4 hm=>zR (i:=4) (K:=(kyI .i64)) (v:=(⟨false,x20.Pieces,(⟨b,j,b == 0,0,g,(⟨[],[]⟩:bB),[],[],[]⟩:aG)⟩:bO)) (cs:=[.bool false,(.slice q113 x20.Pieces.length e3),.int .i64 b,.int .i64 j,.bool (b == 0),.int .i64 0,(.slice q108 g.length A),.slice none 0 0,.slice none 0 0,.slice none 0 0,.slice none 0 0,.slice none 0 0]) E H (wn rfl) rfl rfl rfl rfl rfl rfl (dX U2) U69 e4 (fun ok hr=>(zT (hr _ (t1 (O _ L))) (hr _ m0) (Sl.nil _ _ _) (Sl.nil _ _ _) (Sl.nil _ _ _) (Sl.nil _ _ _) (Sl.nil _ _ _))) fun w H=>nt<|bR<|?_
       clear hI
       refine aC<|sq<|sv E rfl rfl rfl (cA (i:=0) (us:=[.int .i64 b,.int .i64 j,.bool (b == 0),.int .i64 0,(.slice q108 g.length A),.slice none 0 0,.slice none 0 0,.slice none 0 0,.slice none 0 0,.slice none 0 0]) E H rfl rfl rfl rfl U48 rfl bU) fun a E=>aZ (i:=3) E H (wn rfl) rfl rfl rfl rfl rfl rfl bU rfl rfl fun w H=>nt<|wp_ret<|dH E rfl (cV (i:=3) (us:=[.int .i64 b,.int .i64 j,.bool (b == 0),.int .i64 0,(.slice q108 g.length A),.slice none 0 0,.slice none 0 0,.slice none 0 0,.slice none 0 0,.slice none 0 0]) H rfl rfl rfl U48 rfl bU)<|have H:=H.nilSl aF;have H:=H.nilSl aJ;?_
       refine have H:=H.nilSl aV;have H:=H.nilSl bL;have H:=H.nilSl (kI .i64);have H:=H.drs [0,1,1];?_
       cases hm
       exact X7 ⟨rfl,H.reads (aA mm5 (aA mm4 (aA mm3 (aA mm2 (aA mm1 (aA m0 (aA (t6 c1) (fun r hr=>(t6 (O r hr))))))))))⟩

def mU(i:List aE)(j:List aI)(m:List aH)(k:List aN)(c:List aK)(d:List aD)(e:List ((Int)×aG))(f:List ((Int)×bO))(g:List ((Int)×aG))(x20:bA)(t:Bool):Option (aG×(List aE)×(List aI)×(List aH)×(List aN)×(List aK)×(List aD)×(List ((Int)×aG))×(List ((Int)×bO))×(List ((Int)×aG))):=
  if t=true then ((dM 1).bind fun s=>some (s,i,j,m,k,c,d,e,f,g)) else (if (x20.Kind == 2)=true then ((sA i j m k f x20).bind fun n=>some (n.1,i,j,m,n.2.1,c,d,e,n.2.2,g)) else (if (x20.Kind == 3)=true then ((sO i j k c d f x20).bind fun b=>some (b.1,b.2.1,b.2.2.1,m,b.2.2.2.1,b.2.2.2.2.1,b.2.2.2.2.2.1,e,b.2.2.2.2.2.2,g)) else (if (x20.Kind == 4)=true then ((fF g x20).bind fun p=>some (p.1,i,j,m,k,c,d,e,f,p.2)) else (if (x20.Kind == 5)=true then ((sR i j m k x20).bind fun q=>some (q.1,i,j,q.2,k,c,d,e,f,g)) else (if (x20.Kind == 6)=true then ((rW i j m k x20).bind fun l=>some (l.1,l.2.1,l.2.2.1,l.2.2.2,k,c,d,e,f,g)) else (if (x20.Kind == 7)=true then ((uZ i j m x20).bind fun o=>some ((⟨0,0,false,0,[],(⟨[],[]⟩:bB),[],[],[]⟩:aG),o.1,o.2.1,o.2.2,k,c,d,e,f,g)) else none))))))
def mV(n:List aE)(o:List aI)(i:List aH)(j:List aN)(b:List aK)(c:List aD)(d:List ((Int)×aG))(e:List ((Int)×bO))(f:List ((Int)×aG))(x20:bA)(p:Bool):Option (aG×(List aE)×(List aI)×(List aH)×(List aN)×(List aK)×(List aD)×(List ((Int)×aG))×(List ((Int)×bO))×(List ((Int)×aG))):=
  if p=true then (if (x20.Kind == 1)=true then ((sV n o i j b c d x20).bind fun g=>some (g.1,g.2.1,g.2.2.1,i,j,g.2.2.2.1,g.2.2.2.2.1,g.2.2.2.2.2,e,f)) else (if (x20.Kind == 8)=true then ((sU b c d x20).bind fun k=>some (k.1,n,o,i,j,k.2.1,k.2.2.1,k.2.2.2,e,f)) else (if (x20.Kind == 9)=true then ((sT b c d x20).bind fun l=>some (l.1,n,o,i,j,l.2.1,l.2.2.1,l.2.2.2,e,f)) else (if (x20.Kind == 10)=true then ((vG b c d x20).bind fun m=>some (m.1,n,o,i,j,m.2.1,m.2.2.1,m.2.2.2,e,f)) else none)))) else (if (decide (x20.Kind ≥ 5))=true then (mU n o i j b c d e f x20 (sEq x20.Prefix (ByteArray.mk #[]))) else (mU n o i j b c d e f x20 false))
def mW(g:List aE)(i:List aI)(j:List aH)(k:List aN)(b:List aK)(c:List aD)(d:List ((Int)×aG))(e:List ((Int)×bO))(f:List ((Int)×aG))(x20:bA)(l:Bool):Option (aG×(List aE)×(List aI)×(List aH)×(List aN)×(List aK)×(List aD)×(List ((Int)×aG))×(List ((Int)×bO))×(List ((Int)×aG))):=
  if l=true then ((dM 1).bind fun m=>some (m,g,i,j,k,b,c,d,e,f)) else (if (x20.Kind == 1)=true then (mV g i j k b c d e f x20 (x20.Kind == 1)) else (mV g i j k b c d e f x20 (decide (x20.Kind ≥ 8))))
def eO(i:List aE)(j:List aI)(k:List aH)(l:List aN)(c:List aK)(d:List aD)(e:List ((Int)×aG))(f:List ((Int)×bO))(g:List ((Int)×aG))(x20:bA):Option (aG×(List aE)×(List aI)×(List aH)×(List aN)×(List aK)×(List aD)×(List ((Int)×aG))×(List ((Int)×bO))×(List ((Int)×aG))):=
  (qQ x20).bind fun b=>if (!b)=true then (mW i j k l c d e f g x20 (!b)) else (mW i j k l c d e f g x20 (decide (x20.Kind > 10)))
theorem jJ{G t u x:Nat}{X Y Z b0 J K n o p q:Value}{b1:List aE}{b2:List aI}{b3:List aH}{b4:List aN}{L:List aK}{M:List aD}{z A:List ((Int)×aG)}{B:List ((Int)×bO)}{x20:bA}(H:Sep w (Blk G 75 [X,Y,Z,b0,J,K,.map (some t),.map (some u),.map (some x)]::cB Tryz.prog 2 (kyI .i64) bI true t z::cB Tryz.prog 2 (kyI .i64) cQ true u B::cB Tryz.prog 2 (kyI .i64) bI true x A::Fo) rs)(f:rSl aF X b1 ∈ rs)(g:rSl aJ Y b2 ∈ rs)(k:rSl aS Z b3 ∈ rs)(e:rSl bG b0 b4 ∈ rs)(l:rSl aX J L ∈ rs)(m:rSl aO K M ∈ rs)(N:rSl cE n x20.Pieces ∈ rs)(b5:rSl aF o x20.Store.Nodes ∈ rs)(b6:rSl aJ p x20.Store.Turns ∈ rs)(b7:rSl kS q x20.Gone ∈ rs)(O:xU Tryz.prog ∈ rs){r:aG×(List aE)×(List aI)×(List aH)×(List aN)×(List aK)×(List aD)×(List ((Int)×aG))×(List ((Int)×bO))×(List ((Int)×aG))}(hm:eO b1 b2 b3 b4 L M z B A x20=some r) :
    Calls Tryz.prog 11 [pt G 0,.agg (aR x20 n o p q).toArray].toArray w (Ret fun v w'=>∃ j5 j6 j7 j8 j9 k0 k1 d3 d4 d5 d6 d7,.agg (bC r.1 j5 j6 j7 j8 j9 k0).toArray=v∧Sep w' (Blk G 75 [k1,d3,d4,d5,d6,d7,.map (some t),.map (some u),.map (some x)]::cB Tryz.prog 2 (kyI .i64) bI true t r.2.2.2.2.2.2.2.1::cB Tryz.prog 2 (kyI .i64) cQ true u r.2.2.2.2.2.2.2.2.1::cB Tryz.prog 2 (kyI .i64) bI true x r.2.2.2.2.2.2.2.2.2::Fo) (rSl bE j5 r.1.Results::rSl aF j6 r.1.Store.Nodes::rSl aJ j7 r.1.Store.Turns::rSl aV j8 r.1.Events::rSl bL j9 r.1.Mounts::rSl (kI .i64) k0 r.1.Wounded::rSl aF k1 r.2.1::rSl aJ d3 r.2.2.1::rSl aS d4 r.2.2.2.1::rSl bG d5 r.2.2.2.2.1::rSl aX d6 r.2.2.2.2.2.1::rSl aO d7 r.2.2.2.2.2.2.1::rs)):=by
 unfold eO at hm
 refine ent Tryz.func11 rfl Tryz.ntmps11 rfl rfl fun a E=>sq<|bS E H (wn rfl) rfl rfl rfl rfl rfl fun C w a H E=>al E H rfl rfl rfl rfl gN fun D w a H E=>nx<|sv E rfl rfl rfl (cI E rfl (E.evs rfl) (v:=.agg #[.nilFunc,.func (.func 25) #[] #[],.func (.func 26) #[] #[],.func (.func 27) #[] #[],.func (.func 28) #[] #[],.func (.func 29) #[] #[],.func (.func 30) #[] #[],.func (.func 31) #[] #[],.func (.func 32) #[] #[],.func (.func 33) #[] #[],.func (.func 34) #[] #[]]) (by kernel_rfl)) fun a E=>al E H rfl rfl rfl rfl Zc fun F w a H E=>aZ (i:=0) E H (wn rfl) rfl rfl rfl rfl rfl rfl Zd rfl rfl fun w H=>nt<|?_
 refine wp_seq<|wp_block<|aT (fun a w=>∃ b8 P,Env 46 a [(0,pt G 0),(3,pt C 0),(4,pt D 0),(5,pt F 0),(7,.bool b8)]∧Sep w (Blk G 75 [X,Y,Z,b0,J,K,.map (some t),.map (some u),.map (some x)]::Blk C 37 (aR x20 n o p q)::Blk D 48 bN::Blk F 89 [.nilFunc,.func (.func 25) #[] #[],.func (.func 26) #[] #[],.func (.func 27) #[] #[],.func (.func 28) #[] #[],.func (.func 29) #[] #[],.func (.func 30) #[] #[],.func (.func 31) #[] #[],.func (.func 32) #[] #[],.func (.func 33) #[] #[],.func (.func 34) #[] #[]]::cB Tryz.prog 2 (kyI .i64) bI true t z::cB Tryz.prog 2 (kyI .i64) cQ true u B::cB Tryz.prog 2 (kyI .i64) bI true x A::Fo) P∧(∀ r,r ∈ rs→r ∈ P)∧mW b1 b2 b3 b4 L M z B A x20 b8=some r) ?_ ?_
 ·refine sq<|sv E rfl rfl rfl (cA (i:=2) (us:=(aR x20 n o p q)) E H rfl rfl rfl rfl U37 rfl s7) fun a E=>bd hm fun n8 c5 hm=>xk E rfl rfl rfl rfl rfl Ze (Br H N b5 b6 b7 c5) fun w H a E=>pr 2 E rfl fun a E=>nt<|wif E hm rfl (fun hm=>?_) fun hm=>?_
  ·exact wp_skip<|aC<|have H:=H.frs [6,6,6,3,4,5,6] rfl;⟨_,_,E.to rfl,H,Y0,hm⟩
  ·exact wp_region_lit<|pr 1 E rfl fun a E=>lb E H 2 rfl rfl rfl rfl rfl rfl rfl U3 rfl fun a E=>pr 2 E rfl fun a E=>nt<|have H:=H.frs [6,6,6,3,4,5,6] rfl;⟨_,_,E.to rfl,H,Y0,hm⟩
 ·clear E H hm
  rintro a w ⟨b8,P,E,H,s,hm⟩
  unfold mW at hm
  refine wif E hm rfl (fun hm=>?_) fun hm=>?_
  ·refine sq<|bd hm fun k2 d8 hm=>cG E rfl rfl rfl rfl rfl tM (dT H d8)<|?_
   rintro _ w ⟨k3,k4,k5,k6,k7,k8,rfl,H⟩ a E
   refine aZ (i:=2) E H (wn rfl) rfl rfl rfl rfl rfl rfl bU rfl (bF H m0 mm1 mm2 mm3 mm4 mm5) fun w H=>nt<|wp_ret<|bV<|aP<|dH E rfl (cV (i:=2) (us:=(bC k2 k3 k4 k5 k6 k7 k8)) H rfl rfl rfl U48 rfl bU)<|have H:=H.drs [1,1,1];?_
   cases hm
   exact X12 ⟨rfl,H.reads (aA m0 (aA mm1 (aA mm2 (aA mm3 (aA mm4 (aA mm5 (aA (t6 (s _ f)) (aA (t6 (s _ g)) (aA (t6 (s _ k)) (aA (t6 (s _ e)) (aA (t6 (s _ l)) (aA (t6 (s _ m)) (fun r hr=>(t6 (s r hr)))))))))))))))⟩
  ·refine aT (fun a w=>∃ b9 Q,Env 46 a [(0,pt G 0),(3,pt C 0),(4,pt D 0),(5,pt F 0),(15,.bool b9)]∧Sep w (Blk G 75 [X,Y,Z,b0,J,K,.map (some t),.map (some u),.map (some x)]::Blk C 37 (aR x20 n o p q)::Blk D 48 bN::Blk F 89 [.nilFunc,.func (.func 25) #[] #[],.func (.func 26) #[] #[],.func (.func 27) #[] #[],.func (.func 28) #[] #[],.func (.func 29) #[] #[],.func (.func 30) #[] #[],.func (.func 31) #[] #[],.func (.func 32) #[] #[],.func (.func 33) #[] #[],.func (.func 34) #[] #[]]::cB Tryz.prog 2 (kyI .i64) bI true t z::cB Tryz.prog 2 (kyI .i64) cQ true u B::cB Tryz.prog 2 (kyI .i64) bI true x A::Fo) Q∧(∀ r,r ∈ rs→r ∈ Q)∧mV b1 b2 b3 b4 L M z B A x20 b9=some r) ?_ ?_
   ·refine sq<|pr 1 E rfl fun a E=>lb E H 1 rfl rfl rfl rfl rfl rfl rfl U3 rfl fun a E=>pr 2 E rfl fun a E=>nt<|wif E hm rfl (fun hm=>?_) fun hm=>?_
    ·exact wp_skip<|aC<|⟨_,_,E.to rfl,H,s,hm⟩
    ·exact wp_region_lit<|pr 1 E rfl fun a E=>lb E H 1 rfl rfl rfl rfl rfl rfl rfl U3 rfl fun a E=>pr 2 E rfl fun a E=>nt<|⟨_,_,E.to rfl,H,s,hm⟩
   ·clear E H hm
    rintro a w ⟨b9,Q,E,H,c,hm⟩
    unfold mV at hm
    refine wif E hm rfl (fun hm=>?_) fun hm=>?_
    ·refine wp_seq<|dw [(0,0),(1,0),(2,0),(3,0),(4,0),(5,0),(6,1),(7,2)] [1,3] [] H (by kernel_rfl) (fun _ _ _ h=>False.elim h.2) fun w W0 hI H=>fn 1 E rfl fun a E=>fbn E (aR x20 n o p q) rfl (wn rfl) rfl rfl rfl rfl m0 rfl U37 rfl s7 fun a E=>fn 1 E rfl fun a E=>fb E rfl (wn rfl) rfl rfl rfl rfl m0 rfl U3 rfl fun a E=>cs hm (fun c0 hm=>?_) fun c0 hm=>?_
     ·refine bW E rfl (wn rfl) rfl rfl (fun w hW=>nU (j:=1) E rfl rfl rfl c0 rfl U89 E2) fun a E=>?_
      refine fb E rfl (wn rfl) rfl rfl rfl rfl mm1 rfl U88 rfl fun a E=>bZ rfl<|have H:=H.frs [6,6,5,5,5,6,6] rfl;bd hm fun k9 d9 hm=>cG E rfl rfl rfl rfl rfl Ih (L3 H (c _ f) (c _ g) (c _ k) (c _ e) (c _ l) (c _ m) (c _ N) (c _ O) d9)<|?_
      rintro _ w ⟨l0,l1,l2,l3,l4,l5,p3,p4,p5,p6,rfl,H⟩ a E
      refine nt<|?_
      refine ⟨⟨_,_,H,(aB mm2 (aB mm4 (aL))),(aM)⟩,?_⟩
      refine bQ rfl<|aZ (i:=3) E H (wn rfl) rfl rfl rfl rfl rfl rfl bU rfl (bF H m0 mm1 mm2 mm3 mm4 mm5) fun w H=>nt<|bR<|?_
      clear hI
      refine aC<|wp_ret<|bV<|aP<|dH E rfl (cV (i:=3) (us:=(bC k9.1 l0 l1 l2 l3 l4 l5)) H rfl rfl rfl U48 rfl bU)<|have H:=H.drs [2,2,2];?_
      cases hm
      exact X12 ⟨rfl,H.reads (aA m0 (aA mm1 (aA mm2 (aA mm3 (aA mm4 (aA mm5 (aA mm6 (aA (t1 mm6) (aA (t2 (t8 (c _ k))) (aA (t2 (t8 (c _ e))) (aA (t2 mm6) (aA (t3 mm6) (fun r hr=>(t2 (t8 (c r hr))))))))))))))))⟩
     ·refine cs hm (fun c1 hm=>?_) fun c1 hm=>?_
      ·refine bW E rfl (wn rfl) rfl rfl (fun w hW=>nU (j:=8) E rfl rfl rfl c1 rfl U89 E2) fun a E=>?_
       refine fb E rfl (wn rfl) rfl rfl rfl rfl mm1 rfl U88 rfl fun a E=>bZ rfl<|have H:=H.frs [6,6,5,5,5,6,6] rfl;bd hm fun l6 e0 hm=>cG E rfl rfl rfl rfl rfl Ih (L2 H (c _ l) (c _ m) e0)<|?_
       rintro _ w ⟨l7,l8,l9,m1,m2,m3,p7,p8,rfl,H⟩ a E
       refine nt<|?_
       refine ⟨⟨_,_,H,(aB mm2 (aB mm4 (aL))),(aM)⟩,?_⟩
       refine bQ rfl<|aZ (i:=3) E H (wn rfl) rfl rfl rfl rfl rfl rfl bU rfl (bF H m0 mm1 mm2 mm3 mm4 mm5) fun w H=>nt<|bR<|?_
       clear hI
       refine aC<|wp_ret<|bV<|aP<|dH E rfl (cV (i:=3) (us:=(bC l6.1 l7 l8 l9 m1 m2 m3)) H rfl rfl rfl U48 rfl bU)<|have H:=H.drs [2,2,2];?_
       cases hm
       exact X12 ⟨rfl,H.reads (aA m0 (aA mm1 (aA mm2 (aA mm3 (aA mm4 (aA mm5 (aA (t8 (c _ f)) (aA (t8 (c _ g)) (aA (t8 (c _ k)) (aA (t8 (c _ e)) (aA mm6 (aA (t1 mm6) (fun r hr=>(t8 (c r hr)))))))))))))))⟩
      ·refine cs hm (fun c2 hm=>?_) fun c2 hm=>?_
       ·refine bW E rfl (wn rfl) rfl rfl (fun w hW=>nU (j:=9) E rfl rfl rfl c2 rfl U89 E2) fun a E=>?_
        refine fb E rfl (wn rfl) rfl rfl rfl rfl mm1 rfl U88 rfl fun a E=>bZ rfl<|have H:=H.frs [6,6,5,5,5,6,6] rfl;bd hm fun m4 e1 hm=>cG E rfl rfl rfl rfl rfl Ih (L1 H (c _ l) (c _ m) e1)<|?_
        rintro _ w ⟨m5,m6,m7,m8,m9,n0,p9,q0,rfl,H⟩ a E
        refine nt<|?_
        refine ⟨⟨_,_,H,(aB mm2 (aB mm4 (aL))),(aM)⟩,?_⟩
        refine bQ rfl<|aZ (i:=3) E H (wn rfl) rfl rfl rfl rfl rfl rfl bU rfl (bF H m0 mm1 mm2 mm3 mm4 mm5) fun w H=>nt<|bR<|?_
        clear hI
        refine aC<|wp_ret<|bV<|aP<|dH E rfl (cV (i:=3) (us:=(bC m4.1 m5 m6 m7 m8 m9 n0)) H rfl rfl rfl U48 rfl bU)<|have H:=H.drs [2,2,2];?_
        cases hm
        exact X12 ⟨rfl,H.reads (aA m0 (aA mm1 (aA mm2 (aA mm3 (aA mm4 (aA mm5 (aA (t8 (c _ f)) (aA (t8 (c _ g)) (aA (t8 (c _ k)) (aA (t8 (c _ e)) (aA mm6 (aA (t1 mm6) (fun r hr=>(t8 (c r hr)))))))))))))))⟩
       ·refine cs hm (fun c3 hm=>?_) fun c3 hm=>?_
        ·refine bW E rfl (wn rfl) rfl rfl (fun w hW=>nU (j:=10) E rfl rfl rfl c3 rfl U89 E2) fun a E=>?_
         refine fb E rfl (wn rfl) rfl rfl rfl rfl mm1 rfl U88 rfl fun a E=>bZ rfl<|have H:=H.frs [6,6,5,5,5,6,6] rfl;bd hm fun n1 e2 hm=>cG E rfl rfl rfl rfl rfl Ih (Q4 H (c _ l) (c _ m) e2)<|?_
         rintro _ w ⟨n2,n3,n4,n5,n6,n7,q1,q2,rfl,H⟩ a E
         refine nt<|?_
         refine ⟨⟨_,_,H,(aB mm2 (aB mm4 (aL))),(aM)⟩,?_⟩
         refine bQ rfl<|aZ (i:=3) E H (wn rfl) rfl rfl rfl rfl rfl rfl bU rfl (bF H m0 mm1 mm2 mm3 mm4 mm5) fun w H=>nt<|bR<|?_
         clear hI
         refine aC<|wp_ret<|bV<|aP<|dH E rfl (cV (i:=3) (us:=(bC n1.1 n2 n3 n4 n5 n6 n7)) H rfl rfl rfl U48 rfl bU)<|have H:=H.drs [2,2,2];?_
         cases hm
         exact X12 ⟨rfl,H.reads (aA m0 (aA mm1 (aA mm2 (aA mm3 (aA mm4 (aA mm5 (aA (t8 (c _ f)) (aA (t8 (c _ g)) (aA (t8 (c _ k)) (aA (t8 (c _ e)) (aA mm6 (aA (t1 mm6) (fun r hr=>(t8 (c r hr)))))))))))))))⟩
        ·exact (bT hm rfl).elim
    ·refine aT (fun a w=>∃ c4 I,Env 46 a [(0,pt G 0),(3,pt C 0),(4,pt D 0),(5,pt F 0),(29,.bool c4)]∧Sep w (Blk G 75 [X,Y,Z,b0,J,K,.map (some t),.map (some u),.map (some x)]::Blk C 37 (aR x20 n o p q)::Blk D 48 bN::Blk F 89 [.nilFunc,.func (.func 25) #[] #[],.func (.func 26) #[] #[],.func (.func 27) #[] #[],.func (.func 28) #[] #[],.func (.func 29) #[] #[],.func (.func 30) #[] #[],.func (.func 31) #[] #[],.func (.func 32) #[] #[],.func (.func 33) #[] #[],.func (.func 34) #[] #[]]::cB Tryz.prog 2 (kyI .i64) bI true t z::cB Tryz.prog 2 (kyI .i64) cQ true u B::cB Tryz.prog 2 (kyI .i64) bI true x A::Fo) I∧(∀ r,r ∈ rs→r ∈ I)∧mU b1 b2 b3 b4 L M z B A x20 c4=some r) ?_ ?_
     ·refine wp_region_lit<|pr 1 E rfl fun a E=>lb E H 1 rfl rfl rfl rfl rfl rfl rfl U3 rfl fun a E=>pr 2 E rfl fun a E=>cs hm (fun y hm=>?_) fun y hm=>?_
      ·exact pk 1 E (kc 33 rfl y) rfl fun a E=>aQ E (ws' (d:=33) E rfl rfl rfl rfl y) rfl rfl (cD (i:=1) E H rfl rfl rfl rfl U9 rfl) fun a E=>pk 3 E (kc 33 rfl y) rfl fun a E=>nt<|⟨_,_,E.to rfl,H,c,hm⟩
      ·exact pk 5 E (kc 33 rfl y) rfl fun a E=>nt<|⟨_,_,E.to rfl,H,c,hm⟩
     ·clear E H hm
      rintro a w ⟨c4,I,E,H,b,hm⟩
      unfold mU at hm
      refine wif E hm rfl (fun hm=>?_) fun hm=>?_
      ·refine sq<|bd hm fun e3 c6 hm=>cG E rfl rfl rfl rfl rfl tM (dT H c6)<|?_
       rintro _ w ⟨e4,e5,e6,e7,e8,e9,rfl,H⟩ a E
       refine aZ (i:=2) E H (wn rfl) rfl rfl rfl rfl rfl rfl bU rfl (bF H m0 mm1 mm2 mm3 mm4 mm5) fun w H=>nt<|wp_ret<|bV<|aP<|dH E rfl (cV (i:=2) (us:=(bC e3 e4 e5 e6 e7 e8 e9)) H rfl rfl rfl U48 rfl bU)<|have H:=H.drs [1,1,1];?_
       cases hm
       exact X12 ⟨rfl,H.reads (aA m0 (aA mm1 (aA mm2 (aA mm3 (aA mm4 (aA mm5 (aA (t6 (b _ f)) (aA (t6 (b _ g)) (aA (t6 (b _ k)) (aA (t6 (b _ e)) (aA (t6 (b _ l)) (aA (t6 (b _ m)) (fun r hr=>(t6 (b r hr)))))))))))))))⟩
      ·refine wp_skip<|bY<|aC<|wp_seq<|dw [(0,0),(1,0),(2,0),(3,0),(4,0),(5,0),(6,1),(7,2)] [1,3] [] H (by kernel_rfl) (fun _ _ _ h=>False.elim h.2) fun w W0 hI H=>fn 1 E rfl fun a E=>fb E rfl (wn rfl) rfl rfl rfl rfl m0 rfl U3 rfl fun a E=>cs hm (fun R hm=>?_) fun R hm=>?_
       ·refine bW E rfl (wn rfl) rfl rfl (fun w hW=>nU (j:=2) E rfl rfl rfl R rfl U89 E2) fun a E=>?_
        refine fb E rfl (wn rfl) rfl rfl rfl rfl mm1 rfl U88 rfl fun a E=>fn 1 E rfl fun a E=>fbn E (aR x20 n o p q) rfl (wn rfl) rfl rfl rfl rfl m0 rfl U37 rfl s7 fun a E=>bZ rfl<|have H:=H.frs [6,5,5,5,5,6,6] rfl;bd hm fun f0 c7 hm=>aU E (wn rfl) rfl rfl (bP E rfl rfl rfl (AF _)) (J3 H (b _ f) (b _ g) (b _ k) (b _ e) (b _ N) (b _ O) c7)<|?_
        rintro _ w ⟨f1,f2,f3,f4,f5,f6,n9,rfl,H⟩ a E
        refine nt<|?_
        refine ⟨⟨_,_,H,(aB mm2 (aB mm4 (aL))),(aM)⟩,?_⟩
        refine bQ rfl<|aZ (i:=3) E H (wn rfl) rfl rfl rfl rfl rfl rfl bU rfl (bF H m0 mm1 mm2 mm3 mm4 mm5) fun w H=>nt<|bR<|?_
        clear hI
        refine aC<|wp_ret<|dH E rfl (cV (i:=3) (us:=(bC f0.1 f1 f2 f3 f4 f5 f6)) H rfl rfl rfl U48 rfl bU)<|have H:=H.drs [2,2,2];have H:=H.frs [3,2,3,3] rfl;?_
        cases hm
        exact X12 ⟨rfl,H.reads (aA m0 (aA mm1 (aA mm2 (aA mm3 (aA mm4 (aA mm5 (aA (t7 (b _ f)) (aA (t7 (b _ g)) (aA (t7 (b _ k)) (aA mm6 (aA (t7 (b _ l)) (aA (t7 (b _ m)) (fun r hr=>(t7 (b r hr)))))))))))))))⟩
       ·refine cs hm (fun S hm=>?_) fun S hm=>?_
        ·refine bW E rfl (wn rfl) rfl rfl (fun w hW=>nU (j:=3) E rfl rfl rfl S rfl U89 E2) fun a E=>?_
         refine fb E rfl (wn rfl) rfl rfl rfl rfl mm1 rfl U88 rfl fun a E=>fn 1 E rfl fun a E=>fbn E (aR x20 n o p q) rfl (wn rfl) rfl rfl rfl rfl m0 rfl U37 rfl s7 fun a E=>bZ rfl<|have H:=H.frs [6,5,5,5,5,6,6] rfl;bd hm fun f7 c8 hm=>aU E (wn rfl) rfl rfl (bP E rfl rfl rfl (AD _)) (K6 H (b _ f) (b _ g) (b _ e) (b _ l) (b _ m) (b _ O) c8)<|?_
         rintro _ w ⟨f8,f9,g0,g1,g2,g3,o0,o1,o2,o3,o4,rfl,H⟩ a E
         refine nt<|?_
         refine ⟨⟨_,_,H,(aB mm2 (aB mm4 (aL))),(aM)⟩,?_⟩
         refine bQ rfl<|aZ (i:=3) E H (wn rfl) rfl rfl rfl rfl rfl rfl bU rfl (bF H m0 mm1 mm2 mm3 mm4 mm5) fun w H=>nt<|bR<|?_
         clear hI
         refine aC<|wp_ret<|dH E rfl (cV (i:=3) (us:=(bC f7.1 f8 f9 g0 g1 g2 g3)) H rfl rfl rfl U48 rfl bU)<|have H:=H.drs [2,2,2];have H:=H.frs [3,2,3,3] rfl;?_
         cases hm
         exact X12 ⟨rfl,H.reads (aA m0 (aA mm1 (aA mm2 (aA mm3 (aA mm4 (aA mm5 (aA mm6 (aA (t1 mm6) (aA (t3 (t8 (b _ k))) (aA (t2 mm6) (aA (t3 mm6) (aA (t4 mm6) (fun r hr=>(t3 (t8 (b r hr))))))))))))))))⟩
        ·refine cs hm (fun T hm=>?_) fun T hm=>?_
         ·refine bW E rfl (wn rfl) rfl rfl (fun w hW=>nU (j:=4) E rfl rfl rfl T rfl U89 E2) fun a E=>?_
          refine fb E rfl (wn rfl) rfl rfl rfl rfl mm1 rfl U88 rfl fun a E=>fn 1 E rfl fun a E=>fbn E (aR x20 n o p q) rfl (wn rfl) rfl rfl rfl rfl m0 rfl U37 rfl s7 fun a E=>bZ rfl<|have H:=H.frs [5,5,5,5,5,6,6] rfl;bd hm fun g4 c9 hm=>aU E (wn rfl) rfl rfl (bP E rfl rfl rfl (AC _)) (K4 H c9)<|?_
          rintro _ w ⟨g5,g6,g7,g8,g9,i0,rfl,H⟩ a E
          refine nt<|?_
          refine ⟨⟨_,_,H,(aB mm2 (aB mm4 (aL))),(aM)⟩,?_⟩
          refine bQ rfl<|aZ (i:=3) E H (wn rfl) rfl rfl rfl rfl rfl rfl bU rfl (bF H m0 mm1 mm2 mm3 mm4 mm5) fun w H=>nt<|bR<|?_
          clear hI
          refine aC<|wp_ret<|dH E rfl (cV (i:=3) (us:=(bC g4.1 g5 g6 g7 g8 g9 i0)) H rfl rfl rfl U48 rfl bU)<|have H:=H.drs [2,2,2];have H:=H.frs [1,3,3,3] rfl;?_
          cases hm
          exact X12 ⟨rfl,H.reads (aA m0 (aA mm1 (aA mm2 (aA mm3 (aA mm4 (aA mm5 (aA (t6 (b _ f)) (aA (t6 (b _ g)) (aA (t6 (b _ k)) (aA (t6 (b _ e)) (aA (t6 (b _ l)) (aA (t6 (b _ m)) (fun r hr=>(t6 (b r hr)))))))))))))))⟩
         ·refine cs hm (fun U hm=>?_) fun U hm=>?_
          ·refine bW E rfl (wn rfl) rfl rfl (fun w hW=>nU (j:=5) E rfl rfl rfl U rfl U89 E2) fun a E=>?_
           refine fb E rfl (wn rfl) rfl rfl rfl rfl mm1 rfl U88 rfl fun a E=>fn 1 E rfl fun a E=>fbn E (aR x20 n o p q) rfl (wn rfl) rfl rfl rfl rfl m0 rfl U37 rfl s7 fun a E=>bZ rfl<|bd hm fun i1 d0 hm=>aU E (wn rfl) rfl rfl (bP E rfl rfl rfl (AA _)) (K9 H (b _ f) (b _ g) (b _ k) (b _ e) d0)<|?_
           rintro _ w ⟨i2,i3,i4,i5,i6,i7,o5,rfl,H⟩ a E
           refine nt<|?_
           refine ⟨⟨_,_,H,(aB mm1 (aB mm3 (aL))),(aM)⟩,?_⟩
           refine bQ rfl<|aZ (i:=2) E H (wn rfl) rfl rfl rfl rfl rfl rfl bU rfl (bF H m0 mm1 mm2 mm3 mm4 mm5) fun w H=>nt<|bR<|?_
           clear hI
           refine aC<|wp_ret<|dH E rfl (cV (i:=2) (us:=(bC i1.1 i2 i3 i4 i5 i6 i7)) H rfl rfl rfl U48 rfl bU)<|have H:=H.drs [1,1,1];?_
           cases hm
           exact X12 ⟨rfl,H.reads (aA m0 (aA mm1 (aA mm2 (aA mm3 (aA mm4 (aA mm5 (aA (t7 (b _ f)) (aA (t7 (b _ g)) (aA mm6 (aA (t7 (b _ e)) (aA (t7 (b _ l)) (aA (t7 (b _ m)) (fun r hr=>(t7 (b r hr)))))))))))))))⟩
          ·refine cs hm (fun V hm=>?_) fun V hm=>?_
           ·refine bW E rfl (wn rfl) rfl rfl (fun w hW=>nU (j:=6) E rfl rfl rfl V rfl U89 E2) fun a E=>?_
            refine fb E rfl (wn rfl) rfl rfl rfl rfl mm1 rfl U88 rfl fun a E=>fn 1 E rfl fun a E=>fbn E (aR x20 n o p q) rfl (wn rfl) rfl rfl rfl rfl m0 rfl U37 rfl s7 fun a E=>bZ rfl<|bd hm fun i8 d1 hm=>aU E (wn rfl) rfl rfl (bP E rfl rfl rfl (Zu _)) (I8 H (b _ f) (b _ g) (b _ k) (b _ e) (b _ b5) (b _ b6) (b _ b7) d1)<|?_
            rintro _ w ⟨i9,j0,j1,j2,j3,j4,o6,o7,o8,rfl,H⟩ a E
            refine nt<|?_
            refine ⟨⟨_,_,H,(aB mm1 (aB mm3 (aL))),(aM)⟩,?_⟩
            refine bQ rfl<|aZ (i:=2) E H (wn rfl) rfl rfl rfl rfl rfl rfl bU rfl (bF H m0 mm1 mm2 mm3 mm4 mm5) fun w H=>nt<|bR<|?_
            clear hI
            refine aC<|wp_ret<|dH E rfl (cV (i:=2) (us:=(bC i8.1 i9 j0 j1 j2 j3 j4)) H rfl rfl rfl U48 rfl bU)<|have H:=H.drs [1,1,1];?_
            cases hm
            exact X12 ⟨rfl,H.reads (aA m0 (aA mm1 (aA mm2 (aA mm3 (aA mm4 (aA mm5 (aA mm6 (aA (t1 mm6) (aA (t2 mm6) (aA (t1 (t8 (b _ e))) (aA (t1 (t8 (b _ l))) (aA (t1 (t8 (b _ m))) (fun r hr=>(t1 (t8 (b r hr))))))))))))))))⟩
           ·refine cs hm (fun W hm=>?_) fun W hm=>?_
            ·refine bW E rfl (wn rfl) rfl rfl (fun w hW=>nU (j:=7) E rfl rfl rfl W rfl U89 E2) fun a E=>?_
             refine fb E rfl (wn rfl) rfl rfl rfl rfl mm1 rfl U88 rfl fun a E=>fn 1 E rfl fun a E=>fbn E (aR x20 n o p q) rfl (wn rfl) rfl rfl rfl rfl m0 rfl U37 rfl s7 fun a E=>bZ rfl<|bd hm fun o9 d2 hm=>aU E (wn rfl) rfl rfl (bP E rfl rfl rfl (Zr _)) (P3 H (b _ f) (b _ g) (b _ k) d2)<|?_
             rintro _ w ⟨p0,p1,p2,rfl,H⟩ a E
             refine nt<|?_
             refine ⟨⟨_,_,H,(aB mm1 (aB mm3 (aL))),(aM)⟩,?_⟩
             refine bQ rfl<|aZ (i:=2) E H (wn rfl) rfl rfl rfl rfl rfl rfl bU rfl rfl fun w H=>nt<|bR<|?_
             clear hI
             refine aC<|wp_ret<|dH E rfl (cV (i:=2) (us:=bN) H rfl rfl rfl U48 rfl bU)<|have H:=H.nilSl bE;have H:=H.nilSl aF;have H:=H.nilSl aJ;have H:=H.nilSl aV;have H:=H.nilSl bL;have H:=H.nilSl (kI .i64);?_
             refine have H:=H.drs [1,1,1];?_
             cases hm
             exact X12 ⟨rfl,H.reads (aA mm5 (aA mm4 (aA mm3 (aA mm2 (aA mm1 (aA m0 (aA mm6 (aA (t1 mm6) (aA (t2 mm6) (aA (t1 (t8 (b _ e))) (aA (t1 (t8 (b _ l))) (aA (t1 (t8 (b _ m))) (fun r hr=>(t1 (t8 (b r hr))))))))))))))))⟩
            ·exact (bT hm rfl).elim

def uF(b:List aN):Option (List aN):=
  (ck (b.length ≤ LIM)).bind fun c=>some (b)
theorem N3{k:Nat}{l b c d e f g i j:Value}{o:List aN}(H:Sep w (Blk k 75 [b,c,d,l,e,f,g,i,j]::Fo) rs)(m:rSl bG l o ∈ rs){r:(List aN)}(hm:uF o=some r) :
    Calls Tryz.prog 17 [pt k 0].toArray w (Ret fun v w'=>∃ p,p=v∧Sep w' (Row 103 bG p r::Blk k 75 [b,c,d,l,e,f,g,i,j]::Fo) (rs)):=by
 unfold uF at hm
 refine ent Tryz.func17 rfl Tryz.ntmps17 rfl rfl fun a E=>sq<|pr 1 E rfl fun a E=>nx<|pr 3 E rfl fun a E=>lb E H 0 rfl rfl rfl rfl rfl rfl rfl U62 rfl fun a E=>bk hm fun n hm=>aU E (wn rfl) rfl rfl (cC E rfl rfl (Lx _)) (iS H m n) fun q w H a E=>pr 1 E rfl fun a E=>?_
 refine nt<|wp_ret<|aY E rfl rfl<|?_
 cases hm
 exact ⟨_,rfl,H.reads Y0⟩

def sW(b:List aH):Option (List aH):=
  (ck (b.length ≤ LIM)).bind fun c=>some (b)
theorem L4{k:Nat}{l b c d e f g i j:Value}{o:List aH}(H:Sep w (Blk k 75 [b,c,l,d,e,f,g,i,j]::Fo) rs)(m:rSl aS l o ∈ rs){r:(List aH)}(hm:sW o=some r) :
    Calls Tryz.prog 19 [pt k 0].toArray w (Ret fun v w'=>∃ p,p=v∧Sep w' (Row 31 aS p r::Blk k 75 [b,c,l,d,e,f,g,i,j]::Fo) (rs)):=by
 unfold sW at hm
 refine ent Tryz.func19 rfl Tryz.ntmps19 rfl rfl fun a E=>sq<|pr 1 E rfl fun a E=>nx<|pr 3 E rfl fun a E=>lb E H 0 rfl rfl rfl rfl rfl rfl rfl U32 rfl fun a E=>bk hm fun n hm=>aU E (wn rfl) rfl rfl (cC E rfl rfl (Sr _)) (mC H m n) fun q w H a E=>pr 1 E rfl fun a E=>?_
 refine nt<|wp_ret<|aY E rfl rfl<|?_
 cases hm
 exact ⟨_,rfl,H.reads Y0⟩

def kJ(b:List aE)(c:List aI):Option bB:=
  (ck (b.length ≤ LIM)).bind fun d=>(ck (c.length ≤ LIM)).bind fun e=>some ((⟨b,c⟩:bB))
theorem zO{o:Nat}{p q d e f g j k l:Value}{b:List aE}{c:List aI}(H:Sep w (Blk o 75 [p,q,d,e,f,g,j,k,l]::Fo) rs)(s:rSl aF p b ∈ rs)(t:rSl aJ q c ∈ rs){r:bB}(hm:kJ b c=some r) :
    Calls Tryz.prog 13 [pt o 0].toArray w (Ret fun v w'=>∃ y z,.agg #[y,z]=v∧Sep w' (Blk o 75 [p,q,d,e,f,g,j,k,l]::Fo) (rSl aF y r.Nodes::rSl aJ z r.Turns::rs)):=by
 unfold kJ at hm
 refine ent Tryz.func13 rfl Tryz.ntmps13 rfl rfl fun a E=>sq<|al E H rfl rfl rfl rfl jN fun A w a H E=>nt<|wp_seq<|dw [(0,0),(1,0),(2,0),(3,0),(4,0),(6,0),(7,0),(8,0),(9,0),(10,0),(5,1),(11,1),(12,0),(13,2)] [1] [] H (by kernel_rfl) (fun _ _ _ h=>False.elim h.2) fun w W0 hI H=>fn 4 E rfl fun a E=>fb E rfl (wn rfl) rfl rfl rfl rfl m0 rfl U22 rfl fun a E=>fn 4 E rfl fun a E=>?_
 refine fb E rfl (wn rfl) rfl rfl rfl rfl m0 rfl U23 rfl fun a E=>bZ rfl<|bk hm fun u hm=>aU E (wn rfl) rfl rfl (cC E rfl rfl (Sh _)) (nE H s u) fun B w H a E=>nt<|?_
 refine ⟨⟨_,_,H,(aB mm2 (aL)),(aM)⟩,?_⟩
 refine bZ rfl<|bk hm fun x hm=>aU E (wn rfl) rfl rfl (cC E rfl rfl (Si _)) (nF H t x) fun C w H a E=>nt<|?_
 refine ⟨⟨_,_,H,(aB mm3 (aL)),(aM)⟩,?_⟩
 obtain ⟨q36,m,rfl⟩:=H.rowform (i:=1) rfl
 obtain ⟨q38,n,rfl⟩:=H.rowform (i:=0) rfl
 refine bW E rfl (wn rfl) rfl rfl (fun w hW=>(cI E rfl (E.evs rfl) (v:=.agg #[(.slice q36 b.length m),(.slice q38 c.length n)]) (by kernel_rfl))) fun a E=>?_
 refine bQ rfl<|aZ (i:=2) E H (wn rfl) rfl rfl rfl rfl rfl rfl dA rfl rfl fun w H=>nt<|bR<|?_
 clear hI
 refine aC<|wp_ret<|dH E rfl (cV (i:=2) (us:=[(.slice q36 b.length m),(.slice q38 c.length n)]) H rfl rfl rfl U25 rfl dA)<|have H:=H.thaw (i:=1) rfl;have H:=H.thaw (i:=0) rfl;have H:=H.drop 0;?_
 cases hm
 exact ⟨_,_,rfl,H.reads (aA mm1 (aA m0 (fun r hr=>(t2 hr))))⟩

def vI:Option Bool:=
  uX.bind fun u=>W5 u (some (false)) fun j=>(hC (ByteArray.mk #[47,97])).bind fun p=>(eO j.1 j.2.1 j.2.2 ([]:List aN) ([]:List aK) ([]:List aD) [] [] [] (⟨1,1,0,0,false,p,(ByteArray.mk #[]),0,0,(⟨[],[]⟩:bB),[],(⟨0,0,(ByteArray.mk #[]),false⟩:aK)⟩:bA)).bind fun d=>(hC (ByteArray.mk #[47,97])).bind fun q=>(eO d.2.1 d.2.2.1 d.2.2.2.1 d.2.2.2.2.1 d.2.2.2.2.2.1 d.2.2.2.2.2.2.1 d.2.2.2.2.2.2.2.1 d.2.2.2.2.2.2.2.2.1 d.2.2.2.2.2.2.2.2.2 (⟨1,1,0,0,false,q,(ByteArray.mk #[]),0,0,(⟨[],[]⟩:bB),[],(⟨0,0,(ByteArray.mk #[]),false⟩:aK)⟩:bA)).bind fun c=>(hC (ByteArray.mk #[47,97,47,98])).bind fun s=>(eO c.2.1 c.2.2.1 c.2.2.2.1 c.2.2.2.2.1 c.2.2.2.2.2.1 c.2.2.2.2.2.2.1 c.2.2.2.2.2.2.2.1 c.2.2.2.2.2.2.2.2.1 c.2.2.2.2.2.2.2.2.2 (⟨2,0,5,1,false,s,(ByteArray.mk #[]),0,0,(⟨[],[]⟩:bB),[],(⟨0,0,(ByteArray.mk #[]),false⟩:aK)⟩:bA)).bind fun e=>(hC (ByteArray.mk #[47,97,47,99])).bind fun t=>(eO e.2.1 e.2.2.1 e.2.2.2.1 e.2.2.2.2.1 e.2.2.2.2.2.1 e.2.2.2.2.2.2.1 e.2.2.2.2.2.2.2.1 e.2.2.2.2.2.2.2.2.1 e.2.2.2.2.2.2.2.2.2 (⟨1,2,0,0,false,t,(ByteArray.mk #[]),0,0,(⟨[],[]⟩:bB),[],(⟨0,0,(ByteArray.mk #[]),false⟩:aK)⟩:bA)).bind fun f=>(eO f.2.1 f.2.2.1 f.2.2.2.1 f.2.2.2.2.1 f.2.2.2.2.2.1 f.2.2.2.2.2.2.1 f.2.2.2.2.2.2.2.1 f.2.2.2.2.2.2.2.2.1 f.2.2.2.2.2.2.2.2.2 (⟨3,0,5,0,true,[],(ByteArray.mk #[]),0,0,(⟨[],[]⟩:bB),[],(⟨0,0,(ByteArray.mk #[]),false⟩:aK)⟩:bA)).bind fun g=>(eO g.2.1 g.2.2.1 g.2.2.2.1 g.2.2.2.2.1 g.2.2.2.2.2.1 g.2.2.2.2.2.2.1 g.2.2.2.2.2.2.2.1 g.2.2.2.2.2.2.2.2.1 g.2.2.2.2.2.2.2.2.2 (⟨5,0,0,0,false,[],(ByteArray.mk #[47,97]),1,0,(⟨[],[]⟩:bB),[],(⟨0,0,(ByteArray.mk #[]),false⟩:aK)⟩:bA)).bind fun b=>(hC (ByteArray.mk #[47,97,47,100])).bind fun k=>(eO b.2.1 b.2.2.1 b.2.2.2.1 b.2.2.2.2.1 b.2.2.2.2.2.1 b.2.2.2.2.2.2.1 b.2.2.2.2.2.2.2.1 b.2.2.2.2.2.2.2.2.1 b.2.2.2.2.2.2.2.2.2 (⟨1,3,0,0,false,k,(ByteArray.mk #[]),0,0,(⟨[],[]⟩:bB),[],(⟨0,0,(ByteArray.mk #[]),false⟩:aK)⟩:bA)).bind fun i=>if (d.1.Err == 0)=true then (if (c.1.Err == 0)=true then (if ((c.1.Results.length:Int) == 2)=true then (if e.1.Yes=true then (if (f.1.Err == 131)=true then (if (g.1.Err == 0)=true then ((kJ i.2.1 i.2.2.1).bind fun l=>if ((l.Nodes.length:Int) == 3)=true then (if (b.1.Epoch == 1)=true then (if ((b.1.Store.Nodes.length:Int) == 1)=true then (if (i.1.Err == 131)=true then ((sW i.2.2.2.1).bind fun m=>if ((m.length:Int) == 2)=true then ((uF i.2.2.2.2.1).bind fun n=>if ((n.length:Int) == 0)=true then ((q8 (⟨[],[]⟩:bB) ([(⟨(ByteArray.mk #[]),0,0⟩:aH)]:List aH)).bind fun o=>W5 o (some (true)) fun v=>some (false)) else (some (false))) else (some (false))) else (some (false))) else (some (false))) else (some (false))) else (some (false))) else (some (false))) else (some (false))) else (some (false))) else (some (false))) else (some (false))) else (some (false))
theorem Q8(H:Sep w (Fo) rs)(D:xU Tryz.prog ∈ rs){r:Bool}(hm:vI=some r) :
    Calls Tryz.prog 6 [].toArray w (Ret fun v w'=>.bool r=v∧Sep w' (Fo) (rs)):=by
 unfold vI at hm
 refine ent Tryz.func6 rfl Tryz.ntmps6 rfl rfl fun a E=>sq<|pr 1 E rfl fun a E=>nx<|bd hm fun o8 m4 hm=>cG E rfl rfl rfl rfl rfl Qc (r9 H m4)<|?_
 rintro _ w (⟨rfl,rfl,H⟩ | ⟨F,rfl,i6,m5,m6,m7,S,T,C,rfl,H⟩) a E
 ·replace hm:=As hm
  refine pr 1 E rfl fun a E=>nt<|wp_seq<|sq<|pr 1 E rfl fun a E=>sv E rfl rfl rfl (sY E rfl rfl rfl (v:=.bool true) (by kernel_rfl)) fun a E=>nt<|wp_cond_true (E.eval rfl)<|sq<|?_
  refine pr 1 E rfl fun a E=>nt<|wp_ret<|aP<|aY E rfl rfl<|?_
  cases hm
  exact ⟨rfl,H.reads Y0⟩
 ·replace hm:=Au hm
  refine pr 1 E rfl fun a E=>nt<|wp_seq<|sq<|pr 1 E rfl fun a E=>sv E rfl rfl rfl (sY E rfl rfl rfl (v:=.bool false) (by kernel_rfl)) fun a E=>nt<|wp_cond_false (E.eval rfl)<|wp_skip<|?_
  refine aC<|sq<|pr 1 E rfl fun a E=>bd hm fun G k1 hm=>cG E rfl rfl rfl rfl rfl Fl (lT H k1)<|?_
  rintro _ w ⟨o4,rfl,H⟩ a E
  obtain ⟨q15,c3,rfl⟩:=H.rowform (i:=0) rfl
  refine sv E rfl rfl rfl (cI E rfl (E.evs rfl) (v:=.agg #[.int .i64 1,.int .i64 1,.int .i64 0,.int .i64 0,.bool false,(.slice q15 G.length c3),.string (ByteArray.mk #[]),.int .i64 0,.int .i64 0,.slice none 0 0,.slice none 0 0,.slice none 0 0,.int .i64 0,.int .i64 0,.string (ByteArray.mk #[]),.bool false]) (by kernel_rfl)) fun a E=>have H:=H.thaw (i:=0) rfl;have H:=H.nilSl aF;have H:=H.nilSl aJ;have H:=H.nilSl kS;have H:=H.nilSl bG;have H:=H.nilSl aX;have H:=H.nilSl aO;bd hm fun b k2 hm=>?_
  refine cG E rfl rfl rfl rfl rfl O4 (jJ (x20:=(⟨1,1,0,0,false,G,(ByteArray.mk #[]),0,0,(⟨[],[]⟩:bB),[],(⟨0,0,(ByteArray.mk #[]),false⟩:aK)⟩:bA)) H (t1 mm6) (t2 mm6) (t3 mm6) mm2 mm1 m0 mm6 mm5 mm4 mm3 (t2 (t8 D)) k2)<|?_
  rintro _ w ⟨I,J,K,L,M,N,c4,c5,c6,c7,c8,c9,rfl,H⟩ a E
  refine al E H rfl rfl rfl rfl gN fun c2 w a H E=>aZ (i:=0) E H (wn rfl) rfl rfl rfl rfl rfl rfl bU rfl (bF H m0 mm1 mm2 mm3 mm4 mm5) fun w H=>?_
  replace H:Sep w (Blk c2 48 (bC b.1 I J K L M N)::Blk i6 75 [c4,c5,c6,c7,c8,c9,.map (some S),.map (some T),.map (some C)]::cB Tryz.prog 2 (kyI .i64) bI true S b.2.2.2.2.2.2.2.1::cB Tryz.prog 2 (kyI .i64) cQ true T b.2.2.2.2.2.2.2.2.1::cB Tryz.prog 2 (kyI .i64) bI true C b.2.2.2.2.2.2.2.2.2::Fo) _:=H
  refine nx<|pr 1 E rfl fun a E=>bd hm fun O k3 hm=>cG E rfl rfl rfl rfl rfl Fl (lT H k3)<|?_
  rintro _ w ⟨o5,rfl,H⟩ a E
  obtain ⟨q35,d0,rfl⟩:=H.rowform (i:=0) rfl
  refine sv E rfl rfl rfl (cI E rfl (E.evs rfl) (v:=.agg #[.int .i64 1,.int .i64 1,.int .i64 0,.int .i64 0,.bool false,(.slice q35 O.length d0),.string (ByteArray.mk #[]),.int .i64 0,.int .i64 0,.slice none 0 0,.slice none 0 0,.slice none 0 0,.int .i64 0,.int .i64 0,.string (ByteArray.mk #[]),.bool false]) (by kernel_rfl)) fun a E=>have H:=H.thaw (i:=0) rfl;have H:=H.nilSl aF;have H:=H.nilSl aJ;have H:=H.nilSl kS;have H:=H.frs [0,4,4,4,4] rfl;bd hm fun f k4 hm=>cG E rfl rfl rfl rfl rfl O4 (jJ (x20:=(⟨1,1,0,0,false,O,(ByteArray.mk #[]),0,0,(⟨[],[]⟩:bB),[],(⟨0,0,(ByteArray.mk #[]),false⟩:aK)⟩:bA)) H (t4 mm6) (t5 mm6) (t6 mm6) (t7 mm6) (t8 mm6) (t1 (t8 mm6)) mm3 mm2 mm1 m0 (t2 (t8 (t8 (t8 D)))) k4)<|?_
  rintro _ w ⟨U,V,W,X,Y,Z,j4,j5,j6,j7,j8,j9,rfl,H⟩ a E
  refine al E H rfl rfl rfl rfl gN fun d1 w a H E=>aZ (i:=0) E H (wn rfl) rfl rfl rfl rfl rfl rfl bU rfl (bF H m0 mm1 mm2 mm3 mm4 mm5) fun w H=>nx<|pr 1 E rfl fun a E=>bd hm fun P k5 hm=>cG E rfl rfl rfl rfl rfl Fl (lT H k5)<|?_
  rintro _ w ⟨o6,rfl,H⟩ a E
  obtain ⟨q55,d2,rfl⟩:=H.rowform (i:=0) rfl
  refine sv E rfl rfl rfl (cI E rfl (E.evs rfl) (v:=.agg #[.int .i64 2,.int .i64 0,.int .i64 5,.int .i64 1,.bool false,(.slice q55 P.length d2),.string (ByteArray.mk #[]),.int .i64 0,.int .i64 0,.slice none 0 0,.slice none 0 0,.slice none 0 0,.int .i64 0,.int .i64 0,.string (ByteArray.mk #[]),.bool false]) (by kernel_rfl)) fun a E=>have H:=H.thaw (i:=0) rfl;have H:=H.nilSl aF;have H:=H.nilSl aJ;have H:=H.nilSl kS;have H:=H.frs [5,1,5,5,5,5] rfl;bd hm fun c k6 hm=>cG E rfl rfl rfl rfl rfl O4 (jJ (x20:=(⟨2,0,5,1,false,P,(ByteArray.mk #[]),0,0,(⟨[],[]⟩:bB),[],(⟨0,0,(ByteArray.mk #[]),false⟩:aK)⟩:bA)) H (t4 mm6) (t5 mm6) (t6 mm6) (t7 mm6) (t8 mm6) (t1 (t8 mm6)) mm3 mm2 mm1 m0 (t2 (t8 (t8 (t8 (t8 (t8 D)))))) k6)<|?_
  rintro _ w ⟨b0,b1,b2,b3,b4,b5,d3,d4,d5,d6,d7,d8,rfl,H⟩ a E
  refine al E H rfl rfl rfl rfl gN fun d9 w a H E=>aZ (i:=0) E H (wn rfl) rfl rfl rfl rfl rfl rfl bU rfl (bF H m0 mm1 mm2 mm3 mm4 mm5) fun w H=>nx<|pr 1 E rfl fun a E=>bd hm fun Q k7 hm=>cG E rfl rfl rfl rfl rfl Fl (lT H k7)<|?_
  rintro _ w ⟨o7,rfl,H⟩ a E
  obtain ⟨q75,e0,rfl⟩:=H.rowform (i:=0) rfl
  refine sv E rfl rfl rfl (cI E rfl (E.evs rfl) (v:=.agg #[.int .i64 1,.int .i64 2,.int .i64 0,.int .i64 0,.bool false,(.slice q75 Q.length e0),.string (ByteArray.mk #[]),.int .i64 0,.int .i64 0,.slice none 0 0,.slice none 0 0,.slice none 0 0,.int .i64 0,.int .i64 0,.string (ByteArray.mk #[]),.bool false]) (by kernel_rfl)) fun a E=>have H:=H.thaw (i:=0) rfl;have H:=H.nilSl aF;have H:=H.nilSl aJ;have H:=H.nilSl kS;have H:=H.frs [6,6,2,6,6,6,6] rfl;?_
  replace H:Sep w (Blk i6 75 [d3,d4,d5,d6,d7,d8,.map (some S),.map (some T),.map (some C)]::cB Tryz.prog 2 (kyI .i64) bI true S c.2.2.2.2.2.2.2.1::cB Tryz.prog 2 (kyI .i64) cQ true T c.2.2.2.2.2.2.2.2.1::cB Tryz.prog 2 (kyI .i64) bI true C c.2.2.2.2.2.2.2.2.2::Blk d9 48 (bC c.1 b0 b1 b2 b3 b4 b5)::Blk d1 48 (bC f.1 U V W X Y Z)::Blk c2 48 (bC b.1 I J K L M N)::Fo) (rSl kS (.slice none 0 0) ([]:List ByteArray)::rSl aJ (.slice none 0 0) ([]:List aI)::rSl aF (.slice none 0 0) ([]:List aE)::rSl cE (.slice q75 Q.length e0) Q::rSl bE b0 c.1.Results::rSl aF b1 c.1.Store.Nodes::rSl aJ b2 c.1.Store.Turns::rSl aV b3 c.1.Events::rSl bL b4 c.1.Mounts::rSl (kI .i64) b5 c.1.Wounded::rSl aF d3 c.2.1::rSl aJ d4 c.2.2.1::rSl aS d5 c.2.2.2.1::rSl bG d6 c.2.2.2.2.1::rSl aX d7 c.2.2.2.2.2.1::rSl aO d8 c.2.2.2.2.2.2.1::rSl kS (.slice none 0 0) ([]:List ByteArray)::rSl aJ (.slice none 0 0) ([]:List aI)::rSl aF (.slice none 0 0) ([]:List aE)::rSl cE (.slice q55 P.length d2) P::rSl bE U f.1.Results::rSl aF V f.1.Store.Nodes::rSl aJ W f.1.Store.Turns::rSl aV X f.1.Events::rSl bL Y f.1.Mounts::rSl (kI .i64) Z f.1.Wounded::rSl aF j4 f.2.1::rSl aJ j5 f.2.2.1::rSl aS j6 f.2.2.2.1::rSl bG j7 f.2.2.2.2.1::rSl aX j8 f.2.2.2.2.2.1::rSl aO j9 f.2.2.2.2.2.2.1::rSl kS (.slice none 0 0) ([]:List ByteArray)::rSl aJ (.slice none 0 0) ([]:List aI)::rSl aF (.slice none 0 0) ([]:List aE)::rSl cE (.slice q35 O.length d0) O::rSl bE I b.1.Results::rSl aF J b.1.Store.Nodes::rSl aJ K b.1.Store.Turns::rSl aV L b.1.Events::rSl bL M b.1.Mounts::rSl (kI .i64) N b.1.Wounded::rSl aF c4 b.2.1::rSl aJ c5 b.2.2.1::rSl aS c6 b.2.2.2.1::rSl bG c7 b.2.2.2.2.1::rSl aX c8 b.2.2.2.2.2.1::rSl aO c9 b.2.2.2.2.2.2.1::rSl aO (.slice none 0 0) ([]:List aD)::rSl aX (.slice none 0 0) ([]:List aK)::rSl bG (.slice none 0 0) ([]:List aN)::rSl kS (.slice none 0 0) ([]:List ByteArray)::rSl aJ (.slice none 0 0) ([]:List aI)::rSl aF (.slice none 0 0) ([]:List aE)::rSl cE (.slice q15 G.length c3) G::rSl aF m5 F.1::rSl aJ m6 F.2.1::rSl aS m7 F.2.2::rs):=H
  refine bd hm fun l k8 hm=>cG E rfl rfl rfl rfl rfl O4 (jJ (x20:=(⟨1,2,0,0,false,Q,(ByteArray.mk #[]),0,0,(⟨[],[]⟩:bB),[],(⟨0,0,(ByteArray.mk #[]),false⟩:aK)⟩:bA)) H (t4 mm6) (t5 mm6) (t6 mm6) (t7 mm6) (t8 mm6) (t1 (t8 mm6)) mm3 mm2 mm1 m0 (t2 (t8 (t8 (t8 (t8 (t8 (t8 (t8 D)))))))) k8)<|?_
  rintro _ w ⟨e1,e2,e3,e4,e5,e6,m8,m9,n0,n1,n2,n3,rfl,H⟩ a E
  refine al E H rfl rfl rfl rfl gN fun k0 w a H E=>aZ (i:=0) E H (wn rfl) rfl rfl rfl rfl rfl rfl bU rfl (bF H m0 mm1 mm2 mm3 mm4 mm5) fun w H=>nx<|pr 1 E rfl fun a E=>sv E rfl rfl rfl (cI E rfl (E.evs rfl) (v:=.agg #[.int .i64 3,.int .i64 0,.int .i64 5,.int .i64 0,.bool true,.slice none 0 0,.string (ByteArray.mk #[]),.int .i64 0,.int .i64 0,.slice none 0 0,.slice none 0 0,.slice none 0 0,.int .i64 0,.int .i64 0,.string (ByteArray.mk #[]),.bool false]) (by kernel_rfl)) fun a E=>have H:=H.nilSl cE;have H:=H.nilSl aF;have H:=H.nilSl aJ;have H:=H.nilSl kS;?_
  refine have H:=H.frs [7,7,7,3,7,7,7,7] rfl;bd hm fun m k9 hm=>cG E rfl rfl rfl rfl rfl O4 (jJ (x20:=(⟨3,0,5,0,true,[],(ByteArray.mk #[]),0,0,(⟨[],[]⟩:bB),[],(⟨0,0,(ByteArray.mk #[]),false⟩:aK)⟩:bA)) H (t4 mm6) (t5 mm6) (t6 mm6) (t7 mm6) (t8 mm6) (t1 (t8 mm6)) mm3 mm2 mm1 m0 (t2 (t8 (t8 (t8 (t8 (t8 (t8 (t8 (t8 (t8 D)))))))))) k9)<|?_
  rintro _ w ⟨e7,e8,e9,f0,f1,f2,l0,l1,l2,l3,l4,l5,rfl,H⟩ a E
  refine al E H rfl rfl rfl rfl gN fun f3 w a H E=>aZ (i:=0) E H (wn rfl) rfl rfl rfl rfl rfl rfl bU rfl (bF H m0 mm1 mm2 mm3 mm4 mm5) fun w H=>nx<|pr 1 E rfl fun a E=>sv E rfl rfl rfl (cI E rfl (E.evs rfl) (v:=.agg #[.int .i64 5,.int .i64 0,.int .i64 0,.int .i64 0,.bool false,.slice none 0 0,.string (ByteArray.mk #[47,97]),.int .i64 1,.int .i64 0,.slice none 0 0,.slice none 0 0,.slice none 0 0,.int .i64 0,.int .i64 0,.string (ByteArray.mk #[]),.bool false]) (by kernel_rfl)) fun a E=>have H:=H.nilSl cE;have H:=H.nilSl aF;have H:=H.nilSl aJ;have H:=H.nilSl kS;?_
  refine have H:=H.frs [8,8,8,8,4,8,8,8,8] rfl;bd hm fun g i7 hm=>cG E rfl rfl rfl rfl rfl O4 (jJ (x20:=(⟨5,0,0,0,false,[],(ByteArray.mk #[47,97]),1,0,(⟨[],[]⟩:bB),[],(⟨0,0,(ByteArray.mk #[]),false⟩:aK)⟩:bA)) H (t4 mm6) (t5 mm6) (t6 mm6) (t7 mm6) (t8 mm6) (t1 (t8 mm6)) mm3 mm2 mm1 m0 (t2 (t8 (t8 (t8 (t8 (t8 (t8 (t8 (t8 (t8 (t8 (t8 D)))))))))))) i7)<|?_
  rintro _ w ⟨b6,b7,b8,b9,c0,c1,f4,f5,f6,f7,f8,f9,rfl,H⟩ a E
  refine al E H rfl rfl rfl rfl gN fun g0 w a H E=>aZ (i:=0) E H (wn rfl) rfl rfl rfl rfl rfl rfl bU rfl (bF H m0 mm1 mm2 mm3 mm4 mm5) fun w H=>?_
  replace H:Sep w (Blk g0 48 (bC g.1 b6 b7 b8 b9 c0 c1)::Blk i6 75 [f4,f5,f6,f7,f8,f9,.map (some S),.map (some T),.map (some C)]::cB Tryz.prog 2 (kyI .i64) bI true S g.2.2.2.2.2.2.2.1::cB Tryz.prog 2 (kyI .i64) cQ true T g.2.2.2.2.2.2.2.2.1::cB Tryz.prog 2 (kyI .i64) bI true C g.2.2.2.2.2.2.2.2.2::Blk f3 48 (bC m.1 e7 e8 e9 f0 f1 f2)::Blk k0 48 (bC l.1 e1 e2 e3 e4 e5 e6)::Blk d9 48 (bC c.1 b0 b1 b2 b3 b4 b5)::Blk d1 48 (bC f.1 U V W X Y Z)::Blk c2 48 (bC b.1 I J K L M N)::Fo) _:=H
  refine nx<|pr 1 E rfl fun a E=>bd hm fun R i8 hm=>cG E rfl rfl rfl rfl rfl Fl (lT H i8)<|?_
  rintro _ w ⟨n4,rfl,H⟩ a E
  obtain ⟨q125,g1,rfl⟩:=H.rowform (i:=0) rfl
  refine sv E rfl rfl rfl (cI E rfl (E.evs rfl) (v:=.agg #[.int .i64 1,.int .i64 3,.int .i64 0,.int .i64 0,.bool false,(.slice q125 R.length g1),.string (ByteArray.mk #[]),.int .i64 0,.int .i64 0,.slice none 0 0,.slice none 0 0,.slice none 0 0,.int .i64 0,.int .i64 0,.string (ByteArray.mk #[]),.bool false]) (by kernel_rfl)) fun a E=>have H:=H.thaw (i:=0) rfl;have H:=H.nilSl aF;have H:=H.nilSl aJ;have H:=H.nilSl kS;have H:=H.frs [9,9,9,9,9,5,9,9,9,9] rfl;bd hm fun j i9 hm=>cG E rfl rfl rfl rfl rfl O4 (jJ (x20:=(⟨1,3,0,0,false,R,(ByteArray.mk #[]),0,0,(⟨[],[]⟩:bB),[],(⟨0,0,(ByteArray.mk #[]),false⟩:aK)⟩:bA)) H (t4 mm6) (t5 mm6) (t6 mm6) (t7 mm6) (t8 mm6) (t1 (t8 mm6)) mm3 mm2 mm1 m0 (t2 (t8 (t8 (t8 (t8 (t8 (t8 (t8 (t8 (t8 (t8 (t8 (t8 (t8 D)))))))))))))) i9)<|?_
  rintro _ w ⟨g2,g3,g4,g5,g6,g7,g8,g9,i0,i1,i2,i3,rfl,H⟩ a E
  refine al E H rfl rfl rfl rfl gN fun l6 w a H E=>aZ (i:=0) E H (wn rfl) rfl rfl rfl rfl rfl rfl bU rfl (bF H m0 mm1 mm2 mm3 mm4 mm5) fun w H=>nx<|pr 1 E rfl fun a E=>lb E H 10 rfl rfl rfl rfl rfl rfl rfl U41 rfl fun a E=>pr 2 E rfl fun a E=>cs hm (fun t hm=>?_) fun t hm=>?_
  ·refine pk 1 E (kc 41 rfl t) rfl fun a E=>aQ E (ws' (d:=41) E rfl rfl rfl rfl t) rfl rfl (cD (i:=9) E H rfl rfl rfl rfl U41 rfl) fun a E=>pk 3 E (kc 41 rfl t) rfl fun a E=>cs hm (fun o hm=>?_) fun o hm=>?_
   ·refine pk 1 E (kc 46 rfl o) rfl fun a E=>aQ E (ws' (d:=46) E rfl rfl rfl rfl o) rfl rfl (cD (i:=9) E H rfl rfl rfl rfl U40 rfl) fun a E=>aQ E (ws' (d:=46) E rfl rfl rfl rfl o) rfl rfl (cR E H rfl rfl (t2 (t8 (t8 (t8 (t8 (t8 (t8 (t8 (t8 (t8 mm6)))))))))) U40) fun a E=>pk 3 E (kc 46 rfl o) rfl fun a E=>cs hm (fun u hm=>?_) fun u hm=>?_
    ·refine pk 1 E (kc 52 rfl u) rfl fun a E=>aQ E (ws' (d:=52) E rfl rfl rfl rfl u) rfl rfl (cD (i:=8) E H rfl rfl rfl rfl U4 rfl) fun a E=>pk 2 E (kc 52 rfl u) rfl fun a E=>cs hm (fun y hm=>?_) fun y hm=>?_
     ·refine pk 1 E (kc 56 rfl y) rfl fun a E=>aQ E (ws' (d:=56) E rfl rfl rfl rfl y) rfl rfl (cD (i:=7) E H rfl rfl rfl rfl U41 rfl) fun a E=>pk 3 E (kc 56 rfl y) rfl fun a E=>cs hm (fun z hm=>?_) fun z hm=>?_
      ·refine pk 1 E (kc 61 rfl z) rfl fun a E=>aQ E (ws' (d:=61) E rfl rfl rfl rfl z) rfl rfl (cD (i:=6) E H rfl rfl rfl rfl U41 rfl) fun a E=>pk 3 E (kc 61 rfl z) rfl fun a E=>cs hm (fun n hm=>?_) fun n hm=>?_
       ·refine pk 1 E (kc 66 rfl n) rfl fun a E=>have H:=H.frs [10,10,10,10,10,10,10,10,10,9,10] rfl;bd hm fun i4 j0 hm=>aU E (ws' (d:=66) E rfl rfl rfl rfl n) rfl rfl (cC E rfl rfl (Td _)) (zO H mm6 (t1 mm6) j0)<|?_
        rintro _ w ⟨i5,l7,rfl,H⟩ a E
        refine aQ E (ws' (d:=66) E rfl rfl rfl rfl n) rfl rfl (Gz E rfl rfl (v:=i5) (by kernel_rfl)) fun a E=>aQ E (ws' (d:=66) E rfl rfl rfl rfl n) rfl rfl (cR E H rfl rfl m0 U22) fun a E=>pk 3 E (kc 66 rfl n) rfl fun a E=>cs hm (fun A hm=>?_) fun A hm=>?_
        ·refine pk 1 E (kc 73 rfl A) rfl fun a E=>aQ E (ws' (d:=73) E rfl rfl rfl rfl A) rfl rfl (cD (i:=5) E H rfl rfl rfl rfl U2 rfl) fun a E=>pk 3 E (kc 73 rfl A) rfl fun a E=>cs hm (fun p hm=>?_) fun p hm=>?_
         ·refine pk 2 E (kc 78 rfl p) rfl fun a E=>aQ E (ws' (d:=78) E rfl rfl rfl rfl p) rfl rfl (cD (i:=5) E H rfl rfl rfl rfl U22 rfl) fun a E=>aQ E (ws' (d:=78) E rfl rfl rfl rfl p) rfl rfl (cR E H rfl rfl (t5 (t8 mm6)) U22) fun a E=>pk 3 E (kc 78 rfl p) rfl fun a E=>cs hm (fun B hm=>?_) fun B hm=>?_
          ·refine pk 1 E (kc 85 rfl B) rfl fun a E=>aQ E (ws' (d:=85) E rfl rfl rfl rfl B) rfl rfl (cD (i:=1) E H rfl rfl rfl rfl U41 rfl) fun a E=>pk 3 E (kc 85 rfl B) rfl fun a E=>cs hm (fun q hm=>?_) fun q hm=>?_
           ·refine pk 1 E (kc 90 rfl q) rfl fun a E=>bd hm fun l8 j1 hm=>aU E (ws' (d:=90) E rfl rfl rfl rfl q) rfl rfl (cC E rfl rfl (AJ _)) (L4 H (t4 mm6) j1)<|?_
            rintro _ w ⟨l9,rfl,H⟩ a E
            refine aQ E (ws' (d:=90) E rfl rfl rfl rfl q) rfl rfl (iZ (i:=0) E H rfl rfl rfl U32) fun a E=>pk 3 E (kc 90 rfl q) rfl fun a E=>cs hm (fun s hm=>?_) fun s hm=>?_
            ·refine pk 1 E (kc 96 rfl s) rfl fun a E=>have H:=H.frs [11,11,11,11,11,11,11,11,11,11,10,11] rfl;bd hm fun m1 j2 hm=>aU E (ws' (d:=96) E rfl rfl rfl rfl s) rfl rfl (cC E rfl rfl (AK _)) (N3 H (t5 mm6) j2)<|?_
             rintro _ w ⟨m2,rfl,H⟩ a E
             refine aQ E (ws' (d:=96) E rfl rfl rfl rfl s) rfl rfl (iZ (i:=0) E H rfl rfl rfl U62) fun a E=>pk 3 E (kc 96 rfl s) rfl fun a E=>cs hm (fun k hm=>?_) fun k hm=>?_
             ·refine aQ E (ws' (d:=102) E rfl rfl rfl rfl k) rfl rfl (cI E rfl (E.evs rfl) (v:=.agg #[.slice none 0 0,.slice none 0 0]) (by kernel_rfl)) fun a E=>aQ E (ws' (d:=102) E rfl rfl rfl rfl k) rfl rfl (cI E rfl (E.evs rfl) (v:=.agg Gn.toArray) (by kernel_rfl)) fun a E=>fY (e:=31) (d:=aS) (cs:=[.string (ByteArray.mk #[]),.int .i64 0,.int .i64 0]) (xs:=[(⟨(ByteArray.mk #[]),0,0⟩:aH)]) E H (ws' (d:=102) E rfl rfl rfl rfl k) rfl rfl rfl (E.evs rfl) (by kernel_rfl) rfl rfl (fun ok hr=>(Rows.single (d:=aS) (cs:=[.string (ByteArray.mk #[]),.int .i64 0,.int .i64 0]) (x:=(⟨(ByteArray.mk #[]),0,0⟩:aH)) rR)) fun m3 w a H E=>have H:=H.nilSl aF;have H:=H.nilSl aJ;have H:=H.thaw (i:=0) rfl;?_
              replace H:Sep w (Row 103 bG m2 m1::Blk i6 75 [g8,g9,i0,i1,i2,i3,.map (some S),.map (some T),.map (some C)]::Row 31 aS l9 l8::Blk l6 48 (bC j.1 g2 g3 g4 g5 g6 g7)::cB Tryz.prog 2 (kyI .i64) bI true S j.2.2.2.2.2.2.2.1::cB Tryz.prog 2 (kyI .i64) cQ true T j.2.2.2.2.2.2.2.2.1::cB Tryz.prog 2 (kyI .i64) bI true C j.2.2.2.2.2.2.2.2.2::Blk g0 48 (bC g.1 b6 b7 b8 b9 c0 c1)::Blk f3 48 (bC m.1 e7 e8 e9 f0 f1 f2)::Blk k0 48 (bC l.1 e1 e2 e3 e4 e5 e6)::Blk d9 48 (bC c.1 b0 b1 b2 b3 b4 b5)::Blk d1 48 (bC f.1 U V W X Y Z)::Blk c2 48 (bC b.1 I J K L M N)::Fo) (rSl aS m3 ([(⟨(ByteArray.mk #[]),0,0⟩:aH)]:List aH)::rSl aJ (.slice none 0 0) ([]:List aI)::rSl aF (.slice none 0 0) ([]:List aE)::rSl aF i5 i4.Nodes::rSl aJ l7 i4.Turns::rSl bE g2 j.1.Results::rSl aF g3 j.1.Store.Nodes::rSl aJ g4 j.1.Store.Turns::rSl aV g5 j.1.Events::rSl bL g6 j.1.Mounts::rSl (kI .i64) g7 j.1.Wounded::rSl aF g8 j.2.1::rSl aJ g9 j.2.2.1::rSl aS i0 j.2.2.2.1::rSl bG i1 j.2.2.2.2.1::rSl aX i2 j.2.2.2.2.2.1::rSl aO i3 j.2.2.2.2.2.2.1::rSl kS (.slice none 0 0) ([]:List ByteArray)::rSl aJ (.slice none 0 0) ([]:List aI)::rSl aF (.slice none 0 0) ([]:List aE)::rSl cE (.slice q125 R.length g1) R::rSl bE b6 g.1.Results::rSl aF b7 g.1.Store.Nodes::rSl aJ b8 g.1.Store.Turns::rSl aV b9 g.1.Events::rSl bL c0 g.1.Mounts::rSl (kI .i64) c1 g.1.Wounded::rSl aF f4 g.2.1::rSl aJ f5 g.2.2.1::rSl aS f6 g.2.2.2.1::rSl bG f7 g.2.2.2.2.1::rSl aX f8 g.2.2.2.2.2.1::rSl aO f9 g.2.2.2.2.2.2.1::rSl kS (.slice none 0 0) ([]:List ByteArray)::rSl aJ (.slice none 0 0) ([]:List aI)::rSl aF (.slice none 0 0) ([]:List aE)::rSl cE (.slice none 0 0) ([]:List cF)::rSl bE e7 m.1.Results::rSl aF e8 m.1.Store.Nodes::rSl aJ e9 m.1.Store.Turns::rSl aV f0 m.1.Events::rSl bL f1 m.1.Mounts::rSl (kI .i64) f2 m.1.Wounded::rSl aF l0 m.2.1::rSl aJ l1 m.2.2.1::rSl aS l2 m.2.2.2.1::rSl bG l3 m.2.2.2.2.1::rSl aX l4 m.2.2.2.2.2.1::rSl aO l5 m.2.2.2.2.2.2.1::rSl kS (.slice none 0 0) ([]:List ByteArray)::rSl aJ (.slice none 0 0) ([]:List aI)::rSl aF (.slice none 0 0) ([]:List aE)::rSl cE (.slice none 0 0) ([]:List cF)::rSl bE e1 l.1.Results::rSl aF e2 l.1.Store.Nodes::rSl aJ e3 l.1.Store.Turns::rSl aV e4 l.1.Events::rSl bL e5 l.1.Mounts::rSl (kI .i64) e6 l.1.Wounded::rSl aF m8 l.2.1::rSl aJ m9 l.2.2.1::rSl aS n0 l.2.2.2.1::rSl bG n1 l.2.2.2.2.1::rSl aX n2 l.2.2.2.2.2.1::rSl aO n3 l.2.2.2.2.2.2.1::rSl kS (.slice none 0 0) ([]:List ByteArray)::rSl aJ (.slice none 0 0) ([]:List aI)::rSl aF (.slice none 0 0) ([]:List aE)::rSl cE (.slice q75 Q.length e0) Q::rSl bE b0 c.1.Results::rSl aF b1 c.1.Store.Nodes::rSl aJ b2 c.1.Store.Turns::rSl aV b3 c.1.Events::rSl bL b4 c.1.Mounts::rSl (kI .i64) b5 c.1.Wounded::rSl aF d3 c.2.1::rSl aJ d4 c.2.2.1::rSl aS d5 c.2.2.2.1::rSl bG d6 c.2.2.2.2.1::rSl aX d7 c.2.2.2.2.2.1::rSl aO d8 c.2.2.2.2.2.2.1::rSl kS (.slice none 0 0) ([]:List ByteArray)::rSl aJ (.slice none 0 0) ([]:List aI)::rSl aF (.slice none 0 0) ([]:List aE)::rSl cE (.slice q55 P.length d2) P::rSl bE U f.1.Results::rSl aF V f.1.Store.Nodes::rSl aJ W f.1.Store.Turns::rSl aV X f.1.Events::rSl bL Y f.1.Mounts::rSl (kI .i64) Z f.1.Wounded::rSl aF j4 f.2.1::rSl aJ j5 f.2.2.1::rSl aS j6 f.2.2.2.1::rSl bG j7 f.2.2.2.2.1::rSl aX j8 f.2.2.2.2.2.1::rSl aO j9 f.2.2.2.2.2.2.1::rSl kS (.slice none 0 0) ([]:List ByteArray)::rSl aJ (.slice none 0 0) ([]:List aI)::rSl aF (.slice none 0 0) ([]:List aE)::rSl cE (.slice q35 O.length d0) O::rSl bE I b.1.Results::rSl aF J b.1.Store.Nodes::rSl aJ K b.1.Store.Turns::rSl aV L b.1.Events::rSl bL M b.1.Mounts::rSl (kI .i64) N b.1.Wounded::rSl aF c4 b.2.1::rSl aJ c5 b.2.2.1::rSl aS c6 b.2.2.2.1::rSl bG c7 b.2.2.2.2.1::rSl aX c8 b.2.2.2.2.2.1::rSl aO c9 b.2.2.2.2.2.2.1::rSl aO (.slice none 0 0) ([]:List aD)::rSl aX (.slice none 0 0) ([]:List aK)::rSl bG (.slice none 0 0) ([]:List aN)::rSl kS (.slice none 0 0) ([]:List ByteArray)::rSl aJ (.slice none 0 0) ([]:List aI)::rSl aF (.slice none 0 0) ([]:List aE)::rSl cE (.slice q15 G.length c3) G::rSl aF m5 F.1::rSl aJ m6 F.2.1::rSl aS m7 F.2.2::rs):=H
              refine bd hm fun n5 j3 hm=>aU E (ws' (d:=102) E rfl rfl rfl rfl k) rfl rfl (cC E rfl rfl (cf7 _)) (V4 (x1:=(⟨[],[]⟩:bB)) H mm2 mm1 m0 j3)<|?_
              rintro _ w (⟨rfl,rfl,H⟩ | ⟨n6,rfl,n7,n8,n9,o0,o1,o2,o3,rfl,H⟩) a E
              ·replace hm:=As hm
               refine aQ E (ws' (d:=102) E rfl rfl rfl rfl k) rfl rfl (sY E rfl rfl rfl (v:=.bool true) (by kernel_rfl)) fun a E=>pk 2 E (kc 102 rfl k) rfl fun a E=>nt<|wp_ret<|aY E rfl rfl<|have H:=H.drs [0,0,0,0,0,0,0,0,0,0,0,0,0];?_
               cases hm
               exact ⟨rfl,H.reads (Y3 (Y8 (Y8 (Y8 (Y8 (Y8 (Y8 (Y8 (Y8 (Y8 (Y8 (Y8 (Y8 (Y8 (Y8 (Y8 Y0))))))))))))))))⟩
              ·replace hm:=Au hm
               refine aQ E (ws' (d:=102) E rfl rfl rfl rfl k) rfl rfl (sY E rfl rfl rfl (v:=.bool false) (by kernel_rfl)) fun a E=>pk 2 E (kc 102 rfl k) rfl fun a E=>nt<|wp_ret<|aY E rfl rfl<|have H:=H.drs [0,0,0,0,0,0,0,0,0,0,0,0,0,0,0,0,0];?_
               cases hm
               exact ⟨rfl,H.reads (Y6 (Y8 (Y8 (Y8 (Y8 (Y8 (Y8 (Y8 (Y8 (Y8 (Y8 (Y8 (Y8 (Y8 (Y8 (Y8 Y0))))))))))))))))⟩
             ·refine pk 7 E (kc 102 rfl k) rfl fun a E=>nt<|wp_ret<|aY E rfl rfl<|have H:=H.drs [0,0,0,0,0,0,0,0,0,0,0,0,0];?_
              cases hm
              exact ⟨rfl,H.reads (Y8 (Y8 (Y8 (Y8 (Y8 (Y8 (Y8 (Y8 (Y8 (Y8 (Y8 (Y8 (Y8 (Y8 (Y8 Y0)))))))))))))))⟩
            ·refine pk 13 E (kc 96 rfl s) rfl fun a E=>nt<|wp_ret<|aY E rfl rfl<|have H:=H.drs [0,0,0,0,0,0,0,0,0,0,0,0];?_
             cases hm
             exact ⟨rfl,H.reads (Y8 (Y8 (Y8 (Y8 (Y8 (Y8 (Y8 (Y8 (Y8 (Y8 (Y8 (Y8 (Y8 (Y8 (Y8 Y0)))))))))))))))⟩
           ·refine pk 19 E (kc 90 rfl q) rfl fun a E=>nt<|wp_ret<|aY E rfl rfl<|have H:=H.drs [0,0,0,0,0,0,0,0,0,0,0];?_
            cases hm
            exact ⟨rfl,H.reads (Y8 (Y8 (Y8 (Y8 (Y8 (Y8 (Y8 (Y8 (Y8 (Y8 (Y8 (Y8 (Y8 (Y8 (Y8 Y0)))))))))))))))⟩
          ·refine pk 24 E (kc 85 rfl B) rfl fun a E=>nt<|wp_ret<|aY E rfl rfl<|have H:=H.drs [0,0,0,0,0,0,0,0,0,0,0];?_
           cases hm
           exact ⟨rfl,H.reads (Y8 (Y8 (Y8 (Y8 (Y8 (Y8 (Y8 (Y8 (Y8 (Y8 (Y8 (Y8 (Y8 (Y8 (Y8 Y0)))))))))))))))⟩
         ·refine pk 31 E (kc 78 rfl p) rfl fun a E=>nt<|wp_ret<|aY E rfl rfl<|have H:=H.drs [0,0,0,0,0,0,0,0,0,0,0];?_
          cases hm
          exact ⟨rfl,H.reads (Y8 (Y8 (Y8 (Y8 (Y8 (Y8 (Y8 (Y8 (Y8 (Y8 (Y8 (Y8 (Y8 (Y8 (Y8 Y0)))))))))))))))⟩
        ·refine pk 36 E (kc 73 rfl A) rfl fun a E=>nt<|wp_ret<|aY E rfl rfl<|have H:=H.drs [0,0,0,0,0,0,0,0,0,0,0];?_
         cases hm
         exact ⟨rfl,H.reads (Y8 (Y8 (Y8 (Y8 (Y8 (Y8 (Y8 (Y8 (Y8 (Y8 (Y8 (Y8 (Y8 (Y8 (Y8 Y0)))))))))))))))⟩
       ·refine pk 43 E (kc 66 rfl n) rfl fun a E=>nt<|wp_ret<|aY E rfl rfl<|have H:=H.drs [0,0,0,0,0,0,0,0,0,0,0];?_
        cases hm
        exact ⟨rfl,H.reads (Y6 (Y8 (Y8 (Y8 (Y8 (Y8 (Y8 (Y8 (Y8 (Y8 (Y8 (Y8 (Y8 (Y8 (Y8 Y0)))))))))))))))⟩
      ·refine pk 48 E (kc 61 rfl z) rfl fun a E=>nt<|wp_ret<|aY E rfl rfl<|have H:=H.drs [0,0,0,0,0,0,0,0,0,0,0];?_
       cases hm
       exact ⟨rfl,H.reads (Y6 (Y8 (Y8 (Y8 (Y8 (Y8 (Y8 (Y8 (Y8 (Y8 (Y8 (Y8 (Y8 (Y8 (Y8 Y0)))))))))))))))⟩
     ·refine pk 53 E (kc 56 rfl y) rfl fun a E=>nt<|wp_ret<|aY E rfl rfl<|have H:=H.drs [0,0,0,0,0,0,0,0,0,0,0];?_
      cases hm
      exact ⟨rfl,H.reads (Y6 (Y8 (Y8 (Y8 (Y8 (Y8 (Y8 (Y8 (Y8 (Y8 (Y8 (Y8 (Y8 (Y8 (Y8 Y0)))))))))))))))⟩
    ·refine pk 57 E (kc 52 rfl u) rfl fun a E=>nt<|wp_ret<|aY E rfl rfl<|have H:=H.drs [0,0,0,0,0,0,0,0,0,0,0];?_
     cases hm
     exact ⟨rfl,H.reads (Y6 (Y8 (Y8 (Y8 (Y8 (Y8 (Y8 (Y8 (Y8 (Y8 (Y8 (Y8 (Y8 (Y8 (Y8 Y0)))))))))))))))⟩
   ·refine pk 63 E (kc 46 rfl o) rfl fun a E=>nt<|wp_ret<|aY E rfl rfl<|have H:=H.drs [0,0,0,0,0,0,0,0,0,0,0];?_
    cases hm
    exact ⟨rfl,H.reads (Y6 (Y8 (Y8 (Y8 (Y8 (Y8 (Y8 (Y8 (Y8 (Y8 (Y8 (Y8 (Y8 (Y8 (Y8 Y0)))))))))))))))⟩
  ·refine pk 68 E (kc 41 rfl t) rfl fun a E=>nt<|wp_ret<|aY E rfl rfl<|have H:=H.drs [0,0,0,0,0,0,0,0,0,0,0];?_
   cases hm
   exact ⟨rfl,H.reads (Y6 (Y8 (Y8 (Y8 (Y8 (Y8 (Y8 (Y8 (Y8 (Y8 (Y8 (Y8 (Y8 (Y8 (Y8 Y0)))))))))))))))⟩

def fB(rec_1:Int→(List aE)→(List aI)→(List aH)→(List aN)→(List aK)→(List aD)→(List ((Int)×aG))→(List ((Int)×bO))→(List ((Int)×aG))→Option Bool)(c:Int)(b:aG×(List aE)×(List aI)×(List aH)×(List aN)×(List aK)×(List aD)×(List ((Int)×aG))×(List ((Int)×bO))×(List ((Int)×aG)))(d:Bool):Option Bool:=
  if d=true then (some (false)) else (rec_1 (IntKind.i64.wrap (c+1)) b.2.1 b.2.2.1 b.2.2.2.1 b.2.2.2.2.1 b.2.2.2.2.2.1 b.2.2.2.2.2.2.1 b.2.2.2.2.2.2.2.1 b.2.2.2.2.2.2.2.2.1 b.2.2.2.2.2.2.2.2.2)
def fC(rec_1:Int→(List aE)→(List aI)→(List aH)→(List aN)→(List aK)→(List aD)→(List ((Int)×aG))→(List ((Int)×bO))→(List ((Int)×aG))→Option Bool)(c:Int)(b:aG×(List aE)×(List aI)×(List aH)×(List aN)×(List aK)×(List aD)×(List ((Int)×aG))×(List ((Int)×bO))×(List ((Int)×aG)))(f:List Bool)(e:Int):Option Bool:=
  if (b.1.Err != 0)=true then (fB rec_1 c b true) else ((idx f 0).bind fun d=>if (b.1.Yes != d)=true then (fB rec_1 c b true) else (fB rec_1 c b (b.1.Epoch != e)))
def fD(rec_1:Int→(List aE)→(List aI)→(List aH)→(List aN)→(List aK)→(List aD)→(List ((Int)×aG))→(List ((Int)×bO))→(List ((Int)×aG))→Option Bool)(b:Int)(d:List Bool)(f:(List aE))(g:(List aI))(i:(List aH))(j:(List aN))(k:(List aK))(l:(List aD))(m:(List ((Int)×aG)))(n:(List ((Int)×bO)))(o:(List ((Int)×aG)))(x1:Int)(p:List Int)(q:Int):Option Bool:=
  (idx d b).bind fun s=>(eO f g i j k l m n o (⟨4,0,x1,0,s,[],(ByteArray.mk #[]),q,0,(⟨[],[]⟩:bB),[],(⟨0,0,(ByteArray.mk #[]),false⟩:aK)⟩:bA)).bind fun c=>if (decide ((p.length:Int) > 0))=true then ((idx p 0).bind fun e=>fC rec_1 b c d (IntKind.i64.wrap e)) else (fC rec_1 b c d 0)
def cN(d:List Bool)(x1:Int)(c:List Int)(o:Bool):Nat→Int→(List aE)→(List aI)→(List aH)→(List aN)→(List aK)→(List aD)→(List ((Int)×aG))→(List ((Int)×bO))→(List ((Int)×aG))→Option Bool
  | 0,_,_,_,_,_,_,_,_,_,_=>none
  | s+1,b,e,f,g,i,j,k,l,m,n=>
    if (decide (b < (d.length:Int)))=true then (if (decide (b < (c.length:Int)))=true then ((idx c b).bind fun p=>fD (cN d x1 c o s) b d e f g i j k l m n x1 c (IntKind.i64.wrap p)) else (fD (cN d x1 c o s) b d e f g i j k l m n x1 c 0)) else (if o=true then ((kJ e f).bind fun q=>some ((q.Nodes.length:Int) == 1)) else (some (false)))
def fE(c:List Bool)(x1:Int)(f:List Int)(d:Bool)(b:(List aE)×(List aI)×(List aH))(e:Bool):Option Bool:=
  if e=true then (some (d)) else (cN c x1 f d (((c.length:Int) - 0:Int).toNat+1) 0 b.1 b.2.1 b.2.2 ([]:List aN) ([]:List aK) ([]:List aD) [] [] [])
def iC(x1:Int)(c:List Bool)(d:List Int):Option Bool:=
  vI.bind fun e=>uX.bind fun f=>W5 f (some (false)) fun b=>if (decide ((c.length:Int) > 60))=true then (fE c x1 d e b true) else (if (decide (x1 < 0))=true then (fE c x1 d e b true) else (fE c x1 d e b (decide (x1 > 281474976710656))))
theorem w9{x1:Int}{Y Z:Value}{y:List Bool}{F:List Int}(H:Sep w (Fo) rs)(b8:rSl kB Y y ∈ rs)(b9:rSl (kI .u8) Z F ∈ rs)(e4:xU Tryz.prog ∈ rs){r:Bool}(hm:iC x1 y F=some r) :
    Calls Tryz.prog 4 [.int .i64 x1,Y,Z].toArray w (Ret fun v w'=>.bool r=v∧Sep w' (Fo) (rs)):=by
 unfold iC at hm
 refine ent Tryz.func4 rfl Tryz.ntmps4 rfl rfl fun a E=>sq<|pr 1 E rfl fun a E=>nx<|bd hm fun z f0 hm=>xk E rfl rfl rfl rfl rfl cf6 (Q8 H e4 f0) fun w H a E=>pr 1 E rfl fun a E=>nx<|bd hm fun j1 f1 hm=>?_
 refine cG E rfl rfl rfl rfl rfl Qc (r9 H f1)<|?_
 rintro _ w (⟨rfl,rfl,H⟩ | ⟨c0,rfl,m,e5,e6,e7,n,o,p,rfl,H⟩) a E
 ·replace hm:=As hm
  refine pr 1 E rfl fun a E=>nt<|wp_seq<|sq<|pr 1 E rfl fun a E=>sv E rfl rfl rfl (sY E rfl rfl rfl (v:=.bool true) (by kernel_rfl)) fun a E=>pr 13 E rfl fun a E=>nt<|wp_cond_true (E.eval rfl)<|?_
  refine sq<|pr 1 E rfl fun a E=>sv E rfl rfl rfl (sY E rfl rfl rfl (v:=.bool false) (by kernel_rfl)) fun a E=>pr 4 E rfl fun a E=>nt<|wp_ret<|aP<|aY E rfl rfl<|?_
  cases hm
  exact ⟨rfl,H.reads Y0⟩
 ·replace hm:=Au hm
  refine pr 1 E rfl fun a E=>nt<|wp_seq<|aT (fun a w=>∃ c7 u,Env 91 a [(0,.int .i64 x1),(1,Y),(2,Z),(7,.bool z),(8,pt m 0),(29,.bool c7)]∧Sep w (Blk m 75 [e5,e6,e7,.slice none 0 0,.slice none 0 0,.slice none 0 0,.map (some n),.map (some o),.map (some p)]::cB Tryz.prog 2 (kyI .i64) bI true n []::cB Tryz.prog 2 (kyI .i64) cQ true o []::cB Tryz.prog 2 (kyI .i64) bI true p []::Fo) u∧(∀ r,r ∈ rs→r ∈ u)∧rSl aF e5 c0.1 ∈ u∧rSl aJ e6 c0.2.1 ∈ u∧rSl aS e7 c0.2.2 ∈ u∧fE y x1 F z c0 c7=some r) ?_ ?_
  ·refine wp_region_lit<|pr 1 E rfl fun a E=>sv E rfl rfl rfl (sY E rfl rfl rfl (v:=.bool false) (by kernel_rfl)) fun a E=>pr 2 E rfl fun a E=>aQ E (ws E rfl rfl rfl rfl) rfl rfl (cR E H rfl rfl (t3 b8) U54) fun a E=>pr 3 E rfl fun a E=>cs hm (fun A hm=>?_) fun A hm=>?_
   ·exact pk 7 E (kc 22 rfl A) rfl fun a E=>nt<|⟨_,_,E.to rfl,H,(Y3 Y0),m0,mm1,mm2,hm⟩
   ·refine pk 4 E (kc 22 rfl A) rfl fun a E=>cs hm (fun B hm=>?_) fun B hm=>?_
    ·exact pk 3 E (kc 26 rfl B) rfl fun a E=>nt<|⟨_,_,E.to rfl,H,(Y3 Y0),m0,mm1,mm2,hm⟩
    ·exact pk 3 E (kc 26 rfl B) rfl fun a E=>nt<|⟨_,_,E.to rfl,H,(Y3 Y0),m0,mm1,mm2,hm⟩
  ·clear E H hm
   rintro a w ⟨c7,u,E,H,c8,f2,f3,f4,hm⟩
   unfold fE at hm
   refine wif E hm rfl (fun hm=>?_) fun hm=>?_
   ·refine sq<|pr 1 E rfl fun a E=>sv E rfl rfl rfl (sY E rfl rfl rfl (v:=.bool true) (by kernel_rfl)) fun a E=>pr 4 E rfl fun a E=>nt<|wp_ret<|aP<|aY E rfl rfl<|have H:=H.drs [0,0,0,0];?_
    cases hm
    exact ⟨rfl,H.reads c8⟩
   ·refine wp_skip<|aC<|wp_seq<|sq<|pr 1 E rfl fun a E=>nt<|wp_block<|bX (fun C a w=>∃ G I J K L M s N O Q R S T U V W e,Env 91 a [(0,.int .i64 x1),(1,Y),(2,Z),(7,.bool z),(8,pt m 0),(9,.int .i64 s)]∧Sep w (Blk m 75 [G,I,J,K,L,M,.map (some n),.map (some o),.map (some p)]::cB Tryz.prog 2 (kyI .i64) bI true n U::cB Tryz.prog 2 (kyI .i64) cQ true o V::cB Tryz.prog 2 (kyI .i64) bI true p W::Fo) e∧(∀ r,r ∈ rs→r ∈ e)∧rSl aF G N ∈ e∧rSl aJ I O ∈ e∧rSl aS J Q ∈ e∧rSl bG K R ∈ e∧rSl aX L S ∈ e∧rSl aO M T ∈ e∧cN y x1 F z C s N O Q R S T U V W=some r) (((y.length:Int) - 0:Int).toNat+1) ?_ ?_
    ·exact have H:=H.nilSl bG;have H:=H.nilSl aX;have H:=H.nilSl aO;X17 ⟨E.to rfl,H,(Y3 c8),(t3 f2),(t3 f3),(t3 f4),mm2,mm1,m0,hm⟩
    ·clear E H hm
     rintro C a w ⟨G,I,J,K,L,M,s,N,O,Q,R,S,T,U,V,W,e,E,H,q,b0,b1,c9,d0,d1,d2,hm⟩
     cases C with
     | zero=>exact (bT hm rfl).elim
     | succ C=>
      unfold cN at hm
      refine wp_seq<|sq<|pr 2 E rfl fun a E=>sv E rfl rfl rfl (cR E H rfl rfl (q _ b8) U54) fun a E=>pr 1 E rfl fun a E=>nt<|wif E hm rfl (fun hm=>?_) fun hm=>?_
      ·refine wp_skip<|aC<|wp_seq<|wp_block<|sq<|pr 1 E rfl fun a E=>nt<|aT (fun a w=>∃ X f,Env 91 a [(0,.int .i64 x1),(1,Y),(2,Z),(7,.bool z),(8,pt m 0),(9,.int .i64 s),(10,.int .i64 X)]∧Sep w (Blk m 75 [G,I,J,K,L,M,.map (some n),.map (some o),.map (some p)]::cB Tryz.prog 2 (kyI .i64) bI true n U::cB Tryz.prog 2 (kyI .i64) cQ true o V::cB Tryz.prog 2 (kyI .i64) bI true p W::Fo) f∧(∀ r,r ∈ rs→r ∈ f)∧rSl aF G N ∈ f∧rSl aJ I O ∈ f∧rSl aS J Q ∈ f∧rSl bG K R ∈ f∧rSl aX L S ∈ f∧rSl aO M T ∈ f∧fD (cN y x1 F z C) s y N O Q R S T U V W x1 F X=some r) ?_ ?_
       ·refine sq<|pr 2 E rfl fun a E=>sv E rfl rfl rfl (cR E H rfl rfl (q _ b9) U55) fun a E=>pr 1 E rfl fun a E=>nt<|wif E hm rfl (fun hm=>?_) fun hm=>?_
        ·exact wp_region_lit<|pr 2 E rfl fun a E=>bd hm fun i5 d6 hm=>dE E H (wn rfl) rfl rfl rfl rfl rfl (q _ b9) U55 sz5 d6 fun q116 a H E=>sv E rfl rfl rfl (nT E H rfl rfl m0 U5 rfl) fun a E=>pr 2 E rfl fun a E=>nt<|⟨_,_,E.to rfl,H,(Y1 q),(t1 b0),(t1 b1),(t1 c9),(t1 d0),(t1 d1),(t1 d2),hm⟩
        ·exact wp_skip<|aC<|⟨_,_,E.to rfl,H,q,b0,b1,c9,d0,d1,d2,hm⟩
       ·clear E H hm
        rintro a w ⟨X,f,E,H,x,f5,f6,f7,f8,f9,g0,hm⟩
        unfold fD at hm
        refine sq<|pr 4 E rfl fun a E=>bd hm fun e8 g1 hm=>dE E H (wn rfl) rfl rfl rfl rfl rfl (x _ b8) U54 sz4 g1 fun q62 a H E=>sv E rfl rfl rfl (nT E H rfl rfl m0 U4 rfl) fun a E=>pr 1 E rfl fun a E=>sv E rfl rfl rfl (cI E rfl (E.evs rfl) (v:=.agg #[.int .i64 4,.int .i64 0,.int .i64 x1,.int .i64 0,.bool e8,.slice none 0 0,.string (ByteArray.mk #[]),.int .i64 X,.int .i64 0,.slice none 0 0,.slice none 0 0,.slice none 0 0,.int .i64 0,.int .i64 0,.string (ByteArray.mk #[]),.bool false]) (by kernel_rfl)) fun a E=>have H:=H.nilSl cE;have H:=H.nilSl aF;?_
        refine have H:=H.nilSl aJ;have H:=H.nilSl kS;bd hm fun b g2 hm=>cG E rfl rfl rfl rfl rfl O4 (jJ (x20:=(⟨4,0,x1,0,e8,[],(ByteArray.mk #[]),X,0,(⟨[],[]⟩:bB),[],(⟨0,0,(ByteArray.mk #[]),false⟩:aK)⟩:bA)) H (t5 f5) (t5 f6) (t5 f7) (t5 f8) (t5 f9) (t5 g0) mm3 mm2 mm1 m0 (t5 (x _ e4)) g2)<|?_
        rintro _ w ⟨g9,i0,i1,i2,i3,i4,c1,c2,c3,c4,c5,c6,rfl,H⟩ a E
        refine al E H rfl rfl rfl rfl gN fun e9 w a H E=>aZ (i:=0) E H (wn rfl) rfl rfl rfl rfl rfl rfl bU rfl (bF H m0 mm1 mm2 mm3 mm4 mm5) fun w H=>nx<|pr 1 E rfl fun a E=>nt<|aT (fun a w=>∃ d3 g,Env 91 a [(0,.int .i64 x1),(1,Y),(2,Z),(7,.bool z),(8,pt m 0),(9,.int .i64 s),(11,pt e9 0),(12,.int .i64 d3)]∧Sep w (Blk m 75 [c1,c2,c3,c4,c5,c6,.map (some n),.map (some o),.map (some p)]::Blk e9 48 (bC b.1 g9 i0 i1 i2 i3 i4)::cB Tryz.prog 2 (kyI .i64) bI true n b.2.2.2.2.2.2.2.1::cB Tryz.prog 2 (kyI .i64) cQ true o b.2.2.2.2.2.2.2.2.1::cB Tryz.prog 2 (kyI .i64) bI true p b.2.2.2.2.2.2.2.2.2::Fo) g∧(∀ r,r ∈ rs→r ∈ g)∧rSl aF c1 b.2.1 ∈ g∧rSl aJ c2 b.2.2.1 ∈ g∧rSl aS c3 b.2.2.2.1 ∈ g∧rSl bG c4 b.2.2.2.2.1 ∈ g∧rSl aX c5 b.2.2.2.2.2.1 ∈ g∧rSl aO c6 b.2.2.2.2.2.2.1 ∈ g∧fC (cN y x1 F z C) s b y d3=some r) ?_ ?_
        ·refine sq<|pr 1 E rfl fun a E=>sv E rfl rfl rfl (cR E H rfl rfl (t1 (t8 (t8 (x _ b9)))) U55) fun a E=>pr 1 E rfl fun a E=>nt<|wif E hm rfl (fun hm=>?_) fun hm=>?_
         ·exact wp_region_lit<|pr 1 E rfl fun a E=>bd hm fun i6 d7 hm=>dE E H (wn rfl) rfl rfl rfl rfl rfl (t1 (t8 (t8 (x _ b9)))) U55 sz5 d7 fun q113 a H E=>sv E rfl rfl rfl (nT E H rfl rfl m0 U5 rfl) fun a E=>pr 2 E rfl fun a E=>nt<|have H:=H.frs [4,4,4,3,4] rfl;⟨_,_,E.to rfl,H,(Y2 (Y8 (Y8 x))),(t1 mm6),(t2 mm6),(t3 mm6),(t4 mm6),(t5 mm6),(t6 mm6),hm⟩
         ·exact wp_skip<|aC<|have H:=H.frs [4,4,4,3,4] rfl;⟨_,_,E.to rfl,H,(Y1 (Y8 (Y8 x))),mm6,(t1 mm6),(t2 mm6),(t3 mm6),(t4 mm6),(t5 mm6),hm⟩
        ·clear E H hm
         rintro a w ⟨d3,g,E,H,D,b2,b3,b4,b5,b6,b7,hm⟩
         unfold fC at hm
         refine aT (fun a w=>∃ d4 j,Env 91 a [(0,.int .i64 x1),(1,Y),(2,Z),(7,.bool z),(8,pt m 0),(9,.int .i64 s),(82,.bool d4)]∧Sep w (Blk m 75 [c1,c2,c3,c4,c5,c6,.map (some n),.map (some o),.map (some p)]::cB Tryz.prog 2 (kyI .i64) bI true n b.2.2.2.2.2.2.2.1::cB Tryz.prog 2 (kyI .i64) cQ true o b.2.2.2.2.2.2.2.2.1::cB Tryz.prog 2 (kyI .i64) bI true p b.2.2.2.2.2.2.2.2.2::Fo) j∧(∀ r,r ∈ rs→r ∈ j)∧rSl aF c1 b.2.1 ∈ j∧rSl aJ c2 b.2.2.1 ∈ j∧rSl aS c3 b.2.2.2.1 ∈ j∧rSl bG c4 b.2.2.2.2.1 ∈ j∧rSl aX c5 b.2.2.2.2.2.1 ∈ j∧rSl aO c6 b.2.2.2.2.2.2.1 ∈ j∧fB (cN y x1 F z C) s b d4=some r) ?_ ?_
         ·obtain ⟨i7,H⟩:=H.raw (D _ b8)
          refine dw [(0,0),(1,0),(2,0),(3,0),(4,0),(5,0),(6,0),(7,0),(8,0),(9,0),(10,0),(11,0),(12,0),(13,0),(14,0),(15,0),(16,0)] [1] [0] H (by kernel_rfl) (fun _ _ _ h=>False.elim h.2) fun w W0 hI H=>fn 1 E rfl fun a E=>fb E rfl (wn rfl) rfl rfl rfl rfl m0 rfl U41 rfl fun a E=>fn 2 E rfl fun a E=>cs hm (fun c hm=>?_) fun c hm=>?_
          ·refine fk 13 E (kc 69 rfl c) rfl fun a E=>bR<|?_
           clear hI
           exact aC<|have H:=H.drop 1;⟨_,_,E.to rfl,H,(Y1 D),(t1 b2),(t1 b3),(t1 b4),(t1 b5),(t1 b6),(t1 b7),hm⟩
          ·refine fk 1 E (kc 69 rfl c) rfl fun a E=>fb E rfl (ws' (d:=69) E rfl rfl rfl rfl c) rfl rfl rfl rfl m0 rfl U4 rfl fun a E=>fk 1 E (kc 69 rfl c) rfl fun a E=>bd hm fun g3 d8 hm=>?_
           obtain ⟨q106,i8,d9,e0⟩:=oO (P:=Tryz.prog) (k:=.i64) hI (oN (.head _)) U54 sz4 d8
           refine bW E rfl (ws' (d:=69) E rfl rfl rfl rfl c) rfl rfl (fun w hW=>rI E rfl rfl rfl (d9 w)) fun a E=>?_
           refine fa E rfl (ws' (d:=69) E rfl rfl rfl rfl c) rfl rfl rfl rfl e0 U4 rfl fun a E=>bW E rfl (ws' (d:=69) E rfl rfl rfl rfl c) rfl rfl (fun w hW=>(sY E rfl rfl rfl (v:=.bool (b.1.Yes != g3)) (by kernel_rfl))) fun a E=>?_
           refine fk 2 E (kc 69 rfl c) rfl fun a E=>cs hm (fun t hm=>?_) fun t hm=>?_
           ·refine fk 5 E (kc 77 rfl t) rfl fun a E=>bR<|?_
            clear hI
            exact aC<|have H:=H.drop 1;⟨_,_,E.to rfl,H,(Y1 D),(t1 b2),(t1 b3),(t1 b4),(t1 b5),(t1 b6),(t1 b7),hm⟩
           ·refine fk 1 E (kc 77 rfl t) rfl fun a E=>fb E rfl (ws' (d:=77) E rfl rfl rfl rfl t) rfl rfl rfl rfl m0 rfl U2 rfl fun a E=>fk 3 E (kc 77 rfl t) rfl fun a E=>bR<|?_
            clear hI
            exact aC<|have H:=H.drop 1;⟨_,_,E.to rfl,H,(Y1 D),(t1 b2),(t1 b3),(t1 b4),(t1 b5),(t1 b6),(t1 b7),hm⟩
         ·clear E H hm
          rintro a w ⟨d4,j,E,H,d5,g4,g5,g6,g7,e1,e2,hm⟩
          unfold fB at hm
          refine wif E hm rfl (fun hm=>?_) fun hm=>?_
          ·refine sq<|pr 1 E rfl fun a E=>nt<|wp_ret<|bV<|aP<|aP<|bV<|aP<|?_
           refine aY E rfl rfl<|have H:=H.drs [0,0,0,0];?_
           cases hm
           exact ⟨rfl,H.reads d5⟩
          ·exact wp_skip<|bY<|aC<|wp_region_lit<|pr 3 E rfl fun a E=>nt<|⟨C,Nat.lt_succ_self C,X17 ⟨E.to rfl,H,d5,g4,g5,g6,g7,e1,e2,hm⟩⟩
      ·refine wp_exit<|bH<|bH<|dG<|aC<|sq<|pr 2 E rfl fun a E=>cs hm (fun l hm=>?_) fun l hm=>?_
       ·refine pk 1 E (kc 84 rfl l) rfl fun a E=>bd hm fun i9 e3 hm=>aU E (ws' (d:=84) E rfl rfl rfl rfl l) rfl rfl (cC E rfl rfl (Td _)) (zO H b0 b1 e3)<|?_
        rintro _ w ⟨g8,j0,rfl,H⟩ a E
        refine aQ E (ws' (d:=84) E rfl rfl rfl rfl l) rfl rfl (Gz E rfl rfl (v:=g8) (by kernel_rfl)) fun a E=>aQ E (ws' (d:=84) E rfl rfl rfl rfl l) rfl rfl (cR E H rfl rfl m0 U22) fun a E=>pk 3 E (kc 84 rfl l) rfl fun a E=>nt<|wp_ret<|aY E rfl rfl<|have H:=H.drs [0,0,0,0];?_
        cases hm
        exact ⟨rfl,H.reads (Y2 q)⟩
       ·refine pk 7 E (kc 84 rfl l) rfl fun a E=>nt<|wp_ret<|aY E rfl rfl<|have H:=H.drs [0,0,0,0];?_
        cases hm
        exact ⟨rfl,H.reads q⟩

end Go.Cb
