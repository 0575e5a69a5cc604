/- Functions of the program, walked: each comes to its plain function. -/
import Derived.Test.YteakhlfapjaodaaGreatDoorKsr1
import Derived.Test.YteakhlfapjaodaaGreatDoorExsr
import Derived.Test.YteakhlfapjaodaaGreatDoorN4sr
import Derived.Test.YteakhlfapjaodaaGreatDoorSssr
set_option linter.unusedVariables false
set_option linter.unusedSimpArgs false
set_option maxRecDepth 20000
set_option maxHeartbeats 1000000
namespace Go.Cb
open Go.Proofs Go.RowKit
variable {w:World} {Fo:List Ob} {rs:List Rp}

def pR(rec_1:Int→cR→Option cR)(b:Int)(c:cR):Option cR:=
  rec_1 (IntKind.i64.wrap (b+1)) c
def gY(e:List aD)(d:Int×ByteArray×ByteArray×ByteArray×Int×Int×Bool):Nat→Int→cR→Option cR
  | 0,_,_=>none
  | i+1,b,c=>
    if (decide (b < (e.length:Int)))=true then ((idx e b).bind fun f=>(vH f d.2.2.1).bind fun j=>if j=true then ((vI f.Path).bind fun g=>(ck (c.length+([g]:List ByteArray).length ≤ LIM)).bind fun k=>pR (gY e d i) b (c ++ ([g]:List ByteArray))) else (pR (gY e d i) b c)) else (some (c))
def sO(b:List aD)(c:List ByteArray)(d:aQ):Option cR:=
  (wR d).bind fun e=>gY b e (((b.length:Int) - 0:Int).toNat+1) 0 c
theorem Ee{k:Nat}{c G o p q s t:Value}{f:List aD}{I:List ByteArray}{z:aQ}(H:Sep w (Blk k 185 [c,o,p,q,s,t,G]::Row 107 aB c f::Row 9 kS G I::Fo) rs){r:cR}(hm:sO f I z=some r) :
    Cf 133 [pt k 0,.agg (bE z).toArray] w fun v w'=>∃ O,.tuple #[]=v∧Sep w' (Blk k 185 [c,o,p,q,s,t,O]::Row 107 aB c f::Row 9 kS O r::Fo) (rs):=by
 unfold sO at hm
 refine ent Tryz.func133 rfl Tryz.ntmps133 rfl rfl fun a E=>sq<|bx E H rfl fun R w a H E=>nx<|ln 0 (bE z) E H U97 rfl hU fun a E=>bd hm fun b J hm=>xc2 E rfl (cf_ 213) (Ch H J)<|?_
 rintro _ w ⟨u,rfl,H⟩ a E
 refine pr 1 E rfl fun a E=>xp 4 E rfl fun a E=>lb2 E H 2 U22 rfl fun a E=>sv2 E rfl (iJ (i:=3) E H rfl rfl rfl U22) fun a E=>pn 1 E rfl fun a E=>wp_block<|bD (fun l a w=>∃ A j B,Jn 37 a w [(0,pt k 0),(4,.func (.func 283) #[] #[pt u 0]),(13,c),(14,.int .i64 (f.length:Int)),(15,.int .i64 j)] (Blk k 185 [c,o,p,q,s,t,A]::Blk u 97 [.int .i64 b.1,.string b.2.1,.string b.2.2.1,.string b.2.2.2.1,.int .i64 b.2.2.2.2.1,.int .i64 b.2.2.2.2.2.1,.bool b.2.2.2.2.2.2]::Row 107 aB c f::Row 9 kS A B::Fo) rs (gY f b l j B=some r)) (((f.length:Int) - 0:Int).toNat+1) ?_ ?_
 ·exact have H:=H.drop 1;have H:=H.frs [3,3,2,3] rfl;X4 ⟨E.to rfl,H,Y0,hm⟩
 ·clear E H hm
  rintro l a w ⟨A,j,B,P,E,H,m,hm⟩
  cases l with
  | zero=>exact (aZ hm rfl).elim
  | succ l=>
   unfold gY at hm
   refine sq<|pn 1 E rfl fun a E=>wp_seq<|wif E hm rfl (fun hm=>?_) fun hm=>?_
   ·refine wp_skip<|aA<|aK (fun a w=>∃ C D,Jn 37 a w [(0,pt k 0),(4,.func (.func 283) #[] #[pt u 0]),(13,c),(14,.int .i64 (f.length:Int)),(15,.int .i64 j)] (Blk k 185 [c,o,p,q,s,t,C]::Blk u 97 [.int .i64 b.1,.string b.2.1,.string b.2.2.1,.string b.2.2.2.1,.int .i64 b.2.2.2.2.1,.int .i64 b.2.2.2.2.2.1,.bool b.2.2.2.2.2.2]::Row 107 aB c f::Row 9 kS C D::Fo) rs (pR (gY f b l) j D=some r)) ?_ ?_
    ·refine wp_block<|sq<|bd hm fun g n hm=>?_
     obtain ⟨S,T,F⟩:=H.rowformNE (i:=2) rfl n
     refine sv2 E rfl (cX (d:=aB) E F rfl rfl rfl rfl U22 cJ n) fun a E=>sv2 E rfl (lP (i:=2) E H bX F rfl rfl rfl n (us:=[.string g.Path,.string g.Data,.int .i64 g.Version,.int .i64 g.Turn,.int .i64 g.Owner]) rfl pF rfl cJ) fun a E=>al2 E H rfl Dn fun U w a H E=>ss 0 E H rfl cJ rfl fun w H=>xp 1 E rfl fun a E=>ln 0 (dS g) E H pF rfl cJ fun a E=>have H:=H.frs [4,4,3,3,4] rfl;bd hm fun V K hm=>bM E (wn rfl) rfl rfl (bO E rfl rfl rfl ((cf_ 283) _)) (S2 H K)<|?_
     rintro _ w ⟨rfl,H⟩ a E
     refine nt<|wif E hm rfl (fun hm=>?_) fun hm=>?_
     ·refine dz [0,0,0,0,0,0,0,0,1,1,1,2,2,2,2] [1,2] H fun w W0 hI H=>fn 5 E rfl fun a E=>fb2 E mm1 U33 rfl fun a E=>fn 1 E rfl fun a E=>fb2 E m0 U9 rfl fun a E=>bI rfl<|bd hm fun y L hm=>xk2 E rfl (cf_ 207) (S3 H L) fun w H a E=>nt<|⟨sx H [1,2] rfl,bI rfl<|iV (e:=9) (d:=kS) (cs:=[.string y]) (xs:=[y]) E H (wn rfl) rfl rfl rfl (E.evs rfl) (by kernel_rfl) rfl (fun ok hr=>(Rows.single (d:=kS) (cs:=[.string y]) (x:=y) rfl)) fun W w a H E=>nt<|⟨sx H [1,2] rfl,bI rfl<|bk hm fun M hm=>cO (i:=4) E H (wn rfl) rfl rfl rfl rfl rfl rfl (fA m0) U33 Z5 rfl M rfl fun X w a H E=>nt<|⟨sx H [1,2] rfl,bL rfl<|pn 1 E rfl fun a E=>bL rfl<|pn 1 E rfl fun a E=>bL rfl<|pn 1 E rfl fun a E=>bL rfl<|?_⟩⟩⟩
      obtain ⟨q45,Y,rfl⟩:=H.rowform (i:=4) rfl
      refine ss 2 E H rfl DQ rfl fun w H=>nt<|aY<|?_
      clear hI
      exact bH<|aA<|have H:=H.drop 1;have H:=H.frs [3,3,2,3] rfl;X3 ⟨E.to rfl,H,(Y1 m),hm⟩
     ·exact wp_skip<|bH<|aA<|have H:=H.drop 1;have H:=H.frs [3,3,2,3] rfl;X3 ⟨E.to rfl,H,m,hm⟩
    ·clear E H hm
     rintro a w ⟨C,D,Q,E,H,N,hm⟩
     unfold pR at hm
     exact wp_region_lit<|pn 2 E rfl fun a E=>⟨l,Nat.lt_succ_self l,X4 ⟨E.to rfl,H,N,hm⟩⟩
   ·refine wp_exit<|aL<|aL<|cH<|vC E rfl<|have H:=H.drop 1;?_
    cases hm
    exact ⟨_,rfl,H.reads m⟩

def vQ(x1:Int):Option Int:=
  some (x1)
theorem Ef{x1:Int}(H:Sep w (Fo) rs){r:Int}(hm:vQ x1=some r) :
    Cf 205 [.int .i64 x1] w fun v w'=>.int .i64 r=v∧Sep w' (Fo) (rs):=by
 unfold vQ at hm
 refine ent Tryz.func205 rfl Tryz.ntmps205 rfl rfl fun a E=>sp 1 E rfl fun a E=>nx<|pn 2 E rfl fun a E=>wp_ret<|o1 E rfl<|?_
 cases hm
 exact ⟨rfl,H.reads Y0⟩

def oP(b:aJ)(c:cP):Option K9:=
  some (b.Next,c)
def lE(b:Int×Bool)(c:cP):Option K9:=
  (idx c b.1).bind fun f=>(vQ f.Next).bind fun d=>(idx c b.1).bind fun e=>(idx (c.set b.1.toNat ({ e with Next:=d }:aJ)) b.1).bind fun g=>if (g.Next == 0)=true then ((ck (0 ≤ b.1∧b.1 < (c.set b.1.toNat ({ e with Next:=d }:aJ)).length∧IntKind.i64.wrap (b.1+1)=b.1+1)).bind fun i=>oP f ((c.set b.1.toNat ({ e with Next:=d }:aJ)).eraseIdx b.1.toNat)) else (oP f (c.set b.1.toNat ({ e with Next:=d }:aJ)))
def rR(c:List aJ)(d:ByteArray):Option K9:=
  (cC c d).bind fun b=>if (!b.2)=true then ((ck (0 ≤ b.1∧b.1 ≤ c.length∧c.length ≤ 1000000)).bind fun e=>lE b (c.take b.1.toNat ++ (⟨d,0⟩:aJ)::c.drop b.1.toNat)) else (lE b c)
theorem Ci{q:Nat}{M j l m n o p:Value}{N:List aJ}{b:ByteArray}(H:Sep w (Blk q 185 [j,M,l,m,n,o,p]::Row 89 aC M N::Fo) rs){r:Int×cP}(hm:rR N b=some r) :
    Cf 204 [pt q 0,.string b,.func (.func 205) #[] #[]] w fun v w'=>∃ O,.int .i64 r.1=v∧Sep w' (Blk q 185 [j,O,l,m,n,o,p]::Row 89 aC O r.2::Fo) (rs):=by
 unfold rR at hm
 refine ent Tryz.func204 rfl Tryz.ntmps204 rfl rfl fun a E=>sp 1 E rfl fun a E=>xp 4 E rfl fun a E=>lb2 E H 0 U23 rfl fun a E=>pr 1 E rfl fun a E=>have H:=H.frs [0,1] rfl;bd hm fun D G hm=>xk2 E rfl (cf_ 274) (fP H G) fun w H a E=>pn 5 E rfl fun a E=>aK (fun a w=>∃ s t,Jn 80 a w [(0,pt q 0),(2,.func (.func 205) #[] #[]),(7,.int .i64 D.1)] (Blk q 185 [j,s,l,m,n,o,p]::Row 89 aC s t::Fo) rs (lE D t=some r)) ?_ ?_
 ·refine sq<|pn 2 E rfl fun a E=>wif E hm rfl (fun hm=>?_) fun hm=>?_
  ·refine wp_region_lit<|pr 5 E rfl fun a E=>lb2 E H 1 U23 rfl fun a E=>pr 2 E rfl fun a E=>sv2 E rfl (bP E rfl (E.evs rfl) (v:=.agg #[.string b,.int .i64 0]) (by kernel_rfl)) fun a E=>gU (e:=89) (d:=aC) (cs:=[.string b,.int .i64 0]) (xs:=[(⟨b,0⟩:aJ)]) E H (wn rfl) rfl rfl rfl (E.evs rfl) (by kernel_rfl) rfl rfl (fun ok hr=>(Rows.single (d:=aC) (cs:=[.string b,.int .i64 0]) (x:=(⟨b,0⟩:aJ)) oD)) fun T w a H E=>bk hm fun I hm=>xc2 E rfl (cf_ 276) (Tn.insert_a (ix:=1) (iu:=0) H rfl rfl (by decide) I) fun U w H a E=>pr 3 E rfl fun a E=>?_
   obtain ⟨q55,V,rfl⟩:=H.rowform (i:=1) rfl
   exact ss 2 E H rfl Z6 rfl fun w H=>nt<|have H:=H.drop 0;have H:=H.frs [0,1] rfl;X3 ⟨E.to rfl,H,Y0,hm⟩
  ·exact wp_skip<|aA<|have H:=H.frs [0,1] rfl;X3 ⟨E.to rfl,H,Y0,hm⟩
 ·clear E H hm
  rintro a w ⟨s,t,R,E,H,u,hm⟩
  unfold lE at hm
  refine sp 4 E rfl fun a E=>lb2 E H 0 U23 rfl fun a E=>pr 1 E rfl fun a E=>bd hm fun F c hm=>?_
  obtain ⟨W,X,y⟩:=H.rowformNE (i:=1) rfl c
  refine sv2 E rfl (cX (d:=aC) E y rfl rfl rfl rfl U23 iS c) fun a E=>pr 1 E rfl fun a E=>sv2 E rfl (mW (d:=aC) (i:=1) (k:=1) E H dT y rfl rfl rfl c rfl U2 rfl) fun a E=>pn 1 E rfl fun a E=>aK (fun a w=>∃ z A,Jn 80 a w [(9,.int .i64 F.Next)] (Blk q 185 [j,z,l,m,n,o,p]::Row 89 aC z A::Fo) rs (oP F A=some r)) ?_ ?_
  ·refine wp_seq<|dz [0,0,0,0,0,0,0,0,1,2,2,2] [0] H fun w W0 hI H=>fn 4 E rfl fun a E=>fb2 E m0 U23 rfl fun a E=>fn 3 E rfl fun a E=>bI rfl<|bd hm fun P J hm=>bM E (wn rfl) rfl rfl (bO E rfl rfl rfl ((cf_ 205) _)) (Ef H J)<|?_
   rintro _ w ⟨rfl,H⟩ a E
   refine nt<|⟨sx H [0] rfl,bL rfl<|bd hm fun Q f hm=>?_⟩
   obtain ⟨Y,Z,B⟩:=H.rowformNE (i:=1) rfl f
   refine sv2 E rfl (cX (d:=aC) E B rfl rfl rfl rfl U23 iS f) fun a E=>nt<|bL rfl<|pn 1 E rfl fun a E=>bL rfl<|H8 (d:=aC) (i:=1) (k:=1) (z':=({ Q with Next:=P }:aJ)) E H dT (wn rfl) rfl B rfl rfl rfl rfl rfl rfl f rfl rfl sz2 fun w H=>nt<|aY<|?_
   clear hI
   refine aA<|sp 4 E rfl fun a E=>lb2 E H 0 U23 rfl fun a E=>pr 1 E rfl fun a E=>bd hm fun b0 g hm=>?_
   obtain ⟨b1,b2,C⟩:=H.rowformNE (i:=1) rfl g
   refine sv2 E rfl (cX (d:=aC) E C rfl rfl rfl rfl U23 iS g) fun a E=>pr 1 E rfl fun a E=>sv2 E rfl (mW (d:=aC) (i:=1) (k:=1) E H dT C rfl rfl rfl g rfl U2 rfl) fun a E=>pn 1 E rfl fun a E=>wif E hm rfl (fun hm=>?_) fun hm=>?_
   ·refine wp_region_lit<|pr 5 E rfl fun a E=>lb2 E H 0 U23 rfl fun a E=>pr 3 E rfl fun a E=>bk hm fun K hm=>xc2 E rfl (cf_ 277) (Tn.delete_c (ix:=1) H rfl K) fun b3 w H a E=>pr 3 E rfl fun a E=>?_
    obtain ⟨q49,b4,rfl⟩:=H.rowform (i:=1) rfl
    exact ss 0 E H rfl Z6 rfl fun w H=>nt<|X3 ⟨E.to rfl,H,u,hm⟩
   ·exact wp_skip<|aA<|X3 ⟨E.to rfl,H,u,hm⟩
  ·clear E H hm
   rintro a w ⟨z,A,S,E,H,L,hm⟩
   unfold oP at hm
   refine sq<|pn 2 E rfl fun a E=>wp_ret<|o1 E rfl<|?_
   cases hm
   exact ⟨_,rfl,H.reads L⟩

def vR(x1:Int):Option Int:=
  some (IntKind.i64.wrap (x1+1))
theorem Eg{x1:Int}(H:Sep w (Fo) rs){r:Int}(hm:vR x1=some r) :
    Cf 210 [.int .i64 x1] w fun v w'=>.int .i64 r=v∧Sep w' (Fo) (rs):=by
 unfold vR at hm
 refine ent Tryz.func210 rfl Tryz.ntmps210 rfl rfl fun a E=>sp 1 E rfl fun a E=>nx<|pn 3 E rfl fun a E=>wp_ret<|o1 E rfl<|?_
 cases hm
 exact ⟨rfl,H.reads Y0⟩

def oQ(b:aJ)(c:cP):Option K9:=
  some (b.Next,c)
def lF(b:Int×Bool)(c:cP):Option K9:=
  (idx c b.1).bind fun f=>(vR f.Next).bind fun d=>(idx c b.1).bind fun e=>(idx (c.set b.1.toNat ({ e with Next:=d }:aJ)) b.1).bind fun g=>if (g.Next == 0)=true then ((ck (0 ≤ b.1∧b.1 < (c.set b.1.toNat ({ e with Next:=d }:aJ)).length∧IntKind.i64.wrap (b.1+1)=b.1+1)).bind fun i=>oQ f ((c.set b.1.toNat ({ e with Next:=d }:aJ)).eraseIdx b.1.toNat)) else (oQ f (c.set b.1.toNat ({ e with Next:=d }:aJ)))
def rS(c:List aJ)(d:ByteArray):Option K9:=
  (cC c d).bind fun b=>if (!b.2)=true then ((ck (0 ≤ b.1∧b.1 ≤ c.length∧c.length ≤ 1000000)).bind fun e=>lF b (c.take b.1.toNat ++ (⟨d,0⟩:aJ)::c.drop b.1.toNat)) else (lF b c)
theorem Cj{q:Nat}{M j l m n o p:Value}{N:List aJ}{b:ByteArray}(H:Sep w (Blk q 185 [j,M,l,m,n,o,p]::Row 89 aC M N::Fo) rs){r:Int×cP}(hm:rS N b=some r) :
    Cf 204 [pt q 0,.string b,.func (.func 210) #[] #[]] w fun v w'=>∃ O,.int .i64 r.1=v∧Sep w' (Blk q 185 [j,O,l,m,n,o,p]::Row 89 aC O r.2::Fo) (rs):=by
 unfold rS at hm
 refine ent Tryz.func204 rfl Tryz.ntmps204 rfl rfl fun a E=>sp 1 E rfl fun a E=>xp 4 E rfl fun a E=>lb2 E H 0 U23 rfl fun a E=>pr 1 E rfl fun a E=>have H:=H.frs [0,1] rfl;bd hm fun D G hm=>xk2 E rfl (cf_ 274) (fP H G) fun w H a E=>pn 5 E rfl fun a E=>aK (fun a w=>∃ s t,Jn 80 a w [(0,pt q 0),(2,.func (.func 210) #[] #[]),(7,.int .i64 D.1)] (Blk q 185 [j,s,l,m,n,o,p]::Row 89 aC s t::Fo) rs (lF D t=some r)) ?_ ?_
 ·refine sq<|pn 2 E rfl fun a E=>wif E hm rfl (fun hm=>?_) fun hm=>?_
  ·refine wp_region_lit<|pr 5 E rfl fun a E=>lb2 E H 1 U23 rfl fun a E=>pr 2 E rfl fun a E=>sv2 E rfl (bP E rfl (E.evs rfl) (v:=.agg #[.string b,.int .i64 0]) (by kernel_rfl)) fun a E=>gU (e:=89) (d:=aC) (cs:=[.string b,.int .i64 0]) (xs:=[(⟨b,0⟩:aJ)]) E H (wn rfl) rfl rfl rfl (E.evs rfl) (by kernel_rfl) rfl rfl (fun ok hr=>(Rows.single (d:=aC) (cs:=[.string b,.int .i64 0]) (x:=(⟨b,0⟩:aJ)) oD)) fun T w a H E=>bk hm fun I hm=>xc2 E rfl (cf_ 276) (Tn.insert_a (ix:=1) (iu:=0) H rfl rfl (by decide) I) fun U w H a E=>pr 3 E rfl fun a E=>?_
   obtain ⟨q55,V,rfl⟩:=H.rowform (i:=1) rfl
   exact ss 2 E H rfl Z6 rfl fun w H=>nt<|have H:=H.drop 0;have H:=H.frs [0,1] rfl;X3 ⟨E.to rfl,H,Y0,hm⟩
  ·exact wp_skip<|aA<|have H:=H.frs [0,1] rfl;X3 ⟨E.to rfl,H,Y0,hm⟩
 ·clear E H hm
  rintro a w ⟨s,t,R,E,H,u,hm⟩
  unfold lF at hm
  refine sp 4 E rfl fun a E=>lb2 E H 0 U23 rfl fun a E=>pr 1 E rfl fun a E=>bd hm fun F c hm=>?_
  obtain ⟨W,X,y⟩:=H.rowformNE (i:=1) rfl c
  refine sv2 E rfl (cX (d:=aC) E y rfl rfl rfl rfl U23 iS c) fun a E=>pr 1 E rfl fun a E=>sv2 E rfl (mW (d:=aC) (i:=1) (k:=1) E H dT y rfl rfl rfl c rfl U2 rfl) fun a E=>pn 1 E rfl fun a E=>aK (fun a w=>∃ z A,Jn 80 a w [(9,.int .i64 F.Next)] (Blk q 185 [j,z,l,m,n,o,p]::Row 89 aC z A::Fo) rs (oQ F A=some r)) ?_ ?_
  ·refine wp_seq<|dz [0,0,0,0,0,0,0,0,1,2,2,2] [0] H fun w W0 hI H=>fn 4 E rfl fun a E=>fb2 E m0 U23 rfl fun a E=>fn 3 E rfl fun a E=>bI rfl<|bd hm fun P J hm=>bM E (wn rfl) rfl rfl (bO E rfl rfl rfl ((cf_ 210) _)) (Eg H J)<|?_
   rintro _ w ⟨rfl,H⟩ a E
   refine nt<|⟨sx H [0] rfl,bL rfl<|bd hm fun Q f hm=>?_⟩
   obtain ⟨Y,Z,B⟩:=H.rowformNE (i:=1) rfl f
   refine sv2 E rfl (cX (d:=aC) E B rfl rfl rfl rfl U23 iS f) fun a E=>nt<|bL rfl<|pn 1 E rfl fun a E=>bL rfl<|H8 (d:=aC) (i:=1) (k:=1) (z':=({ Q with Next:=P }:aJ)) E H dT (wn rfl) rfl B rfl rfl rfl rfl rfl rfl f rfl rfl sz2 fun w H=>nt<|aY<|?_
   clear hI
   refine aA<|sp 4 E rfl fun a E=>lb2 E H 0 U23 rfl fun a E=>pr 1 E rfl fun a E=>bd hm fun b0 g hm=>?_
   obtain ⟨b1,b2,C⟩:=H.rowformNE (i:=1) rfl g
   refine sv2 E rfl (cX (d:=aC) E C rfl rfl rfl rfl U23 iS g) fun a E=>pr 1 E rfl fun a E=>sv2 E rfl (mW (d:=aC) (i:=1) (k:=1) E H dT C rfl rfl rfl g rfl U2 rfl) fun a E=>pn 1 E rfl fun a E=>wif E hm rfl (fun hm=>?_) fun hm=>?_
   ·refine wp_region_lit<|pr 5 E rfl fun a E=>lb2 E H 0 U23 rfl fun a E=>pr 3 E rfl fun a E=>bk hm fun K hm=>xc2 E rfl (cf_ 277) (Tn.delete_c (ix:=1) H rfl K) fun b3 w H a E=>pr 3 E rfl fun a E=>?_
    obtain ⟨q49,b4,rfl⟩:=H.rowform (i:=1) rfl
    exact ss 0 E H rfl Z6 rfl fun w H=>nt<|X3 ⟨E.to rfl,H,u,hm⟩
   ·exact wp_skip<|aA<|X3 ⟨E.to rfl,H,u,hm⟩
  ·clear E H hm
   rintro a w ⟨z,A,S,E,H,L,hm⟩
   unfold oQ at hm
   refine sq<|pn 2 E rfl fun a E=>wp_ret<|o1 E rfl<|?_
   cases hm
   exact ⟨_,rfl,H.reads L⟩

def tC(d:ByteArray)(c:ByteArray)(e:Bool):Option yV:=
  if e=true then (some ((ByteArray.mk #[]),false)) else ((eS d (ByteArray.mk #[47])).bind fun b=>(ck (b.size+(ByteArray.mk #[47]).size ≤ 4611686018427387904)).bind fun f=>(ck ((b ++ (ByteArray.mk #[47])).size+c.size ≤ 4611686018427387904)).bind fun g=>some ((b ++ (ByteArray.mk #[47])) ++ c,true))
def yB(b:ByteArray)(c:ByteArray):Option yV:=
  (wB b).bind fun d=>if (!d.2)=true then (tC b c true) else ((vE c).bind fun e=>if (!e)=true then (tC b c true) else (tC b c ((d.1.length:Int) == 6)))
theorem Ew{d e:ByteArray}(H:Sep w (Fo) rs){r:ByteArray×Bool}(hm:yB d e=some r) :
    Cf 208 [.string d,.string e] w fun v w'=>.tuple #[.string r.1,.bool r.2]=v∧Sep w' (Fo) (rs):=by
 unfold yB at hm
 refine ent Tryz.func208 rfl Tryz.ntmps208 rfl rfl fun a E=>sp 2 E rfl fun a E=>xp 1 E rfl fun a E=>bd hm fun q n hm=>xc2 E rfl (cf_ 144) (Ca H n)<|?_
 rintro _ w ⟨s,rfl,H⟩ a E
 refine pn 5 E rfl fun a E=>wp_seq<|aK (fun a w=>∃ g,Jn 30 a w [(0,.string d),(1,.string e),(24,.bool g)] (Fo) rs (tC d e g=some r)) ?_ ?_
 ·refine wp_region_lit<|pr 3 E rfl fun a E=>cs hm (fun b hm=>?_) fun b hm=>?_
  ·exact pk 9 E (kc 15 rfl b) rfl fun a E=>nt<|have H:=H.drop 0;⟨_,_,E.to rfl,H,Y0,hm⟩
  ·refine pk 1 E (kc 15 rfl b) rfl fun a E=>bd hm fun o j hm=>gc 15 E b rfl (cf_ 228) (R4 H j)<|?_
   rintro _ w ⟨rfl,H⟩ a E
   refine pk 3 E (kc 15 rfl b) rfl fun a E=>cs hm (fun c hm=>?_) fun c hm=>?_
   ·exact pk 4 E (kc 20 rfl c) rfl fun a E=>nt<|have H:=H.drop 0;⟨_,_,E.to rfl,H,Y0,hm⟩
   ·exact pk 1 E (kc 20 rfl c) rfl fun a E=>gv 20 E c rfl (iJ (i:=0) E H rfl rfl rfl U33) fun a E=>pk 2 E (kc 20 rfl c) rfl fun a E=>nt<|have H:=H.drop 0;⟨_,_,E.to rfl,H,Y0,hm⟩
 ·clear E H hm
  rintro a w ⟨g,p,E,H,f,hm⟩
  unfold tC at hm
  refine wif E hm rfl (fun hm=>?_) fun hm=>?_
  ·refine sq<|pn 2 E rfl fun a E=>wp_ret<|aG<|fW E rfl rfl rfl<|?_
   cases hm
   exact ⟨rfl,H.reads f⟩
  ·refine wp_skip<|aA<|sp 1 E rfl fun a E=>bd hm fun t k hm=>xk2 E rfl (cf_ 136) (C8 H k) fun w H a E=>bk hm fun l hm=>sv2 E rfl (Dg E rfl rfl rfl l) fun a E=>pr 1 E rfl fun a E=>bk hm fun m hm=>sv2 E rfl (Dg E rfl rfl rfl m) fun a E=>pn 2 E rfl fun a E=>wp_ret<|fW E rfl rfl rfl<|?_
   cases hm
   exact ⟨rfl,H.reads f⟩

def rT(b:Int)(c:ByteArray)(e:Bool):Option yV:=
  if e=true then (some ((ByteArray.mk #[]),false)) else ((ck (-9223372036854775808 ≤ IntKind.i64.wrap (10000+b)∧IntKind.i64.wrap (10000+b) ≤ 9223372036854775807)).bind fun g=>(ck (0 ≤ (1:Int)∧(1:Int) ≤ (ByteArray.mk (Lib.itoa (IntKind.i64.wrap (10000+b))).toArray).size)).bind fun i=>(ck (c.size+((ByteArray.mk (Lib.itoa (IntKind.i64.wrap (10000+b))).toArray).extract (1:Int).toNat (ByteArray.mk (Lib.itoa (IntKind.i64.wrap (10000+b))).toArray).size).size ≤ 4611686018427387904)).bind fun f=>(vE (c ++ ((ByteArray.mk (Lib.itoa (IntKind.i64.wrap (10000+b))).toArray).extract (1:Int).toNat (ByteArray.mk (Lib.itoa (IntKind.i64.wrap (10000+b))).toArray).size))).bind fun d=>if (!d)=true then (some ((ByteArray.mk #[]),false)) else (some (c ++ ((ByteArray.mk (Lib.itoa (IntKind.i64.wrap (10000+b))).toArray).extract (1:Int).toNat (ByteArray.mk (Lib.itoa (IntKind.i64.wrap (10000+b))).toArray).size),true)))
def uU(c:ByteArray)(b:Int):Option yV:=
  if (decide (b < 0))=true then (rT b c true) else (rT b c (decide (b > 9999)))
theorem Ik{e:ByteArray}{d:Int}(H:Sep w (Fo) rs)(k:y7 Tryz.prog ∈ rs){r:ByteArray×Bool}(hm:uU e d=some r) :
    Cf 206 [.string e,.int .i64 d] w fun v w'=>.tuple #[.string r.1,.bool r.2]=v∧Sep w' (Fo) (rs):=by
 unfold uU at hm
 refine ent Tryz.func206 rfl Tryz.ntmps206 rfl rfl fun a E=>sq<|pn 2 E rfl fun a E=>wp_seq<|aK (fun a w=>∃ f,Jn 23 a w [(0,.string e),(1,.int .i64 d),(12,.bool f)] (Fo) rs (rT d e f=some r)) ?_ ?_
 ·refine wp_region_lit<|pr 3 E rfl fun a E=>cs hm (fun b hm=>?_) fun b hm=>?_
  ·exact pk 3 E (kc 9 rfl b) rfl fun a E=>nt<|⟨_,_,E.to rfl,H,Y0,hm⟩
  ·exact pk 3 E (kc 9 rfl b) rfl fun a E=>nt<|⟨_,_,E.to rfl,H,Y0,hm⟩
 ·clear E H hm
  rintro a w ⟨f,m,E,H,c,hm⟩
  unfold rT at hm
  refine wif E hm rfl (fun hm=>?_) fun hm=>?_
  ·refine sq<|pn 2 E rfl fun a E=>wp_ret<|aG<|fW E rfl rfl rfl<|?_
   cases hm
   exact ⟨rfl,H.reads c⟩
  ·refine wp_skip<|aA<|sp 3 E rfl fun a E=>bk hm fun l hm=>xc2 E rfl (cf_ 278) (EU H (c _ k) (IntKind.i64.wrap (10000+d)) l)<|?_
   rintro _ w ⟨rfl,H⟩ a E
   refine bk hm fun g hm=>sv2 E rfl (T9 E rfl rfl rfl U9 g) fun a E=>bk hm fun i hm=>sv2 E rfl (Dg E rfl rfl rfl i) fun a E=>pn 1 E rfl fun a E=>wp_seq<|sp 1 E rfl fun a E=>bd hm fun n j hm=>xk2 E rfl (cf_ 228) (R4 H j) fun w H a E=>pn 1 E rfl fun a E=>wif E hm rfl (fun hm=>?_) fun hm=>?_
   ·refine sq<|pn 2 E rfl fun a E=>wp_ret<|aG<|fW E rfl rfl rfl<|?_
    cases hm
    exact ⟨rfl,H.reads c⟩
   ·refine wp_skip<|aA<|sq<|pn 3 E rfl fun a E=>wp_ret<|fW E rfl rfl rfl<|?_
    cases hm
    exact ⟨rfl,H.reads c⟩

def rU(b:Int×Bool)(c:List aD)(d:ByteArray)(e:aQ)(i:Int)(j:ByteArray)(k:Int)(f:List ByteArray)(g:cP):Option Ws:=
  (ck (0 ≤ b.1∧b.1 ≤ c.length∧c.length ≤ 1000000)).bind fun l=>some (c.take b.1.toNat ++ (⟨d,e.Data,0,0,e.Owner⟩:aD)::c.drop b.1.toNat,g,i,d,j,k,f)
def oR(f:List aD)(b:aQ)(i:Int)(j:ByteArray)(k:Int)(g:List ByteArray)(l:ByteArray×Bool)(c:ByteArray)(d:cP):Option Ws:=
  (jZ f c).bind fun e=>if e.2=true then ((fG 61).bind fun m=>some (f,d,m,(ByteArray.mk #[]),(ByteArray.mk #[]),0,[])) else (if b.Turns=true then ((rS d l.1).bind fun n=>rU e f c b i j k g n.2) else (rU e f c b i j k g d))
def uV(g:List aD)(i:List aJ)(j:Int)(k:ByteArray)(l:Int)(e:List ByteArray)(b:aQ):Option Ws:=
  (qD b.Path).bind fun c=>if b.Turns=true then ((rR i c.1).bind fun d=>(vI b.Path).bind fun m=>(uU m d.1).bind fun f=>(yB c.1 f.1).bind fun n=>if (!f.2)=true then ((fG 66).bind fun o=>some (g,d.2,o,(ByteArray.mk #[]),(ByteArray.mk #[]),0,[])) else (oR g b j k l e c n.1 d.2)) else (oR g b j k l e c b.Path i)
theorem Il{j:Nat}{m Q f s:Value}{n:List aD}{R:List aJ}{o p:Int}{q:ByteArray}{g:List ByteArray}{b:aQ}(H:Sep w (Blk j 185 [m,Q,.int .i64 o,s,.string q,.int .i64 p,f]::Row 107 aB m n::Row 89 aC Q R::Row 9 kS f g::Fo) rs)(C:y7 Tryz.prog ∈ rs){r:cD×cP×Int×ByteArray×ByteArray×Int×cR}(hm:uV n R o q p g b=some r) :
    Cf 126 [pt j 0,.agg (bE b).toArray] w fun v w'=>∃ S T U,.tuple #[]=v∧Sep w' (Blk j 185 [S,T,.int .i64 r.2.2.1,.string r.2.2.2.1,.string r.2.2.2.2.1,.int .i64 r.2.2.2.2.2.1,U]::Row 107 aB S r.1::Row 89 aC T r.2.1::Row 9 kS U r.2.2.2.2.2.2::Fo) (rs):=by
 unfold uV at hm
 refine ent Tryz.func126 rfl Tryz.ntmps126 rfl rfl fun a E=>sq<|bx E H rfl fun l w a H E=>xp 1 E rfl fun a E=>lb2 E H 0 U9 rfl fun a E=>pr 1 E rfl fun a E=>xp 1 E rfl fun a E=>lb2 E H 0 U9 rfl fun a E=>bd hm fun A D hm=>xk2 E rfl (cf_ 180) (x7 H D) fun w H a E=>pn 5 E rfl fun a E=>aK (fun a w=>∃ t c u,Jn 80 a w [(0,pt j 0),(3,pt l 0),(4,.string c),(5,.string A.1)] (Blk j 185 [m,t,.int .i64 o,s,.string q,.int .i64 p,f]::Blk l 97 (bE b)::Row 107 aB m n::Row 89 aC t u::Row 9 kS f g::Fo) rs (oR n b o q p g A c u=some r)) ?_ ?_
 ·refine sp 1 E rfl fun a E=>lb2 E H 0 U4 rfl fun a E=>nt<|wif E hm rfl (fun hm=>?_) fun hm=>?_
  ·refine sp 2 E rfl fun a E=>have H:=H.frs [4,3,2,4,4] rfl;bd hm fun X F hm=>xc2 E rfl (cf_ 204) (Ci H F)<|?_
   rintro _ w ⟨Y,rfl,H⟩ a E
   refine pr 1 E rfl fun a E=>xp 1 E rfl fun a E=>lb2 E H 2 U9 rfl fun a E=>bd hm fun Z G hm=>xk2 E rfl (cf_ 207) (S3 H G) fun w H a E=>pr 1 E rfl fun a E=>bd hm fun b0 I hm=>xk2 E rfl (cf_ 206) (Ik H C I) fun w H a E=>pr 5 E rfl fun a E=>xp 2 E rfl fun a E=>bd hm fun b1 J hm=>xk2 E rfl (cf_ 208) (Ew H J) fun w H a E=>pr 4 E rfl fun a E=>nx<|pn 2 E rfl fun a E=>wif E hm rfl (fun hm=>?_) fun hm=>?_
   ·refine sp 1 E rfl fun a E=>bd hm fun b2 K hm=>xk2 E rfl (cf_ 203) (oL H K) fun w H a E=>nt<|wp_ret<|aG<|Rf E rfl<|have H:=H.nilRow 9 kS;have H:=H.drs [3,4];have H:=H.frs [0,2,3,3] rfl;?_
    cases hm
    exact X3 ⟨rfl,H.reads Y0⟩
   ·exact wp_skip<|aA<|have H:=H.frs [4,2,4,4,4] rfl;X4 ⟨E.to rfl,H,Y0,hm⟩
  ·exact wp_skip<|aA<|have H:=H.frs [4,4,4,3,4] rfl;X4 ⟨E.to rfl,H,Y0,hm⟩
 ·clear E H hm
  rintro a w ⟨t,c,u,V,E,H,k,hm⟩
  unfold oR at hm
  refine sp 2 E rfl fun a E=>have H:=H.frs [4,4,3,4,4] rfl;bd hm fun B L hm=>xk2 E rfl (cf_ 209) (s8 H L) fun w H a E=>pn 5 E rfl fun a E=>wp_seq<|sq<|pn 1 E rfl fun a E=>wif E hm rfl (fun hm=>?_) fun hm=>?_
  ·refine sp 1 E rfl fun a E=>bd hm fun b3 M hm=>xk2 E rfl (cf_ 203) (oL H M) fun w H a E=>nt<|wp_ret<|aG<|Rf E rfl<|have H:=H.nilRow 9 kS;have H:=H.drs [3,4];have H:=H.frs [0,3,3,3] rfl;?_
   cases hm
   exact X3 ⟨rfl,H.reads k⟩
  ·refine wp_skip<|aA<|aK (fun a w=>∃ y z,Jn 80 a w [(0,pt j 0),(3,pt l 0),(4,.string c),(10,.int .i64 B.1)] (Blk j 185 [m,y,.int .i64 o,s,.string q,.int .i64 p,f]::Blk l 97 (bE b)::Row 107 aB m n::Row 89 aC y z::Row 9 kS f g::Fo) rs (rU B n c b o q p g z=some r)) ?_ ?_
   ·refine sp 1 E rfl fun a E=>lb2 E H 2 U4 rfl fun a E=>nt<|wif E hm rfl (fun hm=>?_) fun hm=>?_
    ·refine wp_region_lit<|pr 2 E rfl fun a E=>have H:=H.frs [4,3,3,4,4] rfl;bd hm fun b4 N hm=>xc2 E rfl (cf_ 204) (Cj H N)<|?_
     rintro _ w ⟨b5,rfl,H⟩ a E
     exact nt<|have H:=H.frs [4,2,3,4,4] rfl;X3 ⟨E.to rfl,H,k,hm⟩
    ·exact wp_skip<|aA<|have H:=H.frs [4,4,3,4,4] rfl;X3 ⟨E.to rfl,H,k,hm⟩
   ·clear E H hm
    rintro a w ⟨y,z,W,E,H,O,hm⟩
    unfold rU at hm
    refine wp_seq<|dz [0,0,0,0,0,0,0,0,0,0,0,0,0,1,1,2,2,2,2] [0,1] H fun w W0 hI H=>fn 5 E rfl fun a E=>fb2 E m0 U22 rfl fun a E=>fn 3 E rfl fun a E=>fb2 E mm1 U9 rfl fun a E=>fn 1 E rfl fun a E=>fb2 E mm1 U2 rfl fun a E=>fv E rfl (fun w hW=>(bP E rfl (E.evs rfl) (v:=.agg #[.string c,.string b.Data,.int .i64 0,.int .i64 0,.int .i64 b.Owner]) (by kernel_rfl))) fun a E=>bI rfl<|gU (e:=107) (d:=aB) (cs:=[.string c,.string b.Data,.int .i64 0,.int .i64 0,.int .i64 b.Owner]) (xs:=[(⟨c,b.Data,0,0,b.Owner⟩:aD)]) E H (wn rfl) rfl rfl rfl (E.evs rfl) (by kernel_rfl) rfl rfl (fun ok hr=>(Rows.single (d:=aB) (cs:=[.string c,.string b.Data,.int .i64 0,.int .i64 0,.int .i64 b.Owner]) (x:=(⟨c,b.Data,0,0,b.Owner⟩:aD)) mE)) fun b6 w a H E=>nt<|⟨sx H [1,2] rfl,bI rfl<|bk hm fun P hm=>xc2 E rfl (cf_ 211) (insert_a (ix:=3) (iu:=0) H rfl rfl (by decide) P) fun b7 w H a E=>nt<|⟨sx H [1,2] rfl,bL rfl<|pn 1 E rfl fun a E=>bL rfl<|pn 1 E rfl fun a E=>bL rfl<|pn 1 E rfl fun a E=>bL rfl<|?_⟩⟩
    obtain ⟨q35,b8,rfl⟩:=H.rowform (i:=3) rfl
    refine ss 1 E H rfl Bz rfl fun w H=>nt<|aY<|?_
    clear hI
    refine aA<|wp_region_lit<|pr 5 E rfl fun a E=>ss 1 E H rfl sz9 rfl fun w H=>wpList_nil<|vC E rfl<|have H:=H.drs [0,1];?_
    cases hm
    exact X3 ⟨rfl,H.reads O⟩

def tM(d:List aD)(g:Int)(i:ByteArray)(j:ByteArray)(k:Int)(e:List ByteArray)(f:aQ):Option Ib:=
  (gG d g i j k e f).bind fun b=>if (decide (0 ≤ b.1))=true then ((idx d b.1).bind fun c=>some (b.2.1,b.2.2.1,c.Data,c.Version,b.2.2.2.2.2)) else (some (b.2.1,b.2.2.1,b.2.2.2.1,b.2.2.2.2.1,b.2.2.2.2.2))
theorem Gj{m:Nat}{f g j:Value}{n:List aD}{p q:Int}{s t:ByteArray}{l:List ByteArray}{e:aQ}(H:Sep w (Blk m 185 [f,j,.int .i64 p,.string s,.string t,.int .i64 q,g]::Row 107 aB f n::Row 9 kS g l::Fo) rs){r:Int×ByteArray×ByteArray×Int×cR}(hm:tM n p s t q l e=some r) :
    Cf 131 [pt m 0,.agg (bE e).toArray] w fun v w'=>∃ u,.tuple #[]=v∧Sep w' (Blk m 185 [f,j,.int .i64 r.1,.string r.2.1,.string r.2.2.1,.int .i64 r.2.2.2.1,u]::Row 107 aB f n::Row 9 kS u r.2.2.2.2::Fo) (rs):=by
 unfold tM at hm
 refine ent Tryz.func131 rfl Tryz.ntmps131 rfl rfl fun a E=>sq<|bx E H rfl fun x w a H E=>xp 1 E rfl fun a E=>ln 0 (bE e) E H U97 rfl hU fun a E=>have H:=H.frs [0,3,3,3] rfl;bd hm fun y o hm=>xc2 E rfl (cf_ 202) (qZ H o)<|?_
 rintro _ w ⟨z,rfl,H⟩ a E
 refine pr 1 E rfl fun a E=>xp 1 E rfl fun a E=>sv2 E rfl (Hb E Hw Hx rfl rfl rfl) fun a E=>nt<|wif E hm rfl (fun hm=>?_) fun hm=>?_
 ·refine dz [0,0,0,0,0,0,0,0,0,0,0,0,0,1,2,2,2,2] [1] H fun w W0 hI H=>fn 3 E rfl fun a E=>bd hm fun A b hm=>?_
  obtain ⟨B,C,c⟩:=H.rowformNE (i:=1) rfl b
  rw [Bs 5 c b] at E
  refine fn 2 E rfl fun a E=>fv E rfl (fun w hW=>L9 (d:=aB) (k:=1) E bX c b m0 rfl rfl rfl U9 rfl hW) fun a E=>fn 3 E rfl fun a E=>fv E rfl (fun w hW=>L9 (d:=aB) (k:=2) E bX c b m0 rfl rfl rfl U2 rfl hW) fun a E=>fn 3 E rfl fun a E=>bI rfl<|ss 0 E H rfl sz9 rfl fun w H=>nt<|⟨sx H [1] rfl,bL rfl<|pn 1 E rfl fun a E=>bL rfl<|pn 1 E rfl fun a E=>bL rfl<|pn 1 E rfl fun a E=>bL rfl<|ss 0 E H rfl sz2 rfl fun w H=>nt<|aY<|?_⟩
  clear hI
  refine vC E rfl<|have H:=H.drop 3;?_
  cases hm
  exact ⟨_,rfl,H.reads Y0⟩
 ·refine wp_skip<|vC E rfl<|have H:=H.drop 3;?_
  cases hm
  exact ⟨_,rfl,H.reads Y0⟩

def rV(d:List aD)(g:Int)(i:ByteArray)(j:ByteArray)(k:Int)(f:List ByteArray)(e:aQ):Option ES:=
  (gG d g i j k f e).bind fun b=>if (decide (0 ≤ b.1))=true then ((jZ d e.Path).bind fun c=>(ck (0 ≤ c.1∧c.1 < d.length∧IntKind.i64.wrap (c.1+1)=c.1+1)).bind fun l=>some (d.eraseIdx c.1.toNat,b.2.1,b.2.2.1,b.2.2.2.1,b.2.2.2.2.1,b.2.2.2.2.2)) else (some (d,b.2.1,b.2.2.1,b.2.2.2.1,b.2.2.2.2.1,b.2.2.2.2.2))
theorem Ck{f:Nat}{l c d:Value}{m:List aD}{n o:Int}{p q:ByteArray}{e:List ByteArray}{b:aQ}(H:Sep w (Blk f 185 [l,d,.int .i64 n,.string p,.string q,.int .i64 o,c]::Row 107 aB l m::Row 9 kS c e::Fo) rs){r:cD×Int×ByteArray×ByteArray×Int×cR}(hm:rV m n p q o e b=some r) :
    Cf 127 [pt f 0,.agg (bE b).toArray] w fun v w'=>∃ s t,.tuple #[]=v∧Sep w' (Blk f 185 [s,d,.int .i64 r.2.1,.string r.2.2.1,.string r.2.2.2.1,.int .i64 r.2.2.2.2.1,t]::Row 107 aB s r.1::Row 9 kS t r.2.2.2.2.2::Fo) (rs):=by
 unfold rV at hm
 refine ent Tryz.func127 rfl Tryz.ntmps127 rfl rfl fun a E=>sq<|bx E H rfl fun u w a H E=>xp 1 E rfl fun a E=>ln 0 (bE b) E H U97 rfl hU fun a E=>have H:=H.frs [0,3,3,3] rfl;bd hm fun x g hm=>xc2 E rfl (cf_ 202) (qZ H g)<|?_
 rintro _ w ⟨y,rfl,H⟩ a E
 refine sv2 E rfl (Hb E Hw Hx rfl rfl rfl) fun a E=>nt<|wif E hm rfl (fun hm=>?_) fun hm=>?_
 ·refine sp 2 E rfl fun a E=>lb2 E H 3 U9 rfl fun a E=>bd hm fun z j hm=>xk2 E rfl (cf_ 209) (s8 H j) fun w H a E=>pn 5 E rfl fun a E=>wp_region_lit<|pr 5 E rfl fun a E=>lb2 E H 0 U22 rfl fun a E=>pr 3 E rfl fun a E=>bk hm fun k hm=>xc2 E rfl (cf_ 212) (delete_c (ix:=1) H rfl k) fun A w H a E=>pr 3 E rfl fun a E=>?_
  obtain ⟨q23,B,rfl⟩:=H.rowform (i:=1) rfl
  refine ss 0 E H rfl Bz rfl fun w H=>wpList_nil<|vC E rfl<|have H:=H.drop 3;?_
  cases hm
  exact ⟨_,_,rfl,H.reads Y0⟩
 ·refine wp_skip<|vC E rfl<|have H:=H.drop 3;?_
  cases hm
  exact ⟨_,_,rfl,H.reads Y0⟩

def iM(x1:aF)(g:cD)(i:cP)(b:Int)(c:ByteArray)(d:ByteArray)(e:Int)(f:cR):Option vN:=
  if (b != 0)=true then (some (x1,(⟨b,c,d,e,f⟩:bA))) else (some ((⟨g,i⟩:aF),(⟨b,c,d,e,f⟩:bA)))
def wH(x1:aF)(b:aQ)(m:Bool):Option vN:=
  if m=true then (some ((⟨[],[]⟩:aF),(⟨1,(ByteArray.mk #[]),(ByteArray.mk #[]),0,[]⟩:bA))) else ((ck (x1.Nodes.length ≤ LIM)).bind fun o=>(ck (x1.Turns.length ≤ LIM)).bind fun p=>if (b.Kind == 1)=true then ((sN x1.Nodes 0 (ByteArray.mk #[]) (ByteArray.mk #[]) 0 [] b).bind fun g=>iM x1 x1.Nodes x1.Turns g.1 g.2.1 g.2.2.1 g.2.2.2.1 g.2.2.2.2) else (if (b.Kind == 2)=true then ((uV x1.Nodes x1.Turns 0 (ByteArray.mk #[]) 0 [] b).bind fun c=>iM x1 c.1 c.2.1 c.2.2.1 c.2.2.2.1 c.2.2.2.2.1 c.2.2.2.2.2.1 c.2.2.2.2.2.2) else (if (b.Kind == 3)=true then ((rV x1.Nodes 0 (ByteArray.mk #[]) (ByteArray.mk #[]) 0 [] b).bind fun d=>iM x1 d.1 x1.Turns d.2.1 d.2.2.1 d.2.2.2.1 d.2.2.2.2.1 d.2.2.2.2.2) else (if (b.Kind == 4)=true then ((vP x1.Nodes x1.Turns 0 (ByteArray.mk #[]) (ByteArray.mk #[]) 0 [] b).bind fun e=>iM x1 x1.Nodes e.1 e.2.1 e.2.2.1 e.2.2.2.1 e.2.2.2.2.1 e.2.2.2.2.2) else (if (b.Kind == 5)=true then ((sL x1.Nodes 0 (ByteArray.mk #[]) (ByteArray.mk #[]) 0 [] b).bind fun f=>iM x1 f.1 x1.Turns f.2.1 f.2.2.1 f.2.2.2.1 f.2.2.2.2.1 f.2.2.2.2.2) else (if (b.Kind == 6)=true then ((tL x1.Nodes 0 (ByteArray.mk #[]) (ByteArray.mk #[]) 0 [] b).bind fun i=>iM x1 x1.Nodes x1.Turns i.1 i.2.1 i.2.2.1 i.2.2.2.1 i.2.2.2.2) else (if (b.Kind == 7)=true then ((tM x1.Nodes 0 (ByteArray.mk #[]) (ByteArray.mk #[]) 0 [] b).bind fun j=>iM x1 x1.Nodes x1.Turns j.1 j.2.1 j.2.2.1 j.2.2.2.1 j.2.2.2.2) else (if (b.Kind == 8)=true then ((uT x1.Nodes 0 (ByteArray.mk #[]) (ByteArray.mk #[]) 0 [] b).bind fun k=>iM x1 x1.Nodes x1.Turns k.1 k.2.1 k.2.2.1 k.2.2.2.1 k.2.2.2.2) else (if (b.Kind == 9)=true then ((sO x1.Nodes [] b).bind fun n=>iM x1 x1.Nodes x1.Turns 0 (ByteArray.mk #[]) (ByteArray.mk #[]) 0 n) else (if (b.Kind == 10)=true then ((sM x1.Nodes [] b).bind fun l=>iM x1 l.1 x1.Turns 0 (ByteArray.mk #[]) (ByteArray.mk #[]) 0 l.2) else none))))))))))
def wS(x1:aF)(b:aQ):Option vN:=
  (pP x1).bind fun c=>if (!c)=true then (wH x1 b true) else ((q7 b).bind fun d=>wH x1 b (!d))
theorem Uk{x1:aF}{o p:Value}{c:aQ}(H:Sep w (Fo) rs)(q:rSl aB o x1.Nodes ∈ rs)(s:rSl aC p x1.Turns ∈ rs)(b7:y7 Tryz.prog ∈ rs){r:aF×bA}(hm:wS x1 c=some r) :
    Cf 64 [.agg #[o,p],.agg (bE c).toArray] w fun v w'=>∃ b8 b9 c0,.tuple #[.agg #[b8,b9],.agg (pL r.2 c0).toArray]=v∧Sep w' (Fo) (rSl aB b8 r.1.Nodes::rSl aC b9 r.1.Turns::rSl kS c0 r.2.Names::rs):=by
 unfold wS at hm
 refine ent Tryz.func64 rfl Tryz.ntmps64 rfl rfl fun a E=>sq<|bx E H rfl fun O w a H E=>bx E H rfl fun c1 w a H E=>al2 E H rfl lT fun t w a H E=>al2 E H rfl Q8 fun u w a H E=>nx<|sv2 E rfl (bP E rfl (E.evs rfl) (v:=.agg #[.nilFunc,.func (.func 125) #[] #[],.func (.func 126) #[] #[],.func (.func 127) #[] #[],.func (.func 128) #[] #[],.func (.func 129) #[] #[],.func (.func 130) #[] #[],.func (.func 131) #[] #[],.func (.func 132) #[] #[],.func (.func 133) #[] #[],.func (.func 134) #[] #[]]) (by kernel_rfl)) fun a E=>al2 E H rfl GK fun P w a H E=>ss 0 E H rfl GL rfl fun w H=>nt<|wp_seq<|aK (fun a w=>∃ B,Jn 54 a w [(2,pt O 0),(3,pt c1 0),(4,pt t 0),(5,pt u 0),(6,pt P 0),(16,.bool B)] (Blk O 25 [o,p]::Blk c1 97 (bE c)::Blk t 25 [nS,nS]::Blk u 93 gV::Blk P 183 [.nilFunc,.func (.func 125) #[] #[],.func (.func 126) #[] #[],.func (.func 127) #[] #[],.func (.func 128) #[] #[],.func (.func 129) #[] #[],.func (.func 130) #[] #[],.func (.func 131) #[] #[],.func (.func 132) #[] #[],.func (.func 133) #[] #[],.func (.func 134) #[] #[]]::Fo) rs (wH x1 c B=some r)) ?_ ?_
 ·refine wp_region_lit<|ln 4 [o,p] E H U25 rfl bK fun a E=>bd hm fun c8 T hm=>xk2 E rfl (cf_ 37) (C7 H q s T) fun w H a E=>pr 2 E rfl fun a E=>cs hm (fun e hm=>?_) fun e hm=>?_
  ·exact pk 4 E (kc 12 rfl e) rfl fun a E=>nt<|have H:=H.frs [0,1,2,3,4] rfl;⟨_,_,E.to rfl,H,Y0,hm⟩
  ·refine gv 12 E e rfl (B8 (i:=3) (us:=(bE c)) E H rfl rfl rfl rfl U97 rfl hU) fun a E=>bd hm fun c9 U hm=>gc 12 E e rfl (cf_ 121) (Ih H U)<|?_
   rintro _ w ⟨rfl,H⟩ a E
   exact pk 2 E (kc 12 rfl e) rfl fun a E=>nt<|have H:=H.frs [0,1,2,3,4] rfl;⟨_,_,E.to rfl,H,Y0,hm⟩
 ·clear E H hm
  rintro a w ⟨B,c6,E,H,b,hm⟩
  unfold wH at hm
  refine wif E hm rfl (fun hm=>?_) fun hm=>?_
  ·refine sq<|sv2 E rfl (bP E rfl (E.evs rfl) (v:=.agg #[nS,nS]) (by kernel_rfl)) fun a E=>sv2 E rfl (bP E rfl (E.evs rfl) (v:=.agg #[.int .i64 1,.string (ByteArray.mk #[]),.string (ByteArray.mk #[]),.int .i64 0,nS]) (by kernel_rfl)) fun a E=>ss 2 E H rfl bK rfl fun w H=>ss 3 E H rfl eH rfl fun w H=>nt<|wp_ret<|aG<|kN E rfl (eJ (i:=2) (us:=[nS,nS]) H rfl rfl rfl U25 rfl bK) (eJ (i:=3) (us:=[.int .i64 1,.string (ByteArray.mk #[]),.string (ByteArray.mk #[]),.int .i64 0,nS]) H rfl rfl rfl U93 rfl eH)<|have H:=H.nilSl aB;have H:=H.nilSl aC;have H:=H.nilSl kS;have H:=H.drs [0,0,0,0,0];?_
   cases hm
   exact X3 ⟨rfl,H.rdx [2,1,0] rfl (fun r hr=>(t3 (b r hr)))⟩
  ·refine wp_skip<|aA<|wp_seq<|dw [(0,0),(1,0),(3,0),(4,0),(2,1),(5,1),(6,0),(7,0),(8,1),(9,2)] [0] [] H (by kernel_rfl) (fun _ _ _ h=>False.elim h.2) fun w W0 hI H=>fn 1 E rfl fun a E=>fb2 E m0 U22 rfl fun a E=>fn 1 E rfl fun a E=>fb2 E m0 U23 rfl fun a E=>bI rfl<|bk hm fun V hm=>xc2 E rfl (cf_ 56) (rD H (b _ q) V) fun d0 w H a E=>nt<|⟨sx H [1] rfl,bI rfl<|bk hm fun W hm=>xc2 E rfl (cf_ 57) (rE H (b _ s) W) fun d1 w H a E=>nt<|⟨sx H [2] rfl,?_⟩⟩
   obtain ⟨q22,Q,rfl⟩:=H.rowform (i:=1) rfl
   obtain ⟨q24,R,rfl⟩:=H.rowform (i:=0) rfl
   refine fv E rfl (fun w hW=>(bP E rfl (E.evs rfl) (v:=.agg #[(.slice q22 x1.Nodes.length Q),(.slice q24 x1.Turns.length R)]) (by kernel_rfl))) fun a E=>fv E rfl (fun w hW=>(bP E rfl (E.evs rfl) (v:=.agg #[(.slice q22 x1.Nodes.length Q),(.slice q24 x1.Turns.length R),.int .i64 0,.string (ByteArray.mk #[]),.string (ByteArray.mk #[]),.int .i64 0,nS]) (by kernel_rfl))) fun a E=>bI rfl<|bx E H rfl fun S w a H E=>nt<|⟨sx H [3] rfl,bL rfl<|pn 1 E rfl fun a E=>aY<|?_⟩
   clear hI
   refine aA<|wp_seq<|aK (fun a w=>∃ x y m z A f g k l n,Jn 54 a w [(2,pt O 0),(4,pt t 0),(5,pt u 0),(7,pt S 0)] (Blk O 25 [o,p]::Blk t 25 [nS,nS]::Blk u 93 gV::Blk S 185 [x,y,.int .i64 f,.string g,.string k,.int .i64 l,m]::Row 107 aB x z::Row 89 aC y A::Row 9 kS m n::Fo) rs (iM x1 z A f g k l n=some r)) ?_ ?_
   ·refine dz [0,0,0,0,0,0,1] [4,7] H fun w W0 hI H=>fn 1 E rfl fun a E=>fb2 E m0 U3 rfl fun a E=>cs hm (fun C hm=>?_) fun C hm=>?_
    ·refine fv E rfl (fun w hW=>wW (j:=1) E rfl rfl rfl C rfl Q9 G3) fun a E=>fb2 E mm1 R1 rfl fun a E=>fn 1 E rfl fun a E=>fbn E (bE c) rfl (wn rfl) rfl rfl rfl rfl m0 rfl U97 rfl hU fun a E=>bI rfl<|have H:=H.nilRow 9 kS;have H:=H.frs [8,8,8,8,8,7,6,8,8] rfl;bd hm fun d2 X hm=>bM E (wn rfl) rfl rfl (bO E rfl rfl rfl ((cf_ 125) _)) (Ed H X)<|?_
     rintro _ w ⟨d3,rfl,H⟩ a E
     refine nt<|⟨⟨_,_,H,(aM mm5 (aM (t2 mm6) (bC))),(bG)⟩,aY<|?_⟩
     clear hI
     exact aA<|have H:=H.drs [5,7];have H:=H.frs [2,3,3,3,6,6,6] rfl;X11 ⟨E.to rfl,H,b,hm⟩
    ·refine cs hm (fun D hm=>?_) fun D hm=>?_
     ·refine fv E rfl (fun w hW=>wW (j:=2) E rfl rfl rfl D rfl Q9 G3) fun a E=>fb2 E mm1 R1 rfl fun a E=>fn 1 E rfl fun a E=>fbn E (bE c) rfl (wn rfl) rfl rfl rfl rfl m0 rfl U97 rfl hU fun a E=>bI rfl<|have H:=H.nilRow 9 kS;have H:=H.frs [8,8,8,8,8,5,7,8,8] rfl;bd hm fun d4 Y hm=>bM E (wn rfl) rfl rfl (bO E rfl rfl rfl ((cf_ 126) _)) (Il H (b _ b7) Y)<|?_
      rintro _ w ⟨d5,d6,d7,rfl,H⟩ a E
      refine nt<|⟨⟨_,_,H,(aM mm5 (aM (t2 mm6) (bC))),(bG)⟩,aY<|?_⟩
      clear hI
      exact aA<|have H:=H.drs [5,7];have H:=H.frs [3,3,3,3,6,6,6] rfl;X11 ⟨E.to rfl,H,b,hm⟩
     ·refine cs hm (fun F hm=>?_) fun F hm=>?_
      ·refine fv E rfl (fun w hW=>wW (j:=3) E rfl rfl rfl F rfl Q9 G3) fun a E=>fb2 E mm1 R1 rfl fun a E=>fn 1 E rfl fun a E=>fbn E (bE c) rfl (wn rfl) rfl rfl rfl rfl m0 rfl U97 rfl hU fun a E=>bI rfl<|have H:=H.nilRow 9 kS;have H:=H.frs [8,8,8,8,8,7,6,8,8] rfl;bd hm fun d8 Z hm=>bM E (wn rfl) rfl rfl (bO E rfl rfl rfl ((cf_ 127) _)) (Ck H Z)<|?_
       rintro _ w ⟨d9,e0,rfl,H⟩ a E
       refine nt<|⟨⟨_,_,H,(aM mm5 (aM (t2 mm6) (bC))),(bG)⟩,aY<|?_⟩
       clear hI
       exact aA<|have H:=H.drs [5,7];have H:=H.frs [2,3,3,3,6,6,6] rfl;X11 ⟨E.to rfl,H,b,hm⟩
      ·refine cs hm (fun G hm=>?_) fun G hm=>?_
       ·refine fv E rfl (fun w hW=>wW (j:=4) E rfl rfl rfl G rfl Q9 G3) fun a E=>fb2 E mm1 R1 rfl fun a E=>fn 1 E rfl fun a E=>fbn E (bE c) rfl (wn rfl) rfl rfl rfl rfl m0 rfl U97 rfl hU fun a E=>bI rfl<|have H:=H.nilRow 9 kS;have H:=H.frs [8,8,8,8,8,5,7,8,8] rfl;bd hm fun e1 b0 hm=>bM E (wn rfl) rfl rfl (bO E rfl rfl rfl ((cf_ 128) _)) (Ec H b0)<|?_
        rintro _ w ⟨e2,e3,rfl,H⟩ a E
        refine nt<|⟨⟨_,_,H,(aM mm5 (aM (t2 mm6) (bC))),(bG)⟩,aY<|?_⟩
        clear hI
        exact aA<|have H:=H.drs [5,7];have H:=H.frs [3,3,3,3,6,6,6] rfl;X11 ⟨E.to rfl,H,b,hm⟩
       ·refine cs hm (fun I hm=>?_) fun I hm=>?_
        ·refine fv E rfl (fun w hW=>wW (j:=5) E rfl rfl rfl I rfl Q9 G3) fun a E=>fb2 E mm1 R1 rfl fun a E=>fn 1 E rfl fun a E=>fbn E (bE c) rfl (wn rfl) rfl rfl rfl rfl m0 rfl U97 rfl hU fun a E=>bI rfl<|have H:=H.nilRow 9 kS;have H:=H.frs [8,8,8,8,8,7,6,8,8] rfl;bd hm fun e4 b1 hm=>bM E (wn rfl) rfl rfl (bO E rfl rfl rfl ((cf_ 129) _)) (Ea H b1)<|?_
         rintro _ w ⟨e5,rfl,H⟩ a E
         refine nt<|⟨⟨_,_,H,(aM mm5 (aM (t2 mm6) (bC))),(bG)⟩,aY<|?_⟩
         clear hI
         exact aA<|have H:=H.drs [5,7];have H:=H.frs [2,3,3,3,6,6,6] rfl;X11 ⟨E.to rfl,H,b,hm⟩
        ·refine cs hm (fun J hm=>?_) fun J hm=>?_
         ·refine fv E rfl (fun w hW=>wW (j:=6) E rfl rfl rfl J rfl Q9 G3) fun a E=>fb2 E mm1 R1 rfl fun a E=>fn 1 E rfl fun a E=>fbn E (bE c) rfl (wn rfl) rfl rfl rfl rfl m0 rfl U97 rfl hU fun a E=>bI rfl<|have H:=H.nilRow 9 kS;have H:=H.frs [8,8,8,8,8,7,6,8,8] rfl;bd hm fun e6 b2 hm=>bM E (wn rfl) rfl rfl (bO E rfl rfl rfl ((cf_ 130) _)) (Gi H b2)<|?_
          rintro _ w ⟨e7,rfl,H⟩ a E
          refine nt<|⟨⟨_,_,H,(aM mm5 (aM (t2 mm6) (bC))),(bG)⟩,aY<|?_⟩
          clear hI
          exact aA<|have H:=H.drs [5,7];have H:=H.frs [2,3,3,3,6,6,6] rfl;X11 ⟨E.to rfl,H,b,hm⟩
         ·refine cs hm (fun K hm=>?_) fun K hm=>?_
          ·refine fv E rfl (fun w hW=>wW (j:=7) E rfl rfl rfl K rfl Q9 G3) fun a E=>fb2 E mm1 R1 rfl fun a E=>fn 1 E rfl fun a E=>fbn E (bE c) rfl (wn rfl) rfl rfl rfl rfl m0 rfl U97 rfl hU fun a E=>bI rfl<|have H:=H.nilRow 9 kS;have H:=H.frs [8,8,8,8,8,7,6,8,8] rfl;bd hm fun e8 b3 hm=>bM E (wn rfl) rfl rfl (bO E rfl rfl rfl ((cf_ 131) _)) (Gj H b3)<|?_
           rintro _ w ⟨e9,rfl,H⟩ a E
           refine nt<|⟨⟨_,_,H,(aM mm5 (aM (t2 mm6) (bC))),(bG)⟩,aY<|?_⟩
           clear hI
           exact aA<|have H:=H.drs [5,7];have H:=H.frs [2,3,3,3,6,6,6] rfl;X11 ⟨E.to rfl,H,b,hm⟩
          ·refine cs hm (fun L hm=>?_) fun L hm=>?_
           ·refine fv E rfl (fun w hW=>wW (j:=8) E rfl rfl rfl L rfl Q9 G3) fun a E=>fb2 E mm1 R1 rfl fun a E=>fn 1 E rfl fun a E=>fbn E (bE c) rfl (wn rfl) rfl rfl rfl rfl m0 rfl U97 rfl hU fun a E=>bI rfl<|have H:=H.nilRow 9 kS;have H:=H.frs [8,8,8,8,8,7,6,8,8] rfl;bd hm fun f0 b4 hm=>bM E (wn rfl) rfl rfl (bO E rfl rfl rfl ((cf_ 132) _)) (Ij H b4)<|?_
            rintro _ w ⟨f1,rfl,H⟩ a E
            refine nt<|⟨⟨_,_,H,(aM mm5 (aM (t2 mm6) (bC))),(bG)⟩,aY<|?_⟩
            clear hI
            exact aA<|have H:=H.drs [5,7];have H:=H.frs [2,3,3,3,6,6,6] rfl;X11 ⟨E.to rfl,H,b,hm⟩
           ·refine cs hm (fun M hm=>?_) fun M hm=>?_
            ·refine fv E rfl (fun w hW=>wW (j:=9) E rfl rfl rfl M rfl Q9 G3) fun a E=>fb2 E mm1 R1 rfl fun a E=>fn 1 E rfl fun a E=>fbn E (bE c) rfl (wn rfl) rfl rfl rfl rfl m0 rfl U97 rfl hU fun a E=>bI rfl<|have H:=H.nilRow 9 kS;have H:=H.frs [8,8,8,8,8,7,6,8,8] rfl;bd hm fun f2 b5 hm=>bM E (wn rfl) rfl rfl (bO E rfl rfl rfl ((cf_ 133) _)) (Ee H b5)<|?_
             rintro _ w ⟨f3,rfl,H⟩ a E
             refine nt<|⟨⟨_,_,H,(aM mm5 (aM (t2 mm6) (bC))),(bG)⟩,aY<|?_⟩
             clear hI
             exact aA<|have H:=H.drs [5,7];have H:=H.frs [2,3,3,3,6,6,6] rfl;X11 ⟨E.to rfl,H,b,hm⟩
            ·refine cs hm (fun N hm=>?_) fun N hm=>?_
             ·refine fv E rfl (fun w hW=>wW (j:=10) E rfl rfl rfl N rfl Q9 G3) fun a E=>fb2 E mm1 R1 rfl fun a E=>fn 1 E rfl fun a E=>fbn E (bE c) rfl (wn rfl) rfl rfl rfl rfl m0 rfl U97 rfl hU fun a E=>bI rfl<|have H:=H.nilRow 9 kS;have H:=H.frs [8,8,8,8,8,7,6,8,8] rfl;bd hm fun f4 b6 hm=>bM E (wn rfl) rfl rfl (bO E rfl rfl rfl ((cf_ 134) _)) (Eb H b6)<|?_
              rintro _ w ⟨f5,f6,rfl,H⟩ a E
              refine nt<|⟨⟨_,_,H,(aM mm5 (aM (t2 mm6) (bC))),(bG)⟩,aY<|?_⟩
              clear hI
              exact aA<|have H:=H.drs [5,7];have H:=H.frs [2,3,3,3,6,6,6] rfl;X11 ⟨E.to rfl,H,b,hm⟩
             ·exact (aZ hm rfl).elim
   ·clear E H hm
    rintro a w ⟨x,y,m,z,A,f,g,k,l,n,c7,E,H,d,hm⟩
    unfold iM at hm
    refine sp 4 E rfl fun a E=>lb2 E H 3 U41 rfl fun a E=>pn 1 E rfl fun a E=>wif E hm rfl (fun hm=>?_) fun hm=>?_
    ·refine wp_seq<|dz [0,0,0,0,0,1,2] [0,3] H fun w W0 hI H=>fbn E [o,p] rfl (wn rfl) rfl rfl rfl rfl m0 rfl U25 rfl bK fun a E=>fn 3 E rfl fun a E=>fbn E [.int .i64 f,.string g,.string k,.int .i64 l,m] rfl (wn rfl) rfl rfl rfl rfl mm1 rfl U93 rfl eH fun a E=>bI rfl<|zY (i:=1) E H (wn rfl) rfl rfl rfl rfl rfl rfl bK rfl (bQ H (d _ q) (d _ s)) fun w H=>nt<|⟨sx H [0,3] rfl,bL rfl<|?_⟩
     obtain ⟨q39,c2,rfl⟩:=H.rowform (i:=6) rfl
     refine ss 2 E H rfl eH rfl fun w H=>nt<|aY<|?_
     clear hI
     refine aA<|wp_ret<|aG<|kN E rfl (eJ (i:=1) (us:=[o,p]) H rfl rfl rfl U25 rfl bK) (eJ (i:=2) (us:=[.int .i64 f,.string g,.string k,.int .i64 l,(.slice q39 n.length c2)]) H rfl rfl rfl U93 rfl eH)<|have H:=H.thaw (i:=6) rfl;have H:=H.drs [0,0,0,0,0,0];?_
     cases hm
     exact X3 ⟨rfl,H.reads (aE (t1 (d _ q)) (aE (t1 (d _ s)) (aE m0 (fun r hr=>(t1 (d r hr))))))⟩
    ·refine wp_skip<|aA<|wp_seq<|dz [0,0,0,0,0,0,0,0,1,2] [3] H fun w W0 hI H=>fn 3 E rfl fun a E=>fbn E [x,y] rfl (wn rfl) rfl rfl rfl rfl m0 rfl U25 rfl bK fun a E=>fn 3 E rfl fun a E=>fbn E [.int .i64 f,.string g,.string k,.int .i64 l,m] rfl (wn rfl) rfl rfl rfl rfl m0 rfl U93 rfl eH fun a E=>bI rfl<|?_
     obtain ⟨q41,c3,rfl⟩:=H.rowform (i:=4) rfl
     obtain ⟨q43,c4,rfl⟩:=H.rowform (i:=5) rfl
     refine ss 1 E H rfl bK rfl fun w H=>nt<|⟨sx H [3] rfl,bL rfl<|?_⟩
     obtain ⟨q45,c5,rfl⟩:=H.rowform (i:=6) rfl
     refine ss 2 E H rfl eH rfl fun w H=>nt<|aY<|?_
     clear hI
     refine aA<|wp_ret<|kN E rfl (eJ (i:=1) (us:=[(.slice q41 z.length c3),(.slice q43 A.length c4)]) H rfl rfl rfl U25 rfl bK) (eJ (i:=2) (us:=[.int .i64 f,.string g,.string k,.int .i64 l,(.slice q45 n.length c5)]) H rfl rfl rfl U93 rfl eH)<|have H:=H.thaw (i:=4) rfl;have H:=H.thaw (i:=4) rfl;have H:=H.thaw (i:=4) rfl;have H:=H.drs [0,0,0,0];?_
     cases hm
     exact X3 ⟨rfl,H.rdx [2,1,0] rfl (fun r hr=>(t3 (d r hr)))⟩

def oS(g:List bV)(x1:aF):Nat→x5→Int→cD→cP→Option Do
  | 0,_,_,_,_=>none
  | j+1,d,c,e,f=>
    if (decide (c < (g.length:Int)))=true then ((idx g c).bind fun i=>(wS (⟨e,f⟩:aF) i.Part).bind fun b=>if (b.2.Err != 0)=true then (some (x1,[],b.2.Err,c)) else ((ck (d.length+([b.2]:List bA).length ≤ LIM)).bind fun k=>oS g x1 j (d ++ ([b.2]:List bA)) (IntKind.i64.wrap (c+1)) b.1.Nodes b.1.Turns)) else (some ((⟨e,f⟩:aF),d,0,0))
def vJ(x1:aF)(b:List bV):Option Do:=
  oS b x1 (((b.length:Int) - 0:Int).toNat+1) [] 0 x1.Nodes x1.Turns
theorem S4{x1:aF}{q s I:Value}{u:List bV}(H:Sep w (Fo) rs)(m:rSl aB q x1.Nodes ∈ rs)(n:rSl aC s x1.Turns ∈ rs)(B:rSl bN I u ∈ rs)(M:y7 Tryz.prog ∈ rs){r:aF×x5×Int×Int}(hm:vJ x1 u=some r) :
    Cf 23 [.agg #[q,s],I] w fun v w'=>∃ N O P,.tuple #[.agg #[N,O],P,.int .i64 r.2.2.1,.int .i64 r.2.2.2]=v∧Sep w' (Row 93 aU P r.2.1::Fo) (rSl aB N r.1.Nodes::rSl aC O r.1.Turns::rs):=by
 unfold vJ at hm
 refine ent Tryz.func23 rfl Tryz.ntmps23 rfl rfl fun a E=>sq<|bx E H rfl fun C w a H E=>al2 E H rfl lT fun D w a H E=>pr 3 E rfl fun a E=>nx<|ln 1 [q,s] E H U25 rfl bK fun a E=>al2 E H rfl lT fun F w a H E=>ss 0 E H rfl bK (bQ H m n) fun w H=>nx<|pn 1 E rfl fun a E=>wp_seq<|sp 1 E rfl fun a E=>lS E H B U26 rfl fun a E=>pn 1 E rfl fun a E=>wp_block<|bD (fun t a w=>∃ y g j z A o p f,Env 44 a [(2,pt C 0),(4,pt D 0),(8,pt F 0),(9,y),(15,I),(16,.int .i64 (u.length:Int)),(17,.int .i64 A)]∧Sep w (Blk C 25 [q,s]::Blk D 25 [nS,nS]::Blk F 25 [g,j]::Row 93 aU y z::Fo) f∧(∀ r,r ∈ rs→r ∈ f)∧rSl aB g o ∈ f∧rSl aC j p ∈ f∧oS u x1 t z A o p=some r) (((u.length:Int) - 0:Int).toNat+1) ?_ ?_
 ·exact have H:=H.nilRow 93 aU;have H:=H.frs [0,1,2,3] rfl;X8 ⟨E.to rfl,H,Y0,m,n,hm⟩
 ·clear E H hm
  rintro t a w ⟨y,g,j,z,A,o,p,f,E,H,c,k,l,hm⟩
  cases t with
  | zero=>exact (aZ hm rfl).elim
  | succ t=>
   unfold oS at hm
   refine sq<|pn 1 E rfl fun a E=>wp_seq<|wif E hm rfl (fun hm=>?_) fun hm=>?_
   ·refine wp_skip<|aA<|wp_seq<|wp_block<|sp 1 E rfl fun a E=>bd hm fun Q J hm=>cN E H (wn rfl) rfl rfl rfl rfl rfl (c _ B) U26 C5 J fun q26 a H E=>ldf wZ E H rfl rfl rfl rfl rfl m0 U99 rfl C5 fun a E=>al2 E H rfl Rz fun U w a H E=>pr 1 E rfl fun a E=>ss 0 E H rfl C5 rfl fun w H=>nx<|ln 3 [g,j] E H U25 rfl bK fun a E=>pr 1 E rfl fun a E=>ln 0 (bE Q.Part) E H U97 rfl hU fun a E=>bd hm fun b K hm=>xc2 E rfl (cf_ 64) (Uk (x1:=(⟨o,p⟩:aF)) H (t1 k) (t1 l) (t1 (c _ M)) K)<|?_
    rintro _ w ⟨R,S,T,rfl,H⟩ a E
    refine pr 3 E rfl fun a E=>al2 E H rfl lT fun V w a H E=>al2 E H rfl Q8 fun W w a H E=>ss 1 E H rfl bK (bQ H m0 mm1) fun w H=>ss 0 E H rfl eH (mG H mm2) fun w H=>nt<|wp_seq<|sp 1 E rfl fun a E=>lb2 E H 0 U41 rfl fun a E=>pn 1 E rfl fun a E=>wif E hm rfl (fun hm=>?_) fun hm=>?_
    ·refine wp_seq<|dz [0,0,0,0,1,1,1,2] [0,3] H fun w W0 hI H=>fbn E [q,s] rfl (wn rfl) rfl rfl rfl rfl mm1 rfl U25 rfl bK fun a E=>fn 1 E rfl fun a E=>fb2 E m0 U41 rfl fun a E=>fn 1 E rfl fun a E=>bI rfl<|zY (i:=4) E H (wn rfl) rfl rfl rfl rfl rfl rfl bK rfl (bQ H (t4 (c _ m)) (t4 (c _ n))) fun w H=>nt<|⟨sx H [0,3] rfl,bI rfl<|pn 1 E rfl fun a E=>⟨sx H [0,3] rfl,bI rfl<|pn 1 E rfl fun a E=>⟨sx H [0,3] rfl,bL rfl<|pn 1 E rfl fun a E=>aY<|?_⟩⟩⟩
     clear hI
     refine aA<|wp_ret<|aG<|bF<|aG<|aG<|bF<|aG<|Lz E rfl (eJ (i:=4) (us:=[q,s]) H rfl rfl rfl U25 rfl bK) (rvT rfl) (rvT rfl) (rvT rfl)<|have H:=H.nilRow 93 aU;have H:=H.drs [1,1,1,1,1,1,1];?_
     cases hm
     exact X3 ⟨rfl,H.reads (aE (t4 (c _ m)) (aE (t4 (c _ n)) (fun r hr=>(t4 (c r hr)))))⟩
    ·refine wp_skip<|aA<|sq<|ln 1 [R,S] E H U25 rfl bK fun a E=>ss 5 E H rfl bK (bQ H m0 mm1) fun w H=>nt<|wp_region_lit<|pr 1 E rfl fun a E=>ln 0 (pL b.2 T) E H U93 rfl eH fun a E=>?_
     obtain ⟨q35,G,rfl⟩:=H.slform mm2
     exact iV (e:=93) (d:=aU) (cs:=[.int .i64 b.2.Err,.string b.2.Path,.string b.2.Data,.int .i64 b.2.Version,(.slice q35 b.2.Names.length G)]) (xs:=[b.2]) E H (wn rfl) rfl rfl rfl (E.evs rfl) (by kernel_rfl) rfl (fun ok hr=>(Rows.single (d:=aU) (cs:=[.int .i64 b.2.Err,.string b.2.Path,.string b.2.Data,.int .i64 b.2.Version,(.slice q35 b.2.Names.length G)]) (x:=b.2) (P1 (hr _ mm2)))) fun X w a H E=>bk hm fun L hm=>cO (i:=6) E H (wn rfl) rfl rfl rfl rfl rfl rfl (fA m0) U40 Yg rfl L rfl fun Y w a H E=>pr 1 E rfl fun a E=>wpList_nil<|bH<|aA<|wp_region_lit<|pr 2 E rfl fun a E=>nt<|have H:=H.drs [0,0,0];⟨t,Nat.lt_succ_self t,X8 ⟨E.to rfl,H,(Y5 c),mm1,mm2,hm⟩⟩
   ·refine wp_exit<|aL<|aL<|cH<|aA<|sq<|ln 2 [g,j] E H U25 rfl bK fun a E=>pr 1 E rfl fun a E=>ss 1 E H rfl bK (bQ H k l) fun w H=>pn 3 E rfl fun a E=>wp_ret<|Lz E rfl (eJ (i:=1) (us:=[g,j]) H rfl rfl rfl U25 rfl bK) (rvT rfl) (rvT rfl) (rvT rfl)<|have H:=H.drs [0,0,0];?_
    cases hm
    exact X3 ⟨rfl,H.reads (aE k (aE l (c)))⟩

def vS(x1:Int):Option Bool:=
  some (x1 != x1)
theorem K1{x1:Int}(H:Sep w (Fo) rs){r:Bool}(hm:vS x1=some r) :
    Cf 320 [.int .i64 x1] w fun v w'=>.bool r=v∧Sep w' (Fo) (rs):=by
 unfold vS at hm
 refine ent Tryz.func320 rfl Tryz.ntmps320 rfl rfl fun a E=>sp 1 E rfl fun a E=>nx<|pn 4 E rfl fun a E=>wp_ret<|o1 E rfl<|?_
 cases hm
 exact ⟨rfl,H.reads Y0⟩

def yK(x1:Int)(b:Int):Option Int:=
  (vS x1).bind fun d=>(vS b).bind fun c=>if d=true then (if c=true then (some (0)) else (some ((-1)))) else (if c=true then (some (1)) else (if (decide (x1 < b))=true then (some ((-1))) else (if (decide (x1 > b))=true then (some (1)) else (some (0)))))
theorem Bb{x1 b:Int}(H:Sep w (Fo) rs){r:Int}(hm:yK x1 b=some r) :
    Cf 270 [.int .i64 x1,.int .i64 b] w fun v w'=>.int .i64 r=v∧Sep w' (Fo) (rs):=by
 unfold yK at hm
 refine ent Tryz.func270 rfl Tryz.ntmps270 rfl rfl fun a E=>sp 1 E rfl fun a E=>xp 1 E rfl fun a E=>bd hm fun e c hm=>xk2 E rfl (cf_ 320) (K1 H c) fun w H a E=>pr 1 E rfl fun a E=>nx<|pr 1 E rfl fun a E=>bd hm fun f d hm=>xk2 E rfl (cf_ 320) (K1 H d) fun w H a E=>pn 1 E rfl fun a E=>wp_seq<|sq<|pn 1 E rfl fun a E=>wif E hm rfl (fun hm=>?_) fun hm=>?_
 ·refine wp_seq<|sq<|pn 1 E rfl fun a E=>wif E hm rfl (fun hm=>?_) fun hm=>?_
  ·refine sq<|pn 1 E rfl fun a E=>wp_ret<|aG<|aG<|o1 E rfl<|?_
   cases hm
   exact ⟨rfl,H.reads Y0⟩
  ·refine wp_skip<|aA<|sq<|pn 1 E rfl fun a E=>wp_ret<|aG<|o1 E rfl<|?_
   cases hm
   exact ⟨rfl,H.reads Y0⟩
 ·refine wp_skip<|aA<|wp_seq<|sq<|pn 1 E rfl fun a E=>wif E hm rfl (fun hm=>?_) fun hm=>?_
  ·refine sq<|pn 1 E rfl fun a E=>wp_ret<|aG<|o1 E rfl<|?_
   cases hm
   exact ⟨rfl,H.reads Y0⟩
  ·refine wp_skip<|aA<|wp_seq<|sq<|pn 3 E rfl fun a E=>wif E hm rfl (fun hm=>?_) fun hm=>?_
   ·refine sq<|pn 1 E rfl fun a E=>wp_ret<|aG<|o1 E rfl<|?_
    cases hm
    exact ⟨rfl,H.reads Y0⟩
   ·refine wp_skip<|aA<|wp_seq<|sq<|pn 3 E rfl fun a E=>wif E hm rfl (fun hm=>?_) fun hm=>?_
    ·refine sq<|pn 1 E rfl fun a E=>wp_ret<|aG<|o1 E rfl<|?_
     cases hm
     exact ⟨rfl,H.reads Y0⟩
    ·refine wp_skip<|aA<|sq<|pn 1 E rfl fun a E=>wp_ret<|o1 E rfl<|?_
     cases hm
     exact ⟨rfl,H.reads Y0⟩

def L1(x1:aH)(x3:Int):Option Int:=
  (yK x1.Num x3).bind fun b=>some (b)
theorem Im{x1:aH}{c:Value}{x3:Int}(H:Sep w (Fo) rs){r:Int}(hm:L1 x1 x3=some r) :
    Cf 196 [.agg (oE x1 c).toArray,.int .i64 x3] w fun v w'=>.int .i64 r=v∧Sep w' (Fo) (rs):=by
 unfold L1 at hm
 refine ent Tryz.func196 rfl Tryz.ntmps196 rfl rfl fun a E=>sq<|bx E H rfl fun d w a H E=>pr 1 E rfl fun a E=>xp 1 E rfl fun a E=>lb2 E H 0 U2 rfl fun a E=>pr 1 E rfl fun a E=>bd hm fun e b hm=>xk2 E rfl (cf_ 270) (Bb H b) fun w H a E=>pn 1 E rfl fun a E=>wp_ret<|o1 E rfl<|have H:=H.drop 0;?_
 cases hm
 exact ⟨rfl,H.reads Y0⟩

def cM(c:List aH)(x3:Int):Nat→Int→Int→Option a7
  | 0,_,_=>none
  | e+1,b,d=>
    if (decide (b < d))=true then ((idx c (IntKind.i64.wrap (wT .u64 (IntKind.u64.wrap (IntKind.i64.wrap (b+d))) 1))).bind fun j=>(L1 j x3).bind fun f=>if (decide (f < 0))=true then (cM c x3 e (IntKind.i64.wrap ((IntKind.i64.wrap (wT .u64 (IntKind.u64.wrap (IntKind.i64.wrap (b+d))) 1))+1)) d) else (cM c x3 e b (IntKind.i64.wrap (wT .u64 (IntKind.u64.wrap (IntKind.i64.wrap (b+d))) 1)))) else (if (decide (b < (c.length:Int)))=true then ((idx c b).bind fun g=>(L1 g x3).bind fun i=>some (b,i == 0)) else (some (b,false)))
def eT(b:List aH)(x3:Int):Option a7:=
  cM b x3 (((b.length:Int) - 0:Int).toNat+1) 0 (b.length:Int)
theorem rM{j:Value}{e:List aH}{x3:Int}(H:Sep w (Row 126 aN j e::Fo) rs){r:Int×Bool}(hm:eT e x3=some r) :
    Cf 195 [j,.int .i64 x3,.func (.func 196) #[] #[]] w fun v w'=>.tuple #[.int .i64 r.1,.bool r.2]=v∧Sep w' (Row 126 aN j e::Fo) (rs):=by
 unfold eT at hm
 refine ent Tryz.func195 rfl Tryz.ntmps195 rfl rfl fun a E=>sp 2 E rfl fun a E=>xp 1 E rfl fun a E=>sv2 E rfl (iJ (i:=0) E H rfl rfl rfl U71) fun a E=>pr 1 E rfl fun a E=>xp 3 E rfl fun a E=>nt<|wp_seq<|wp_block<|bD (fun c a w=>∃ t u,Jn 49 a w [(0,j),(1,.int .i64 x3),(2,.func (.func 196) #[] #[]),(8,.int .i64 (e.length:Int)),(9,.int .i64 t),(10,.int .i64 u)] (Row 126 aN j e::Fo) rs (cM e x3 c t u=some r)) (((e.length:Int) - 0:Int).toNat+1) ?_ ?_
 ·exact X3 ⟨E.to rfl,H,Y0,hm⟩
 ·clear E H hm
  rintro c a w ⟨t,u,A,E,H,g,hm⟩
  cases c with
  | zero=>exact (aZ hm rfl).elim
  | succ c=>
   unfold cM at hm
   refine wp_seq<|sq<|pn 3 E rfl fun a E=>wif E hm rfl (fun hm=>?_) fun hm=>?_
   ·refine wp_skip<|aA<|wp_block<|sp 4 E rfl fun a E=>sv2 E rfl (Gv E rfl rfl rfl (by decide)) fun a E=>pr 2 E rfl fun a E=>xp 3 E rfl fun a E=>bd hm fun z l hm=>?_
    obtain ⟨B,C,m⟩:=H.rowformNE (i:=0) rfl l
    refine sv2 E rfl (cX (d:=aN) E m rfl rfl rfl rfl U71 G2 l) fun a E=>Hf (i:=0) (k:=0) (s:=3) E H m (wn rfl) rfl rfl rfl rfl rfl l rfl Sa rfl G2 fun D a H E=>?_
    obtain ⟨_,hcs⟩:=H.rd (.head _)
    obtain ⟨o,rfl,-⟩:=dU hcs
    clear hcs
    refine have H:=H.derive1 m0 (rSl aT o z.Events) (fun ok h=>iX h);?_
    replace E:Env 49 a ((28,.agg (oE z o).toArray)::_):=E
    refine pr 1 E rfl fun a E=>bd hm fun F x hm=>bM E (wn rfl) rfl rfl (bO E rfl rfl rfl ((cf_ 196) _)) (Im H x)<|?_
    rintro _ w ⟨rfl,H⟩ a E
    refine pn 1 E rfl fun a E=>wif E hm rfl (fun hm=>?_) fun hm=>?_
    ·exact wp_region_lit<|pr 3 E rfl fun a E=>wpList_nil<|bH<|aA<|⟨c,Nat.lt_succ_self c,X3 ⟨E.to rfl,H,(Y2 g),hm⟩⟩
    ·exact wp_region_lit<|pr 2 E rfl fun a E=>wpList_nil<|bH<|aA<|⟨c,Nat.lt_succ_self c,X3 ⟨E.to rfl,H,(Y2 g),hm⟩⟩
   ·refine wp_exit<|aL<|aL<|cH<|aA<|sp 5 E rfl fun a E=>cs hm (fun b hm=>?_) fun b hm=>?_
    ·refine pk 3 E (kc 39 rfl b) rfl fun a E=>bd hm fun p f hm=>?_
     obtain ⟨G,I,n⟩:=H.rowformNE (i:=0) rfl f
     refine gv 39 E b rfl (cX (d:=aN) E n rfl rfl rfl rfl U71 G2 f) fun a E=>Hf (i:=0) (k:=0) (s:=3) E H n (ws' (d:=39) E rfl rfl rfl rfl b) rfl rfl rfl rfl rfl f rfl Sa rfl G2 fun J a H E=>?_
     obtain ⟨_,hcs⟩:=H.rd (.head _)
     obtain ⟨q,rfl,-⟩:=dU hcs
     clear hcs
     refine have H:=H.derive1 m0 (rSl aT q p.Events) (fun ok h=>iX h);?_
     replace E:Env 49 a ((44,.agg (oE p q).toArray)::_):=E
     refine pk 1 E (kc 39 rfl b) rfl fun a E=>bd hm fun K y hm=>bM E (ws' (d:=39) E rfl rfl rfl rfl b) rfl rfl (bO E rfl rfl rfl ((cf_ 196) _)) (Im H y)<|?_
     rintro _ w ⟨rfl,H⟩ a E
     refine pk 4 E (kc 39 rfl b) rfl fun a E=>nt<|wp_ret<|fW E rfl rfl rfl<|?_
     cases hm
     exact ⟨rfl,H.reads (Y2 g)⟩
    ·refine pk 11 E (kc 39 rfl b) rfl fun a E=>nt<|wp_ret<|fW E rfl rfl rfl<|?_
     cases hm
     exact ⟨rfl,H.reads g⟩

def yX(c:aP)(d:aH)(b:iA):Option Z9:=
  if c.Deep=true then (some (decide ((d.Events.length:Int) < 7),b)) else (some (false,b))
def yY(c:aP)(b:aH)(d:Int)(e:ByteArray)(f:List aH)(g:Int)(i:Bool):Option Z9:=
  if i=true then ((ck ((({ b with Count:=IntKind.i64.wrap (b.Count+1) }:aH).Events).length ≤ LIM)).bind fun j=>(ck ((({ b with Count:=IntKind.i64.wrap (b.Count+1) }:aH).Events).length+([(⟨IntKind.i64.wrap (b.Count+1),d,e,c.Num⟩:cE)]:List cE).length ≤ LIM)).bind fun k=>yX c b ((f.set g.toNat ({ b with Count:=IntKind.i64.wrap (b.Count+1) }:aH)).set g.toNat ({ ({ b with Count:=IntKind.i64.wrap (b.Count+1) }:aH) with Events:=(({ b with Count:=IntKind.i64.wrap (b.Count+1) }:aH).Events) ++ ([(⟨IntKind.i64.wrap (b.Count+1),d,e,c.Num⟩:cE)]:List cE) }:aH))) else (yX c b f)
def yZ(c:aP)(b:aH)(f:List aH)(g:Int)(d:Int)(e:ByteArray):Option Z9:=
  if (decide ((b.Events.length:Int) < 8))=true then (yY c b d e f g (decide (b.Count < 281474976710656))) else (yY c b d e f g false)
def M8(d:List aH)(e:Int)(c:aH)(b:aP)(f:Int)(g:ByteArray):Option Z9:=
  if ((c.Events.length:Int) == 7)=true then (yZ b c d e 4 b.Path) else (yZ b c d e f g)
theorem Nx{m:Value}{B S T:Nat}{t:List aH}{s C:Int}{b:aH}{c:aP}{D:ByteArray}(j:idx t s=some b)(l:m= .slice (some ⟨B,0,none⟩) S T)(H:Sep w (Row 126 aN m t::Fo) rs){r:Bool×iA}(hm:M8 t s b c C D=some r) :
    Cf 335 [.pointer (some ⟨B,s.toNat * 3,none⟩),.agg (hP c).toArray,.int .i64 C,.string D] w fun v w'=>.bool r.1=v∧Sep w' (Row 126 aN m r.2::Fo) (rs):=by
 unfold M8 at hm
 refine ent Tryz.func335 rfl Tryz.ntmps335 rfl rfl fun a E=>sq<|bx E H rfl fun o w a H E=>pr 1 E rfl fun a E=>xp 3 E rfl fun a E=>H9 (i:=1) (k:=2) E H l (wn rfl) rfl rfl rfl rfl rfl j rfl U44 rfl fun Y a H E=>?_
 obtain ⟨_,hcs⟩:=H.rd (.head _)
 obtain ⟨K,rfl,-⟩:=dU hcs
 clear hcs
 refine have H:=H.derive1 m0 (rSl aT K b.Events) (fun ok h=>iX h);?_
 replace E:Env 65 a ((14,K)::_):=E
 refine lS E H m0 U44 rfl fun a E=>pn 1 E rfl fun a E=>wp_seq<|dz [0,0,0,0,0,0,0,0,0,0,1,2] [0,1] H fun w W0 hI H=>fn 3 E rfl fun a E=>fv E rfl (fun w hW=>Tq (d:=aN) (k:=1) (u:=.int .i64 b.Count) E l j mm1 (fun w ok cs h=>by obtain ⟨m,rfl,-⟩:=dU h;rfl) rfl rfl U2 rfl hW) fun a E=>fn 4 E rfl fun a E=>fb2 E m0 U2 rfl fun a E=>fv E rfl (fun w hW=>(bP E rfl (E.evs rfl) (v:=.agg #[.int .i64 (IntKind.i64.wrap (b.Count+1)),.int .i64 C,.string D,.int .i64 c.Num]) (by kernel_rfl))) fun a E=>bI rfl<|al2 E H rfl Yf fun p w a H E=>nt<|⟨sx H [1,2] rfl,bL rfl<|ss 0 E H rfl Hu rfl fun w H=>nt<|aY<|?_⟩
 clear hI
 refine aA<|aK (fun a w=>∃ f g,Jn 65 a w [(0,.pointer (some ⟨B,s.toNat * 3,none⟩)),(5,pt o 0),(9,.int .i64 (b.Events.length:Int)),(10,pt p 0)] (Row 126 aN m t::Blk o 35 (hP c)::Blk p 131 [.int .i64 (IntKind.i64.wrap (b.Count+1)),.int .i64 f,.string g,.int .i64 c.Num]::Fo) rs (yZ c b t s f g=some r)) ?_ ?_
 ·refine sq<|pn 2 E rfl fun a E=>wif E hm rfl (fun hm=>?_) fun hm=>?_
  ·refine dz [0,0,0,1,2,2] [1] H fun w W0 hI H=>fn 1 E rfl fun a E=>fb2 E m0 U9 rfl fun a E=>fn 1 E rfl fun a E=>bI rfl<|ss 0 E H rfl sz3 rfl fun w H=>nt<|⟨sx H [1] rfl,bL rfl<|pn 1 E rfl fun a E=>bL rfl<|ss 0 E H rfl sz9 rfl fun w H=>nt<|aY<|?_⟩
   clear hI
   exact aA<|have H:=H.frs [0,1,2] rfl;X3 ⟨E.to rfl,H,(Y2 Y0),hm⟩
  ·exact wp_skip<|aA<|have H:=H.frs [0,1,2] rfl;X3 ⟨E.to rfl,H,(Y2 Y0),hm⟩
 ·clear E H hm
  rintro a w ⟨f,g,U,E,H,F,hm⟩
  unfold yZ at hm
  refine aK (fun a w=>∃ G,Jn 65 a w [(5,pt o 0),(9,.int .i64 (b.Events.length:Int))] (Blk o 35 (hP c)::Row 126 aN m G::Fo) rs (yX c b G=some r)) ?_ ?_
  ·refine aK (fun a w=>∃ I,Jn 65 a w [(0,.pointer (some ⟨B,s.toNat * 3,none⟩)),(5,pt o 0),(9,.int .i64 (b.Events.length:Int)),(10,pt p 0),(40,.bool I)] (Row 126 aN m t::Blk o 35 (hP c)::Blk p 131 [.int .i64 (IntKind.i64.wrap (b.Count+1)),.int .i64 f,.string g,.int .i64 c.Num]::Fo) rs (yY c b f g t s I=some r)) ?_ ?_
   ·refine wp_region_lit<|pr 3 E rfl fun a E=>cs hm (fun n hm=>?_) fun n hm=>?_
    ·refine pk 3 E (kc 34 rfl n) rfl fun a E=>H9 (i:=0) (k:=1) E H l (ws' (d:=34) E rfl rfl rfl rfl n) rfl rfl rfl rfl rfl j rfl U2 rfl fun Z a H E=>?_
     obtain ⟨_,hcs⟩:=H.rd (.head _)
     obtain ⟨N,rfl,-⟩:=dU hcs
     clear hcs
     refine have H:=H.derive1 m0 (rSl aT N b.Events) (fun ok h=>iX h);?_
     replace E:Env 65 a ((38,.int .i64 b.Count)::_):=E
     exact pk 2 E (kc 34 rfl n) rfl fun a E=>nt<|⟨_,_,E.to rfl,H,(Y2 F),hm⟩
    ·exact pk 6 E (kc 34 rfl n) rfl fun a E=>nt<|⟨_,_,E.to rfl,H,F,hm⟩
   ·clear E H hm
    rintro a w ⟨I,V,E,H,q,hm⟩
    unfold yY at hm
    refine wif E hm rfl (fun hm=>?_) fun hm=>?_
    ·refine sp 3 E rfl fun a E=>H9 (i:=0) (k:=1) E H l (wn rfl) rfl rfl rfl rfl rfl j rfl U2 rfl fun b0 a H E=>?_
     obtain ⟨_,hcs⟩:=H.rd (.head _)
     obtain ⟨O,rfl,-⟩:=dU hcs
     clear hcs
     refine have H:=H.derive1 m0 (rSl aT O b.Events) (fun ok h=>iX h);?_
     replace E:Env 65 a ((44,.int .i64 b.Count)::_):=E
     refine pr 3 E rfl fun a E=>K7 (i:=0) (k:=1) (us:=[.int .i64 (IntKind.i64.wrap (b.Count+1))]) (y':=({ b with Count:=IntKind.i64.wrap (b.Count+1) }:aH)) E H l (wn rfl) rfl rfl rfl rfl rfl rfl j rfl sz2 rfl (fun ok cs hr h=>by obtain ⟨m,rfl,g1⟩:=dU h;exact tH (x:=({ b with Count:=IntKind.i64.wrap (b.Count+1) }:aH)) g1) fun w H=>nt<|bk hm fun y hm=>bk hm fun z hm=>?_
     have hI:dZ [Blk p 131 [.int .i64 (IntKind.i64.wrap (b.Count+1)),.int .i64 f,.string g,.int .i64 c.Num]] [] { w with drawn:=w.drawn+1 }:=⟨_,_,H.kept (Kp.drawn _ w _),(aM mm2 (bC)),(bG)⟩
     refine wV _ (.go 0 0 (.go 1 0 (.go 2 0 (.go 3 0 (.go 6 0 (.alt 4 (.alt 5 (.go 7 1 (.go 8 1 (.go 9 2 (.go 10 2 (.go 11 2 .nil))))) 7 (.go 5 1 (.go 8 1 (.go 9 2 (.go 10 2 (.go 11 2 .nil)))))) 7 (.go 4 1 (.go 5 1 (.go 8 1 (.go 9 2 (.go 10 2 (.go 11 2 .nil)))))))))))) [9,10,11] xZ (by kernel_rfl) (fun _ _ _ h=>False.elim h.2) hI<|have H:=H.kept (Kp.drawn _ w (w.drawn+1));?_
     generalize ({ w with drawn:=w.drawn+1 }:World)=w at H hI ⊢
     replace hI:∃ W,dZ [Blk p 131 [.int .i64 (IntKind.i64.wrap (b.Count+1)),.int .i64 f,.string g,.int .i64 c.Num]] [] W:=⟨_,hI⟩
     obtain ⟨W0,hI⟩:=hI
     refine om E rfl fun a E=>om E rfl fun a E=>ov E rfl (fun w hW=>(K4 E rfl rfl)) fun a E=>ov E rfl (fun w hW=>yC E rfl rfl (v:=.pointer (some ⟨B,s.toNat * 3+2,none⟩)) (Qn _ _)) fun a E=>ov E rfl (fun w hW=>pE E rfl rfl (Bn (us:=[.int .i64 (IntKind.i64.wrap (b.Count+1)),.int .i64 f,.string g,.int .i64 c.Num]) m0 rfl DI rfl Hu w hW)) fun a E=>uO rfl rfl ?_ ?_
     ·refine H9 (i:=0) (k:=2) E H l (wn rfl) rfl rfl rfl rfl rfl (wY j) rfl U44 rfl fun b1 a H E=>?_
      obtain ⟨_,hcs⟩:=H.rd (.head _)
      obtain ⟨L,rfl,-⟩:=dU hcs
      clear hcs
      refine have H:=H.derive1 m0 (rSl aT L (({ b with Count:=IntKind.i64.wrap (b.Count+1) }:aH).Events)) (fun ok h=>iX h);?_
      replace E:Env 65 a ((52,L)::_):=E
      refine nt<|⟨sx H [2] rfl,uO rfl rfl ?_ ?_⟩
      ·refine xc2 E rfl (cf_ 76) (jN H m0 y) fun b2 w H a E=>nt<|⟨sx H [3] rfl,dK rfl<|iV (e:=131) (d:=aT) (cs:=[.int .i64 (IntKind.i64.wrap (b.Count+1)),.int .i64 f,.string g,.int .i64 c.Num]) (xs:=[(⟨IntKind.i64.wrap (b.Count+1),f,g,c.Num⟩:cE)]) E H (wn rfl) rfl rfl rfl (E.evs rfl) (by kernel_rfl) rfl (fun ok hr=>(Rows.single (d:=aT) (cs:=[.int .i64 (IntKind.i64.wrap (b.Count+1)),.int .i64 f,.string g,.int .i64 c.Num]) (x:=(⟨IntKind.i64.wrap (b.Count+1),f,g,c.Num⟩:cE)) a6)) fun b3 w a H E=>nt<|⟨sx H [3] rfl,dK rfl<|cO (i:=0) E H (wn rfl) rfl rfl rfl rfl rfl rfl (fA m0) U44 Hv rfl z rfl fun b4 w a H E=>nt<|⟨sx H [3] rfl,eL rfl<|pn 1 E rfl fun a E=>eL rfl<|pn 1 E rfl fun a E=>eL rfl<|?_⟩⟩⟩
       obtain ⟨q70,P,rfl⟩:=H.rowform (i:=0) rfl
       refine have H:=H.thaw (i:=0) rfl;K7 (i:=0) (k:=2) (us:=[(.slice q70 ((({ b with Count:=IntKind.i64.wrap (b.Count+1) }:aH).Events) ++ ([(⟨IntKind.i64.wrap (b.Count+1),f,g,c.Num⟩:cE)]:List cE)).length P)]) (y':=({ ({ b with Count:=IntKind.i64.wrap (b.Count+1) }:aH) with Events:=(({ b with Count:=IntKind.i64.wrap (b.Count+1) }:aH).Events) ++ ([(⟨IntKind.i64.wrap (b.Count+1),f,g,c.Num⟩:cE)]:List cE) }:aH)) E H l (wn rfl) rfl rfl rfl rfl rfl rfl (wY j) rfl Wq rfl (fun ok cs hr h=>by obtain ⟨m,rfl,g1⟩:=dU h;exact tH (x:=({ ({ b with Count:=IntKind.i64.wrap (b.Count+1) }:aH) with Events:=(({ b with Count:=IntKind.i64.wrap (b.Count+1) }:aH).Events) ++ ([(⟨IntKind.i64.wrap (b.Count+1),f,g,c.Num⟩:cE)]:List cE) }:aH)) (hr _ m0)) fun w H=>nt<|iK<|?_
       clear hI
       exact aA<|have H:=H.drop 2;have H:=H.frs [0,1] rfl;⟨_,_,E.to rfl,H,(Y6 q),hm⟩
      ·refine iV (e:=131) (d:=aT) (cs:=[.int .i64 (IntKind.i64.wrap (b.Count+1)),.int .i64 f,.string g,.int .i64 c.Num]) (xs:=[(⟨IntKind.i64.wrap (b.Count+1),f,g,c.Num⟩:cE)]) E H (wn rfl) rfl rfl rfl (E.evs rfl) (by kernel_rfl) rfl (fun ok hr=>(Rows.single (d:=aT) (cs:=[.int .i64 (IntKind.i64.wrap (b.Count+1)),.int .i64 f,.string g,.int .i64 c.Num]) (x:=(⟨IntKind.i64.wrap (b.Count+1),f,g,c.Num⟩:cE)) a6)) fun b5 w a H E=>nt<|⟨sx H [2] rfl,dK rfl<|xc2 E rfl (cf_ 76) (jN H mm1 y) fun b6 w H a E=>nt<|⟨sx H [3] rfl,dK rfl<|cO (i:=0) E H (wn rfl) rfl rfl rfl rfl rfl rfl (fA m0) U44 Hv rfl z rfl fun b7 w a H E=>nt<|⟨sx H [3] rfl,eL rfl<|pn 1 E rfl fun a E=>eL rfl<|pn 1 E rfl fun a E=>eL rfl<|?_⟩⟩⟩
       obtain ⟨q79,Q,rfl⟩:=H.rowform (i:=0) rfl
       refine have H:=H.thaw (i:=0) rfl;K7 (i:=0) (k:=2) (us:=[(.slice q79 ((({ b with Count:=IntKind.i64.wrap (b.Count+1) }:aH).Events) ++ ([(⟨IntKind.i64.wrap (b.Count+1),f,g,c.Num⟩:cE)]:List cE)).length Q)]) (y':=({ ({ b with Count:=IntKind.i64.wrap (b.Count+1) }:aH) with Events:=(({ b with Count:=IntKind.i64.wrap (b.Count+1) }:aH).Events) ++ ([(⟨IntKind.i64.wrap (b.Count+1),f,g,c.Num⟩:cE)]:List cE) }:aH)) E H l (wn rfl) rfl rfl rfl rfl rfl rfl (wY j) rfl Wq rfl (fun ok cs hr h=>by obtain ⟨m,rfl,g1⟩:=dU h;exact tH (x:=({ ({ b with Count:=IntKind.i64.wrap (b.Count+1) }:aH) with Events:=(({ b with Count:=IntKind.i64.wrap (b.Count+1) }:aH).Events) ++ ([(⟨IntKind.i64.wrap (b.Count+1),f,g,c.Num⟩:cE)]:List cE) }:aH)) (hr _ m0)) fun w H=>nt<|iK<|?_
       clear hI
       exact aA<|have H:=H.drop 2;have H:=H.frs [0,1] rfl;⟨_,_,E.to rfl,H,(Y6 q),hm⟩
     ·refine iV (e:=131) (d:=aT) (cs:=[.int .i64 (IntKind.i64.wrap (b.Count+1)),.int .i64 f,.string g,.int .i64 c.Num]) (xs:=[(⟨IntKind.i64.wrap (b.Count+1),f,g,c.Num⟩:cE)]) E H (wn rfl) rfl rfl rfl (E.evs rfl) (by kernel_rfl) rfl (fun ok hr=>(Rows.single (d:=aT) (cs:=[.int .i64 (IntKind.i64.wrap (b.Count+1)),.int .i64 f,.string g,.int .i64 c.Num]) (x:=(⟨IntKind.i64.wrap (b.Count+1),f,g,c.Num⟩:cE)) a6)) fun b8 w a H E=>nt<|⟨sx H [2] rfl,dK rfl<|H9 (i:=0) (k:=2) E H l (wn rfl) rfl rfl rfl rfl rfl (wY j) rfl U44 rfl fun b9 a H E=>?_⟩
      obtain ⟨_,hcs⟩:=H.rd (.head _)
      obtain ⟨M,rfl,-⟩:=dU hcs
      clear hcs
      refine have H:=H.derive1 m0 (rSl aT M (({ b with Count:=IntKind.i64.wrap (b.Count+1) }:aH).Events)) (fun ok h=>iX h);?_
      replace E:Env 65 a ((52,M)::_):=E
      refine nt<|⟨sx H [2] rfl,dK rfl<|xc2 E rfl (cf_ 76) (jN H m0 y) fun c0 w H a E=>nt<|⟨sx H [3] rfl,dK rfl<|cO (i:=0) E H (wn rfl) rfl rfl rfl rfl rfl rfl (fA mm2) U44 Hv rfl z rfl fun c1 w a H E=>nt<|⟨sx H [3] rfl,eL rfl<|pn 1 E rfl fun a E=>eL rfl<|pn 1 E rfl fun a E=>eL rfl<|?_⟩⟩⟩
      obtain ⟨q90,R,rfl⟩:=H.rowform (i:=0) rfl
      refine have H:=H.thaw (i:=0) rfl;K7 (i:=0) (k:=2) (us:=[(.slice q90 ((({ b with Count:=IntKind.i64.wrap (b.Count+1) }:aH).Events) ++ ([(⟨IntKind.i64.wrap (b.Count+1),f,g,c.Num⟩:cE)]:List cE)).length R)]) (y':=({ ({ b with Count:=IntKind.i64.wrap (b.Count+1) }:aH) with Events:=(({ b with Count:=IntKind.i64.wrap (b.Count+1) }:aH).Events) ++ ([(⟨IntKind.i64.wrap (b.Count+1),f,g,c.Num⟩:cE)]:List cE) }:aH)) E H l (wn rfl) rfl rfl rfl rfl rfl rfl (wY j) rfl Wq rfl (fun ok cs hr h=>by obtain ⟨m,rfl,g1⟩:=dU h;exact tH (x:=({ ({ b with Count:=IntKind.i64.wrap (b.Count+1) }:aH) with Events:=(({ b with Count:=IntKind.i64.wrap (b.Count+1) }:aH).Events) ++ ([(⟨IntKind.i64.wrap (b.Count+1),f,g,c.Num⟩:cE)]:List cE) }:aH)) (hr _ m0)) fun w H=>nt<|iK<|?_
      clear hI
      exact aA<|have H:=H.drop 2;have H:=H.frs [0,1] rfl;⟨_,_,E.to rfl,H,(Y6 q),hm⟩
    ·exact wp_skip<|aA<|have H:=H.drop 2;have H:=H.frs [0,1] rfl;⟨_,_,E.to rfl,H,q,hm⟩
  ·clear E H hm
   rintro a w ⟨G,X,E,H,J,hm⟩
   unfold yX at hm
   refine sp 1 E rfl fun a E=>lb2 E H 0 U4 rfl fun a E=>pr 1 E rfl fun a E=>cs hm (fun A hm=>?_) fun A hm=>?_
   ·refine pk 4 E (kc 61 rfl A) rfl fun a E=>nt<|wp_ret<|o1 E rfl<|have H:=H.drop 0;?_
    cases hm
    exact ⟨rfl,H.reads J⟩
   ·refine pk 4 E (kc 61 rfl A) rfl fun a E=>nt<|wp_ret<|o1 E rfl<|have H:=H.drop 0;?_
    cases hm
    exact ⟨rfl,H.reads J⟩

def vT(b:Int×Bool)(x1:aP)(e:Int)(g:ByteArray)(c:iA):Option Z9:=
  (idx c b.1).bind fun f=>(M8 c b.1 f x1 e g).bind fun d=>some (!d.1,d.2)
def sP(x1:aP)(d:Int)(e:ByteArray)(c:List aH)(f:Bool):Option Z9:=
  if f=true then (some (false,c)) else ((eT c x1.Session).bind fun b=>if (!b.2)=true then ((ck (0 ≤ b.1∧b.1 ≤ c.length∧c.length ≤ 1000000)).bind fun g=>vT b x1 d e (c.take b.1.toNat ++ (⟨x1.Session,0,[]⟩:aH)::c.drop b.1.toNat)) else (vT b x1 d e c))
def r4(x1:aP)(b:ByteArray)(d:List aH)(c:Int):Option Z9:=
  if (!(sEq x1.Path b))=true then (if (!x1.Deep)=true then (sP x1 c b d true) else ((zO b x1.Path).bind fun e=>sP x1 c b d (!e))) else (sP x1 c b d false)
theorem V9{x1:aP}{g j k:Nat}{l:ByteArray}{y o:Value}{z:List aH}{f:Int}(H:Sep w (Blk g 9 [.string l]::Blk j 73 [o,y]::Row 126 aN y z::Blk k 3 [.int .i64 f]::Fo) rs){r:Bool×iA}(hm:r4 x1 l z f=some r) :
    Cf 334 [.agg (hP x1).toArray,pt g 0,pt j 0,pt k 0] w fun v w'=>∃ I,.bool r.1=v∧Sep w' (Blk g 9 [.string l]::Blk j 73 [o,I]::Blk k 3 [.int .i64 f]::Row 126 aN I r.2::Fo) (rs):=by
 unfold r4 at hm
 refine ent Tryz.func334 rfl Tryz.ntmps334 rfl rfl fun a E=>sq<|bx E H rfl fun p w a H E=>pn 1 E rfl fun a E=>wp_seq<|aK (fun a w=>∃ q,Jn 52 a w [(1,pt g 0),(2,pt j 0),(3,pt k 0),(4,pt p 0),(23,.bool q)] (Blk g 9 [.string l]::Blk j 73 [o,y]::Blk k 3 [.int .i64 f]::Blk p 35 (hP x1)::Row 126 aN y z::Fo) rs (sP x1 f l z q=some r)) ?_ ?_
 ·refine wp_region_lit<|pr 1 E rfl fun a E=>lb2 E H 0 U9 rfl fun a E=>lb2 E H 1 U9 rfl fun a E=>pr 2 E rfl fun a E=>cs hm (fun b hm=>?_) fun b hm=>?_
  ·refine pk 1 E (kc 12 rfl b) rfl fun a E=>gl 12 E H 0 b U4 rfl fun a E=>pk 2 E (kc 12 rfl b) rfl fun a E=>cs hm (fun c hm=>?_) fun c hm=>?_
   ·exact pk 7 E (kc' (kc 16 rfl c) 12 rfl b) rfl fun a E=>nt<|have H:=H.frs [3,1,4,4,4] rfl;⟨_,_,E.to rfl,H,Y0,hm⟩
   ·refine gl 16 E H 1 c U9 rfl fun a E=>pk 1 E (kc 16 rfl c) rfl fun a E=>gl 16 E H 0 c U9 rfl fun a E=>bd hm fun L B hm=>gc 16 E c rfl (cf_ 65) (Cg H B)<|?_
    rintro _ w ⟨rfl,H⟩ a E
    exact pk 3 E (kc' (kc 16 rfl c) 12 rfl b) rfl fun a E=>nt<|have H:=H.frs [3,1,4,4,4] rfl;⟨_,_,E.to rfl,H,Y0,hm⟩
  ·exact pk 11 E (kc 12 rfl b) rfl fun a E=>nt<|have H:=H.frs [3,1,4,4,4] rfl;⟨_,_,E.to rfl,H,Y0,hm⟩
 ·clear E H hm
  rintro a w ⟨q,J,E,H,m,hm⟩
  unfold sP at hm
  refine wif E hm rfl (fun hm=>?_) fun hm=>?_
  ·refine sq<|pn 1 E rfl fun a E=>wp_ret<|aG<|o1 E rfl<|have H:=H.drop 3;?_
   cases hm
   exact ⟨_,rfl,H.reads m⟩
  ·refine wp_skip<|aA<|sp 1 E rfl fun a E=>lb2 E H 1 U71 rfl fun a E=>pr 1 E rfl fun a E=>lb2 E H 3 U2 rfl fun a E=>have H:=H.frs [3,3,3,3,4] rfl;bd hm fun A C hm=>xk2 E rfl (cf_ 195) (rM H C) fun w H a E=>pn 5 E rfl fun a E=>aK (fun a w=>∃ s t,Jn 52 a w [(1,pt g 0),(2,pt j 0),(3,pt k 0),(4,pt p 0),(6,.int .i64 A.1)] (Blk g 9 [.string l]::Blk j 73 [o,s]::Blk k 3 [.int .i64 f]::Blk p 35 (hP x1)::Row 126 aN s t::Fo) rs (vT A x1 f l t=some r)) ?_ ?_
   ·refine sq<|pn 2 E rfl fun a E=>wif E hm rfl (fun hm=>?_) fun hm=>?_
    ·refine wp_region_lit<|pr 1 E rfl fun a E=>lb2 E H 2 U71 rfl fun a E=>pr 2 E rfl fun a E=>lb2 E H 4 U2 rfl fun a E=>sv2 E rfl (bP E rfl (E.evs rfl) (v:=.agg #[.int .i64 x1.Session,.int .i64 0,nS]) (by kernel_rfl)) fun a E=>gU (e:=126) (d:=aN) (cs:=[.int .i64 x1.Session,.int .i64 0,nS]) (xs:=[(⟨x1.Session,0,[]⟩:aH)]) E H (wn rfl) rfl rfl rfl (E.evs rfl) (by kernel_rfl) rfl rfl (fun ok hr=>(Rows.single (d:=aN) (cs:=[.int .i64 x1.Session,.int .i64 0,nS]) (x:=(⟨x1.Session,0,[]⟩:aH)) (tH (Sl.nil _ _ _)))) fun M w a H E=>bk hm fun D hm=>xc2 E rfl (cf_ 197) (Se.insert_a (ix:=1) (iu:=0) H rfl rfl (by decide) D) fun N w H a E=>pr 1 E rfl fun a E=>?_
     obtain ⟨q33,O,rfl⟩:=H.rowform (i:=1) rfl
     exact ss 3 E H rfl DK rfl fun w H=>nt<|have H:=H.drop 0;have H:=H.frs [0,4,4,4,4] rfl;X3 ⟨E.to rfl,H,m,hm⟩
    ·exact wp_skip<|aA<|have H:=H.frs [0,4,4,4,4] rfl;X3 ⟨E.to rfl,H,m,hm⟩
   ·clear E H hm
    rintro a w ⟨s,t,K,E,H,F,hm⟩
    unfold vT at hm
    refine wp_seq<|dz [0,0,0,0,0,0,0,1,0,2] [0,1,2,3] H fun w W0 hI H=>fn 1 E rfl fun a E=>fb2 E mm1 U71 rfl fun a E=>fn 1 E rfl fun a E=>bd hm fun P n hm=>?_
    obtain ⟨Q,R,u⟩:=H.rowformNE (i:=4) rfl n
    refine fv E rfl (fun w hW=>cX (d:=aN) E u rfl rfl rfl rfl U71 G2 n) fun a E=>fbn E (hP x1) rfl (wn rfl) rfl rfl rfl rfl mm3 rfl U35 rfl yD fun a E=>fb2 E mm2 U3 rfl fun a E=>fb2 E m0 U9 rfl fun a E=>bI rfl<|have H:=H.frs [3,3,3,3,4] rfl;bd hm fun S G hm=>xk2 E rfl (cf_ 335) (Nx n u H G) fun w H a E=>nt<|⟨sx H [1,2,3,4] rfl,fn 1 E rfl fun a E=>bL rfl<|pn 1 E rfl fun a E=>aY<|?_⟩
    clear hI
    refine aA<|wp_ret<|o1 E rfl<|have H:=H.drop 4;have H:=H.frs [0,3,3,3] rfl;?_
    cases hm
    exact ⟨_,rfl,H.reads F⟩

def eY(f:List aP)(g:ByteArray)(d:Int):Nat→Int→iA→Option (Int×iA)
  | 0,_,_=>none
  | j+1,b,e=>
    if (decide (b < (f.length:Int)))=true then ((idx f b).bind fun i=>(r4 i g e d).bind fun c=>if c.1=true then (some (b,c.2)) else (eY f g d j (IntKind.i64.wrap (b+1)) c.2)) else (some ((-1),e))
def jL(b:List aP)(d:ByteArray)(e:List aH)(c:Int):Option (Int×iA):=
  eY b d c (((b.length:Int) - 0:Int).toNat+1) 0 e
theorem xD{l y m:Value}{e:List aP}{n o b:Nat}{p:ByteArray}{z:List aH}{c:Int}(H:Sep w (Row 35 bB l e::Blk n 9 [.string p]::Blk o 73 [m,y]::Row 126 aN y z::Blk b 3 [.int .i64 c]::Fo) rs){r:Int×iA}(hm:jL e p z c=some r) :
    Cf 268 [l,.func (.func 334) #[] #[pt n 0,pt o 0,pt b 0]] w fun v w'=>∃ A,.int .i64 r.1=v∧Sep w' (Blk n 9 [.string p]::Blk o 73 [m,A]::Blk b 3 [.int .i64 c]::Row 35 bB l e::Row 126 aN A r.2::Fo) (rs):=by
 unfold jL at hm
 refine ent Tryz.func268 rfl Tryz.ntmps268 rfl rfl fun a E=>sq<|pn 1 E rfl fun a E=>wp_seq<|sp 1 E rfl fun a E=>sv2 E rfl (iJ (i:=0) E H rfl rfl rfl U70) fun a E=>pr 1 E rfl fun a E=>nt<|wp_block<|bD (fun k a w=>∃ q s t,Jn 19 a w [(0,l),(1,.func (.func 334) #[] #[pt n 0,pt o 0,pt b 0]),(7,.int .i64 (e.length:Int)),(8,.int .i64 s)] (Row 35 bB l e::Blk n 9 [.string p]::Blk o 73 [m,q]::Blk b 3 [.int .i64 c]::Row 126 aN q t::Fo) rs (eY e p c k s t=some r)) (((e.length:Int) - 0:Int).toNat+1) ?_ ?_
 ·exact have H:=H.frs [3,4,4,4,4] rfl;X4 ⟨E.to rfl,H,Y0,hm⟩
 ·clear E H hm
  rintro k a w ⟨q,s,t,B,E,H,f,hm⟩
  cases k with
  | zero=>exact (aZ hm rfl).elim
  | succ k=>
   unfold eY at hm
   refine sq<|pn 1 E rfl fun a E=>wp_seq<|wif E hm rfl (fun hm=>?_) fun hm=>?_
   ·refine wp_skip<|aA<|wp_seq<|wp_block<|sp 2 E rfl fun a E=>xp 3 E rfl fun a E=>bd hm fun j g hm=>?_
    obtain ⟨C,D,u⟩:=H.rowformNE (i:=0) rfl g
    refine sv2 E rfl (cX (d:=bB) E u rfl rfl rfl rfl U70 yD g) fun a E=>sv2 E rfl (lP (i:=0) E H lQ u rfl rfl rfl g (us:=[.int .i64 j.Session,.int .i64 j.Num,.string j.Path,.bool j.Deep]) rfl U35 rfl yD) fun a E=>have H:=H.frs [0,3,4,4,4] rfl;bd hm fun F x hm=>bM E (wn rfl) rfl rfl (bO E rfl rfl rfl ((cf_ 334) _)) (V9 H x)<|?_
    rintro _ w ⟨G,rfl,H⟩ a E
    refine nt<|wif E hm rfl (fun hm=>?_) fun hm=>?_
    ·refine sq<|pn 2 E rfl fun a E=>wp_ret<|bF<|aG<|aG<|bF<|aG<|o1 E rfl<|have H:=H.frs [3,4,4,4,4] rfl;?_
     cases hm
     exact ⟨_,rfl,H.reads f⟩
    ·exact wp_skip<|bH<|aA<|wp_region_lit<|pn 2 E rfl fun a E=>have H:=H.frs [3,3,3,3,4] rfl;⟨k,Nat.lt_succ_self k,X4 ⟨E.to rfl,H,f,hm⟩⟩
   ·refine wp_exit<|aL<|aL<|cH<|aA<|sq<|pn 1 E rfl fun a E=>wp_ret<|o1 E rfl<|have H:=H.frs [4,1,4,4,4] rfl;?_
    cases hm
    exact ⟨_,rfl,H.reads f⟩

def fD(rec_1:oF→Int→Int→iA→Option C6)(b:Int)(c:oF)(d:Int)(e:iA):Option C6:=
  rec_1 c d (IntKind.i64.wrap (b+1)) e
def dI(j:ByteArray)(e:Int):Nat→oF→Int→Int→iA→Option C6
  | 0,_,_,_,_=>none
  | k+1,c,b,d,g=>
    if (decide (d < (c.length:Int)))=true then ((idx c d).bind fun i=>(r4 i j g e).bind fun f=>if (!f.1)=true then ((idx c b).bind fun l=>fD (dI j e k) d (c.set b.toNat i) (IntKind.i64.wrap (b+1)) f.2) else (fD (dI j e k) d c b f.2)) else ((ck (0 ≤ b∧b ≤ c.length)).bind fun m=>(ck (0 ≤ b∧b ≤ (c.take b.toNat ++ List.replicate (c.length - b.toNat) (⟨0,0,⟨#[]⟩,false⟩:aP)).length)).bind fun n=>some ((c.take b.toNat ++ List.replicate (c.length - b.toNat) (⟨0,0,⟨#[]⟩,false⟩:aP)).take b.toNat,g))
def jO(c:List aP)(e:ByteArray)(f:List aH)(d:Int):Option C6:=
  (jL c e f d).bind fun b=>if (b.1 == (-1))=true then (some (c,b.2)) else (dI e d (((c.length:Int) - (IntKind.i64.wrap (b.1+1)):Int).toNat+1) c b.1 (IntKind.i64.wrap (b.1+1)) b.2)
theorem xU{q M p:Value}{G:List aP}{g j c:Nat}{k:ByteArray}{N:List aH}{e:Int}(H:Sep w (Row 35 bB q G::Blk g 9 [.string k]::Blk j 73 [p,M]::Row 126 aN M N::Blk c 3 [.int .i64 e]::Fo) rs){r:oF×iA}(hm:jO G k N e=some r) :
    Cf 333 [q,.func (.func 334) #[] #[pt g 0,pt j 0,pt c 0]] w fun v w'=>∃ O P,O=v∧Sep w' (Row 35 bB O r.1::Blk g 9 [.string k]::Blk j 73 [p,P]::Blk c 3 [.int .i64 e]::Row 126 aN P r.2::Fo) (rs):=by
 unfold jO at hm
 refine ent Tryz.func333 rfl Tryz.ntmps333 rfl rfl fun a E=>sp 1 E rfl fun a E=>xp 2 E rfl fun a E=>bd hm fun Q I hm=>xc2 E rfl (cf_ 268) (xD H I)<|?_
 rintro _ w ⟨T,rfl,H⟩ a E
 refine pn 1 E rfl fun a E=>wp_seq<|sq<|pn 2 E rfl fun a E=>wif E hm rfl (fun hm=>?_) fun hm=>?_
 ·refine sq<|pn 2 E rfl fun a E=>wp_ret<|aG<|o1 E rfl<|have H:=H.frs [4,3,3,3,4] rfl;?_
  cases hm
  exact ⟨_,_,rfl,H.reads Y0⟩
 ·refine wp_skip<|aA<|wp_seq<|sq<|pn 3 E rfl fun a E=>wp_block<|bD (fun l a w=>∃ s t u f x,Jn 42 a w [(0,q),(1,.func (.func 334) #[] #[pt g 0,pt j 0,pt c 0]),(5,.int .i64 u),(6,.int .i64 f)] (Row 35 bB q t::Blk g 9 [.string k]::Blk j 73 [p,s]::Blk c 3 [.int .i64 e]::Row 126 aN s x::Fo) rs (dI k e l t u f x=some r)) (((G.length:Int) - (IntKind.i64.wrap (Q.1+1)):Int).toNat+1) ?_ ?_
  ·exact have H:=H.frs [4,3,3,3,4] rfl;X6 ⟨E.to rfl,H,Y0,hm⟩
  ·clear E H hm
   rintro l a w ⟨s,t,u,f,x,R,E,H,m,hm⟩
   cases l with
   | zero=>exact (aZ hm rfl).elim
   | succ l=>
    unfold dI at hm
    refine wp_seq<|sp 2 E rfl fun a E=>sv2 E rfl (iJ (i:=0) E H rfl rfl rfl U70) fun a E=>pn 1 E rfl fun a E=>wif E hm rfl (fun hm=>?_) fun hm=>?_
    ·refine wp_skip<|aA<|aK (fun a w=>∃ y z A B,Jn 42 a w [(0,q),(1,.func (.func 334) #[] #[pt g 0,pt j 0,pt c 0]),(5,.int .i64 A),(6,.int .i64 f)] (Row 35 bB q z::Blk g 9 [.string k]::Blk j 73 [p,y]::Blk c 3 [.int .i64 e]::Row 126 aN y B::Fo) rs (fD (dI k e l) f z A B=some r)) ?_ ?_
     ·refine wp_block<|sp 2 E rfl fun a E=>bd hm fun b n hm=>?_
      obtain ⟨U,V,C⟩:=H.rowformNE (i:=0) rfl n
      refine sv2 E rfl (cX (d:=bB) E C rfl rfl rfl rfl U70 yD n) fun a E=>sv2 E rfl (lP (i:=0) E H lQ C rfl rfl rfl n (us:=[.int .i64 b.Session,.int .i64 b.Num,.string b.Path,.bool b.Deep]) rfl U35 rfl yD) fun a E=>al2 E H rfl DG fun W w a H E=>ss 0 E H rfl yD rfl fun w H=>xp 1 E rfl fun a E=>ln 0 (hP b) E H U35 rfl yD fun a E=>have H:=H.frs [1,1,4,5,5,5] rfl;bd hm fun X J hm=>bM E (wn rfl) rfl rfl (bO E rfl rfl rfl ((cf_ 334) _)) (V9 H J)<|?_
      rintro _ w ⟨Y,rfl,H⟩ a E
      refine pn 1 E rfl fun a E=>wif E hm rfl (fun hm=>?_) fun hm=>?_
      ·refine sp 2 E rfl fun a E=>ln 4 (hP b) E H U35 rfl yD fun a E=>bd hm fun Z o hm=>?_
       obtain ⟨b0,b1,D⟩:=H.rowformNE (i:=5) rfl o
       exact sv2 E rfl (cX (d:=bB) E D rfl rfl rfl rfl U70 yD o) fun a E=>K6 (d:=bB) (i:=5) (us:=[.int .i64 b.Session,.int .i64 b.Num,.string b.Path,.bool b.Deep]) (z':=b) E H lQ (wn rfl) rfl D rfl rfl rfl rfl rfl rfl rfl o yD fun w H=>nt<|wp_region_lit<|pr 3 E rfl fun a E=>wpList_nil<|bH<|aA<|have H:=H.drop 4;have H:=H.frs [3,3,3,3,4] rfl;X5 ⟨E.to rfl,H,m,hm⟩
      ·exact wp_skip<|bH<|aA<|have H:=H.drop 4;have H:=H.frs [3,3,3,3,4] rfl;X5 ⟨E.to rfl,H,m,hm⟩
     ·clear E H hm
      rintro a w ⟨y,z,A,B,S,E,H,K,hm⟩
      unfold fD at hm
      exact wp_region_lit<|pn 3 E rfl fun a E=>⟨l,Nat.lt_succ_self l,X6 ⟨E.to rfl,H,K,hm⟩⟩
    ·refine wp_exit<|aL<|aL<|cH<|aA<|sp 2 E rfl fun a E=>bk hm fun F hm=>sv2 E rfl (Fh (d:=bB) (i:=0) E H rfl rfl rfl rfl U70 yD F) fun a E=>Q2 (i:=0) (z0:=(⟨0,0,⟨#[]⟩,false⟩:aP)) E H lQ (wn rfl) rfl rfl rfl U70 GO rfl rfl rfl F fun w H=>xp 2 E rfl fun a E=>bk hm fun L hm=>Br (i:=0) E H lQ (wn rfl) rfl rfl rfl rfl rfl rfl U70 yD L fun b2 a H E=>pn 1 E rfl fun a E=>wp_ret<|o1 E rfl<|?_
     cases hm
     exact ⟨_,_,rfl,H.reads m⟩

def tD(x1:Int):Option Bool:=
  if (decide (x1 ≥ 1))=true then (some (decide (x1 ≤ 281474976710656))) else (some (false))
theorem r6{x1:Int}(H:Sep w (Fo) rs){r:Bool}(hm:tD x1=some r) :
    Cf 267 [.int .i64 x1] w fun v w'=>.bool r=v∧Sep w' (Fo) (rs):=by
 unfold tD at hm
 refine ent Tryz.func267 rfl Tryz.ntmps267 rfl rfl fun a E=>sp 1 E rfl fun a E=>xp 3 E rfl fun a E=>cs hm (fun b hm=>?_) fun b hm=>?_
 ·refine pk 4 E (kc 5 rfl b) rfl fun a E=>nt<|wp_ret<|o1 E rfl<|?_
  cases hm
  exact ⟨rfl,H.reads Y0⟩
 ·refine pk 4 E (kc 5 rfl b) rfl fun a E=>nt<|wp_ret<|o1 E rfl<|?_
  cases hm
  exact ⟨rfl,H.reads Y0⟩

def jB(rec_1:Int→Option Bool)(c:Int)(b:Bool):Option Bool:=
  if b=true then (some (false)) else (rec_1 (IntKind.i64.wrap (c+1)))
def fT(x1:aH):Nat→Int→Option Bool
  | 0,_=>none
  | d+1,c=>
    if (decide (c < (x1.Events.length:Int)))=true then ((idx x1.Events c).bind fun b=>if (b.Num != (IntKind.i64.wrap ((IntKind.i64.wrap ((IntKind.i64.wrap (x1.Count - (x1.Events.length:Int)))+1))+c)))=true then (jB (fT x1 d) c true) else (if (decide (b.Num < 1))=true then (jB (fT x1 d) c true) else (if (decide (b.Kind < 1))=true then (jB (fT x1 d) c true) else (if (decide (b.Kind > 4))=true then (jB (fT x1 d) c true) else ((dX b.Path).bind fun e=>if (!e)=true then (jB (fT x1 d) c true) else ((tD b.Watch).bind fun f=>jB (fT x1 d) c (!f))))))) else (some (true))
def oT(x1:aH)(b:Bool):Option Bool:=
  if b=true then (some (false)) else (fT x1 (((x1.Events.length:Int) - 0:Int).toNat+1) 0)
def C9(x1:aH):Option Bool:=
  (tD x1.Num).bind fun b=>if (!b)=true then (oT x1 true) else (if (decide (x1.Count < 0))=true then (oT x1 true) else (if (decide (x1.Count > 281474976710656))=true then (oT x1 true) else (oT x1 (decide ((x1.Events.length:Int) > 8)))))
theorem Io{x1:aH}{o:Value}(H:Sep w (Fo) rs)(m:rSl aT o x1.Events ∈ rs){r:Bool}(hm:C9 x1=some r) :
    Cf 266 [.agg (oE x1 o).toArray] w fun v w'=>.bool r=v∧Sep w' (Fo) (rs):=by
 unfold C9 at hm
 refine ent Tryz.func266 rfl Tryz.ntmps266 rfl rfl fun a E=>sq<|bx E H rfl fun A w a H E=>pn 1 E rfl fun a E=>wp_seq<|aK (fun a w=>∃ t,Jn 75 a w [(1,pt A 0),(25,.bool t)] (Blk A 126 (oE x1 o)::Fo) rs (oT x1 t=some r)) ?_ ?_
 ·refine wp_region_lit<|pr 1 E rfl fun a E=>lb2 E H 0 U2 rfl fun a E=>bd hm fun C u hm=>xk2 E rfl (cf_ 267) (r6 H u) fun w H a E=>pr 2 E rfl fun a E=>cs hm (fun f hm=>?_) fun f hm=>?_
  ·exact pk 15 E (kc 10 rfl f) rfl fun a E=>nt<|⟨_,_,E.to rfl,H,Y0,hm⟩
  ·refine pk 1 E (kc 10 rfl f) rfl fun a E=>gl 10 E H 0 f U2 rfl fun a E=>pk 3 E (kc 10 rfl f) rfl fun a E=>cs hm (fun g hm=>?_) fun g hm=>?_
   ·exact pk 10 E (kc 15 rfl g) rfl fun a E=>nt<|⟨_,_,E.to rfl,H,Y0,hm⟩
   ·refine pk 1 E (kc 15 rfl g) rfl fun a E=>gl 15 E H 0 g U2 rfl fun a E=>pk 3 E (kc 15 rfl g) rfl fun a E=>cs hm (fun c hm=>?_) fun c hm=>?_
    ·exact pk 5 E (kc 20 rfl c) rfl fun a E=>nt<|⟨_,_,E.to rfl,H,Y0,hm⟩
    ·exact pk 1 E (kc 20 rfl c) rfl fun a E=>gl 20 E H 0 c U44 rfl fun a E=>gv 20 E c rfl (uN E H rfl rfl m U44) fun a E=>pk 2 E (kc 20 rfl c) rfl fun a E=>nt<|⟨_,_,E.to rfl,H,Y0,hm⟩
 ·clear E H hm
  rintro a w ⟨t,D,E,H,n,hm⟩
  unfold oT at hm
  refine wif E hm rfl (fun hm=>?_) fun hm=>?_
  ·refine sq<|pn 1 E rfl fun a E=>wp_ret<|aG<|o1 E rfl<|have H:=H.drop 0;?_
   cases hm
   exact ⟨rfl,H.reads n⟩
  ·refine wp_skip<|aA<|sp 1 E rfl fun a E=>lb2 E H 0 U2 rfl fun a E=>pr 1 E rfl fun a E=>lb2 E H 0 U44 rfl fun a E=>lS E H (n _ m) U44 rfl fun a E=>pr 3 E rfl fun a E=>nt<|wp_seq<|sp 1 E rfl fun a E=>lb2 E H 0 U44 rfl fun a E=>lS E H (n _ m) U44 rfl fun a E=>pn 1 E rfl fun a E=>wp_block<|bD (fun l a w=>∃ p,Jn 75 a w [(3,.int .i64 (IntKind.i64.wrap ((IntKind.i64.wrap (x1.Count - (x1.Events.length:Int)))+1))),(34,o),(35,.int .i64 (x1.Events.length:Int)),(36,.int .i64 p)] (Fo) rs (fT x1 l p=some r)) (((x1.Events.length:Int) - 0:Int).toNat+1) ?_ ?_
   ·exact have H:=H.drop 0;⟨_,_,E.to rfl,H,n,hm⟩
   ·clear E H hm
    rintro l a w ⟨p,F,E,H,b,hm⟩
    cases l with
    | zero=>exact (aZ hm rfl).elim
    | succ l=>
     unfold fT at hm
     refine sq<|pn 1 E rfl fun a E=>wp_seq<|wif E hm rfl (fun hm=>?_) fun hm=>?_
     ·refine wp_skip<|aA<|wp_seq<|wp_block<|sp 1 E rfl fun a E=>bd hm fun G x hm=>cN E H (wn rfl) rfl rfl rfl rfl rfl (b _ m) U44 Hu x fun q13 a H E=>ldf Gc E H rfl rfl rfl rfl rfl m0 DI rfl Hu fun a E=>al2 E H rfl Yf fun I w a H E=>pr 1 E rfl fun a E=>ss 0 E H rfl Hu rfl fun w H=>nt<|aK (fun a w=>∃ q,Jn 75 a w [(3,.int .i64 (IntKind.i64.wrap ((IntKind.i64.wrap (x1.Count - (x1.Events.length:Int)))+1))),(34,o),(35,.int .i64 (x1.Events.length:Int)),(36,.int .i64 p),(73,.bool q)] (Fo) rs (jB (fT x1 l) p q=some r)) ?_ ?_
      ·refine wp_region_lit<|pr 1 E rfl fun a E=>lb2 E H 0 U2 rfl fun a E=>pr 5 E rfl fun a E=>cs hm (fun i hm=>?_) fun i hm=>?_
       ·exact pk 26 E (kc 47 rfl i) rfl fun a E=>nt<|have H:=H.drop 0;⟨_,_,E.to rfl,H,(Y1 b),hm⟩
       ·refine pk 1 E (kc 47 rfl i) rfl fun a E=>gl 47 E H 0 i U2 rfl fun a E=>pk 3 E (kc 47 rfl i) rfl fun a E=>cs hm (fun j hm=>?_) fun j hm=>?_
        ·exact pk 21 E (kc 52 rfl j) rfl fun a E=>nt<|have H:=H.drop 0;⟨_,_,E.to rfl,H,(Y1 b),hm⟩
        ·refine pk 1 E (kc 52 rfl j) rfl fun a E=>gl 52 E H 0 j U3 rfl fun a E=>pk 3 E (kc 52 rfl j) rfl fun a E=>cs hm (fun k hm=>?_) fun k hm=>?_
         ·exact pk 16 E (kc 57 rfl k) rfl fun a E=>nt<|have H:=H.drop 0;⟨_,_,E.to rfl,H,(Y1 b),hm⟩
         ·refine pk 1 E (kc 57 rfl k) rfl fun a E=>gl 57 E H 0 k U3 rfl fun a E=>pk 3 E (kc 57 rfl k) rfl fun a E=>cs hm (fun d hm=>?_) fun d hm=>?_
          ·exact pk 11 E (kc 62 rfl d) rfl fun a E=>nt<|have H:=H.drop 0;⟨_,_,E.to rfl,H,(Y1 b),hm⟩
          ·refine pk 1 E (kc 62 rfl d) rfl fun a E=>gl 62 E H 0 d U9 rfl fun a E=>bd hm fun J y hm=>gc 62 E d rfl (cf_ 83) (iL H y)<|?_
           rintro _ w ⟨rfl,H⟩ a E
           refine pk 3 E (kc 62 rfl d) rfl fun a E=>cs hm (fun e hm=>?_) fun e hm=>?_
           ·exact pk 5 E (kc 68 rfl e) rfl fun a E=>nt<|have H:=H.drop 0;⟨_,_,E.to rfl,H,(Y1 b),hm⟩
           ·refine pk 1 E (kc 68 rfl e) rfl fun a E=>gl 68 E H 0 e U2 rfl fun a E=>bd hm fun K z hm=>gc 68 E e rfl (cf_ 267) (r6 H z)<|?_
            rintro _ w ⟨rfl,H⟩ a E
            exact pk 2 E (kc 68 rfl e) rfl fun a E=>nt<|have H:=H.drop 0;⟨_,_,E.to rfl,H,(Y1 b),hm⟩
      ·clear E H hm
       rintro a w ⟨q,B,E,H,s,hm⟩
       unfold jB at hm
       refine wif E hm rfl (fun hm=>?_) fun hm=>?_
       ·refine sq<|pn 1 E rfl fun a E=>wp_ret<|bF<|aG<|aG<|bF<|aG<|o1 E rfl<|?_
        cases hm
        exact ⟨rfl,H.reads s⟩
       ·exact wp_skip<|bH<|aA<|wp_region_lit<|pn 2 E rfl fun a E=>⟨l,Nat.lt_succ_self l,_,_,E.to rfl,H,s,hm⟩
     ·refine wp_exit<|aL<|aL<|cH<|aA<|sq<|pn 1 E rfl fun a E=>wp_ret<|o1 E rfl<|?_
      cases hm
      exact ⟨rfl,H.reads b⟩

def sW(x1:aH):Option Bool:=
  (C9 x1).bind fun b=>some (!b)
theorem L2{x1:aH}{b:Value}{c:Nat}(H:Sep w (Blk c 124 [.func (.func 266) #[] #[]]::Fo) rs)(d:rSl aT b x1.Events ∈ rs){r:Bool}(hm:sW x1=some r) :
    Cf 319 [.agg (oE x1 b).toArray,pt c 0] w fun v w'=>.bool r=v∧Sep w' (Blk c 124 [.func (.func 266) #[] #[]]::Fo) (rs):=by
 unfold sW at hm
 refine ent Tryz.func319 rfl Tryz.ntmps319 rfl rfl fun a E=>sq<|bx E H rfl fun f w a H E=>pr 1 E rfl fun a E=>nx<|lb2 E H 1 HK rfl fun a E=>ln 0 (oE x1 b) E H Sa rfl G2 fun a E=>bd hm fun g e hm=>bM E (wn rfl) rfl rfl (bO E rfl rfl rfl ((cf_ 266) _)) (Io H d e)<|?_
 rintro _ w ⟨rfl,H⟩ a E
 refine pn 2 E rfl fun a E=>wp_ret<|o1 E rfl<|have H:=H.drop 0;?_
 cases hm
 exact ⟨rfl,H.reads Y0⟩

def eO(c:List aH):Nat→Int→Option Int
  | 0,_=>none
  | e+1,b=>
    if (decide (b < (c.length:Int)))=true then ((idx c b).bind fun f=>(sW f).bind fun d=>if d=true then (some (b)) else (eO c e (IntKind.i64.wrap (b+1)))) else (some ((-1)))
def iN(b:List aH):Option Int:=
  eO b (((b.length:Int) - 0:Int).toNat+1) 0
theorem wI{g:Value}{d:List aH}{e:Nat}(H:Sep w (Blk e 124 [.func (.func 266) #[] #[]]::Fo) rs)(f:rSl aN g d ∈ rs){r:Int}(hm:iN d=some r) :
    Cf 350 [g,.func (.func 319) #[] #[pt e 0]] w fun v w'=>.int .i64 r=v∧Sep w' (Blk e 124 [.func (.func 266) #[] #[]]::Fo) (rs):=by
 unfold iN at hm
 refine ent Tryz.func350 rfl Tryz.ntmps350 rfl rfl fun a E=>sq<|pn 1 E rfl fun a E=>wp_seq<|sp 1 E rfl fun a E=>lS E H f U71 rfl fun a E=>pr 1 E rfl fun a E=>nt<|wp_block<|bD (fun c a w=>∃ i,Jn 19 a w [(0,g),(1,.func (.func 319) #[] #[pt e 0]),(7,.int .i64 (d.length:Int)),(8,.int .i64 i)] (Blk e 124 [.func (.func 266) #[] #[]]::Fo) rs (eO d c i=some r)) (((d.length:Int) - 0:Int).toNat+1) ?_ ?_
 ·exact ⟨_,_,E.to rfl,H,Y0,hm⟩
 ·clear E H hm
  rintro c a w ⟨i,l,E,H,b,hm⟩
  cases c with
  | zero=>exact (aZ hm rfl).elim
  | succ c=>
   unfold eO at hm
   refine sq<|pn 1 E rfl fun a E=>wp_seq<|wif E hm rfl (fun hm=>?_) fun hm=>?_
   ·refine wp_skip<|aA<|wp_seq<|wp_block<|sp 2 E rfl fun a E=>xp 3 E rfl fun a E=>bd hm fun p k hm=>cN E H (wn rfl) rfl rfl rfl rfl rfl (b _ f) U71 G2 k fun q10 a H E=>Mo E H (wn rfl) rfl rfl rfl rfl m0 Sa rfl G2 fun m a H E=>?_
    obtain ⟨n,rfl,h⟩:=Lh H;clear H;have H:=h
    refine bd hm fun o j hm=>bM E (wn rfl) rfl rfl (bO E rfl rfl rfl ((cf_ 319) _)) (L2 H m0 j)<|?_
    rintro _ w ⟨rfl,H⟩ a E
    refine nt<|wif E hm rfl (fun hm=>?_) fun hm=>?_
    ·refine sq<|pn 2 E rfl fun a E=>wp_ret<|bF<|aG<|aG<|bF<|aG<|o1 E rfl<|?_
     cases hm
     exact ⟨rfl,H.reads (Y3 b)⟩
    ·exact wp_skip<|bH<|aA<|wp_region_lit<|pn 2 E rfl fun a E=>⟨c,Nat.lt_succ_self c,_,_,E.to rfl,H,(Y3 b),hm⟩
   ·refine wp_exit<|aL<|aL<|cH<|aA<|sq<|pn 1 E rfl fun a E=>wp_ret<|o1 E rfl<|?_
    cases hm
    exact ⟨rfl,H.reads b⟩

def gZ(b:List aH):Option Bool:=
  (iN b).bind fun c=>some (decide (c ≥ 0))
theorem uW{c:Value}{d:List aH}{b:Nat}(H:Sep w (Blk b 124 [.func (.func 266) #[] #[]]::Fo) rs)(e:rSl aN c d ∈ rs){r:Bool}(hm:gZ d=some r) :
    Cf 318 [c,.func (.func 319) #[] #[pt b 0]] w fun v w'=>.bool r=v∧Sep w' (Blk b 124 [.func (.func 266) #[] #[]]::Fo) (rs):=by
 unfold gZ at hm
 refine ent Tryz.func318 rfl Tryz.ntmps318 rfl rfl fun a E=>sp 1 E rfl fun a E=>xp 2 E rfl fun a E=>bd hm fun g f hm=>xk2 E rfl (cf_ 350) (wI H e f) fun w H a E=>pn 2 E rfl fun a E=>wp_ret<|o1 E rfl<|?_
 cases hm
 exact ⟨rfl,H.reads Y0⟩

def uD(b:List aH):Option Bool:=
  (gZ b).bind fun c=>some (!c)
theorem N7{b:Value}{c:List aH}(H:Sep w (Fo) rs)(d:rSl aN b c ∈ rs){r:Bool}(hm:uD c=some r) :
    Cf 265 [b,.func (.func 266) #[] #[]] w fun v w'=>.bool r=v∧Sep w' (Fo) (rs):=by
 unfold uD at hm
 refine ent Tryz.func265 rfl Tryz.ntmps265 rfl rfl fun a E=>sq<|bx E H rfl fun f w a H E=>pr 1 E rfl fun a E=>xp 1 E rfl fun a E=>sv2 E rfl (nM E rfl rfl rfl) fun a E=>bd hm fun g e hm=>xk2 E rfl (cf_ 318) (uW H d e) fun w H a E=>pn 2 E rfl fun a E=>wp_ret<|o1 E rfl<|have H:=H.drop 0;?_
 cases hm
 exact ⟨rfl,H.reads Y0⟩

def J4(x1:aP):Option Bool:=
  (tD x1.Session).bind fun b=>if b=true then ((tD x1.Num).bind fun c=>if c=true then ((dX x1.Path).bind fun d=>some (d)) else (some (false))) else (some (false))
theorem Ln{x1:aP}(H:Sep w (Fo) rs){r:Bool}(hm:J4 x1=some r) :
    Cf 193 [.agg (hP x1).toArray] w fun v w'=>.bool r=v∧Sep w' (Fo) (rs):=by
 unfold J4 at hm
 refine ent Tryz.func193 rfl Tryz.ntmps193 rfl rfl fun a E=>sq<|bx E H rfl fun g w a H E=>pr 1 E rfl fun a E=>xp 1 E rfl fun a E=>lb2 E H 0 U2 rfl fun a E=>bd hm fun i e hm=>xk2 E rfl (cf_ 267) (r6 H e) fun w H a E=>pr 1 E rfl fun a E=>cs hm (fun b hm=>?_) fun b hm=>?_
 ·refine pk 1 E (kc 6 rfl b) rfl fun a E=>gl 6 E H 0 b U2 rfl fun a E=>bd hm fun j f hm=>gc 6 E b rfl (cf_ 267) (r6 H f)<|?_
  rintro _ w ⟨rfl,H⟩ a E
  refine pk 2 E (kc 6 rfl b) rfl fun a E=>cs hm (fun c hm=>?_) fun c hm=>?_
  ·refine pk 1 E (kc 11 rfl c) rfl fun a E=>gl 11 E H 0 c U9 rfl fun a E=>bd hm fun k d hm=>gc 11 E c rfl (cf_ 83) (iL H d)<|?_
   rintro _ w ⟨rfl,H⟩ a E
   refine pk 2 E (kc 11 rfl c) rfl fun a E=>nt<|wp_ret<|o1 E rfl<|have H:=H.drop 0;?_
   cases hm
   exact ⟨rfl,H.reads Y0⟩
  ·refine pk 5 E (kc 11 rfl c) rfl fun a E=>nt<|wp_ret<|o1 E rfl<|have H:=H.drop 0;?_
   cases hm
   exact ⟨rfl,H.reads Y0⟩
 ·refine pk 10 E (kc 6 rfl b) rfl fun a E=>nt<|wp_ret<|o1 E rfl<|have H:=H.drop 0;?_
  cases hm
  exact ⟨rfl,H.reads Y0⟩

def uE(x1:aP):Option Bool:=
  (J4 x1).bind fun b=>some (!b)
theorem N8{x1:aP}{b:Nat}(H:Sep w (Blk b 236 [.func (.func 193) #[] #[]]::Fo) rs){r:Bool}(hm:uE x1=some r) :
    Cf 317 [.agg (hP x1).toArray,pt b 0] w fun v w'=>.bool r=v∧Sep w' (Blk b 236 [.func (.func 193) #[] #[]]::Fo) (rs):=by
 unfold uE at hm
 refine ent Tryz.func317 rfl Tryz.ntmps317 rfl rfl fun a E=>sq<|bx E H rfl fun d w a H E=>pr 1 E rfl fun a E=>nx<|lb2 E H 1 HJ rfl fun a E=>ln 0 (hP x1) E H U35 rfl yD fun a E=>bd hm fun e c hm=>bM E (wn rfl) rfl rfl (bO E rfl rfl rfl ((cf_ 193) _)) (Ln H c)<|?_
 rintro _ w ⟨rfl,H⟩ a E
 refine pn 2 E rfl fun a E=>wp_ret<|o1 E rfl<|have H:=H.drop 0;?_
 cases hm
 exact ⟨rfl,H.reads Y0⟩

def fK(c:List aP):Nat→Int→Option Int
  | 0,_=>none
  | e+1,b=>
    if (decide (b < (c.length:Int)))=true then ((idx c b).bind fun f=>(uE f).bind fun d=>if d=true then (some (b)) else (fK c e (IntKind.i64.wrap (b+1)))) else (some ((-1)))
def kE(b:List aP):Option Int:=
  fK b (((b.length:Int) - 0:Int).toNat+1) 0
theorem yL{g:Value}{d:List aP}{e:Nat}(H:Sep w (Blk e 236 [.func (.func 193) #[] #[]]::Fo) rs)(f:rSl bB g d ∈ rs){r:Int}(hm:kE d=some r) :
    Cf 268 [g,.func (.func 317) #[] #[pt e 0]] w fun v w'=>.int .i64 r=v∧Sep w' (Blk e 236 [.func (.func 193) #[] #[]]::Fo) (rs):=by
 unfold kE at hm
 refine ent Tryz.func268 rfl Tryz.ntmps268 rfl rfl fun a E=>sq<|pn 1 E rfl fun a E=>wp_seq<|sp 1 E rfl fun a E=>lS E H f U70 rfl fun a E=>pr 1 E rfl fun a E=>nt<|wp_block<|bD (fun c a w=>∃ i,Jn 19 a w [(0,g),(1,.func (.func 317) #[] #[pt e 0]),(7,.int .i64 (d.length:Int)),(8,.int .i64 i)] (Blk e 236 [.func (.func 193) #[] #[]]::Fo) rs (fK d c i=some r)) (((d.length:Int) - 0:Int).toNat+1) ?_ ?_
 ·exact ⟨_,_,E.to rfl,H,Y0,hm⟩
 ·clear E H hm
  rintro c a w ⟨i,l,E,H,b,hm⟩
  cases c with
  | zero=>exact (aZ hm rfl).elim
  | succ c=>
   unfold fK at hm
   refine sq<|pn 1 E rfl fun a E=>wp_seq<|wif E hm rfl (fun hm=>?_) fun hm=>?_
   ·refine wp_skip<|aA<|wp_seq<|wp_block<|sp 2 E rfl fun a E=>xp 3 E rfl fun a E=>bd hm fun n k hm=>cN E H (wn rfl) rfl rfl rfl rfl rfl (b _ f) U70 yD k fun q10 a H E=>ldf lQ E H rfl rfl rfl rfl rfl m0 U35 rfl yD fun a E=>bd hm fun m j hm=>bM E (wn rfl) rfl rfl (bO E rfl rfl rfl ((cf_ 317) _)) (N8 H j)<|?_
    rintro _ w ⟨rfl,H⟩ a E
    refine nt<|wif E hm rfl (fun hm=>?_) fun hm=>?_
    ·refine sq<|pn 2 E rfl fun a E=>wp_ret<|bF<|aG<|aG<|bF<|aG<|o1 E rfl<|?_
     cases hm
     exact ⟨rfl,H.reads (Y1 b)⟩
    ·exact wp_skip<|bH<|aA<|wp_region_lit<|pn 2 E rfl fun a E=>⟨c,Nat.lt_succ_self c,_,_,E.to rfl,H,(Y1 b),hm⟩
   ·refine wp_exit<|aL<|aL<|cH<|aA<|sq<|pn 1 E rfl fun a E=>wp_ret<|o1 E rfl<|?_
    cases hm
    exact ⟨rfl,H.reads b⟩

def iT(b:List aP):Option Bool:=
  (kE b).bind fun c=>some (decide (c ≥ 0))
theorem wP{c:Value}{d:List aP}{b:Nat}(H:Sep w (Blk b 236 [.func (.func 193) #[] #[]]::Fo) rs)(e:rSl bB c d ∈ rs){r:Bool}(hm:iT d=some r) :
    Cf 316 [c,.func (.func 317) #[] #[pt b 0]] w fun v w'=>.bool r=v∧Sep w' (Blk b 236 [.func (.func 193) #[] #[]]::Fo) (rs):=by
 unfold iT at hm
 refine ent Tryz.func316 rfl Tryz.ntmps316 rfl rfl fun a E=>sp 1 E rfl fun a E=>xp 2 E rfl fun a E=>bd hm fun g f hm=>xk2 E rfl (cf_ 268) (yL H e f) fun w H a E=>pn 2 E rfl fun a E=>wp_ret<|o1 E rfl<|?_
 cases hm
 exact ⟨rfl,H.reads Y0⟩

def wJ(b:List aP):Option Bool:=
  (iT b).bind fun c=>some (!c)
theorem W1{b:Value}{c:List aP}(H:Sep w (Fo) rs)(d:rSl bB b c ∈ rs){r:Bool}(hm:wJ c=some r) :
    Cf 264 [b,.func (.func 193) #[] #[]] w fun v w'=>.bool r=v∧Sep w' (Fo) (rs):=by
 unfold wJ at hm
 refine ent Tryz.func264 rfl Tryz.ntmps264 rfl rfl fun a E=>sq<|bx E H rfl fun f w a H E=>pr 1 E rfl fun a E=>xp 1 E rfl fun a E=>sv2 E rfl (nM E rfl rfl rfl) fun a E=>bd hm fun g e hm=>xk2 E rfl (cf_ 316) (wP H d e) fun w H a E=>pn 2 E rfl fun a E=>wp_ret<|o1 E rfl<|have H:=H.drop 0;?_
 cases hm
 exact ⟨rfl,H.reads Y0⟩

def A3(rec_1:Int→Mg→Option Bool)(c:Int)(b:Mg):Option Bool:=
  rec_1 (IntKind.i64.wrap (c+1)) b
def xE(rec_2:Bool→Int→Option Bool)(b:Int)(c:Bool):Option Bool:=
  rec_2 c (IntKind.i64.wrap (b+1))
def rA(x1:eE)(d:Mg):Nat→Bool→Int→Option Bool
  | 0,_,_=>none
  | e+1,c,b=>
    if (decide (b < (x1.Sessions.length:Int)))=true then (if c=true then ((idx x1.Sessions (IntKind.i64.wrap (b - 1))).bind fun f=>(idx x1.Sessions b).bind fun g=>xE (rA x1 d e) b (decide (f.Num < g.Num))) else (xE (rA x1 d e) b false)) else (if (decide ((x1.Watches.length:Int) ≤ 64))=true then (if ((d.length:Int) == (x1.Watches.length:Int))=true then ((wJ x1.Watches).bind fun i=>if i=true then ((uD x1.Sessions).bind fun j=>if j=true then (some (c)) else (some (false))) else (some (false))) else (some (false))) else (some (false)))
def tN(x1:eE):Nat→Int→Mg→Option Bool
  | 0,_,_=>none
  | f+1,d,c=>
    if (decide (d < (x1.Watches.length:Int)))=true then ((idx x1.Watches d).bind fun b=>(mlk y5 c (b.Session,b.Num)).bind fun e=>(ck (y5.ok (b.Session,b.Num)=true∧c.length+1 < maxLen)).bind fun g=>A3 (tN x1 f) d (pK c (b.Session,b.Num) (IntKind.i64.wrap ((e.getD 0)+1)))) else (rA x1 c (((x1.Sessions.length:Int) - 1:Int).toNat+1) true 1)
def x9(x1:eE):Option Bool:=
  tN x1 (((x1.Watches.length:Int) - 0:Int).toNat+1) 0 []
theorem Lo{x1:eE}{m B:Value}(H:Sep w (Fo) rs)(n:rSl bB m x1.Watches ∈ rs)(C:rSl aN B x1.Sessions ∈ rs){r:Bool}(hm:x9 x1=some r) :
    Cf 192 [.agg #[m,B]] w fun v w'=>.bool r=v∧Sep w' (Fo) (rs):=by
 unfold x9 at hm
 refine ent Tryz.func192 rfl Tryz.ntmps192 rfl rfl fun a E=>sq<|bx E H rfl fun o w a H E=>pr 1 E rfl fun a E=>nx<|xY (k:=294) (K:=y5) (d:=(kI .i64)) (g:=false) E H (wn rfl) rfl rfl rfl fun p w a H E=>pn 1 E rfl fun a E=>wp_seq<|sp 1 E rfl fun a E=>lb2 E H 1 U70 rfl fun a E=>lS E H n U70 rfl fun a E=>pn 1 E rfl fun a E=>wp_block<|bD (fun s a w=>∃ D t,Jn 76 a w [(1,pt o 0),(3,.map (some p)),(10,m),(11,.int .i64 (x1.Watches.length:Int)),(12,.int .i64 D)] (Blk o 73 [m,B]::cG Tryz.prog 294 y5 (kI .i64) false p t::Fo) rs (tN x1 s D t=some r)) (((x1.Watches.length:Int) - 0:Int).toNat+1) ?_ ?_
 ·exact have H:=H.frs [0,1] rfl;X3 ⟨E.to rfl,H,Y0,hm⟩
 ·clear E H hm
  rintro s a w ⟨D,t,b2,E,H,l,hm⟩
  cases s with
  | zero=>exact (aZ hm rfl).elim
  | succ s=>
   unfold tN at hm
   refine sq<|pn 1 E rfl fun a E=>wp_seq<|wif E hm rfl (fun hm=>?_) fun hm=>?_
   ·refine wp_skip<|aA<|aK (fun a w=>∃ F,Jn 76 a w [(1,pt o 0),(3,.map (some p)),(10,m),(11,.int .i64 (x1.Watches.length:Int)),(12,.int .i64 D)] (Blk o 73 [m,B]::cG Tryz.prog 294 y5 (kI .i64) false p F::Fo) rs (A3 (tN x1 s) D F=some r)) ?_ ?_
    ·refine wp_block<|sq<|bd hm fun z N hm=>cN E H (wn rfl) rfl rfl rfl rfl rfl (l _ n) U70 yD N fun q17 a H E=>ldf lQ E H rfl rfl rfl rfl rfl m0 U35 rfl yD fun a E=>al2 E H rfl DG fun A w a H E=>ss 0 E H rfl yD rfl fun w H=>nt<|bd hm fun M G hm=>bk hm fun I hm=>?_
     have hI:dZ [Blk A 35 (hP z)] [] { w with drawn:=w.drawn+1 }:=⟨_,_,H.kept (Kp.drawn _ w _),(aM m0 (bC)),(bG)⟩
     refine wV _ (.go 0 0 (.go 1 0 (.go 2 0 (.go 3 0 (.go 4 0 (.go 5 0 (.alt 6 (.go 7 0 (.go 8 1 (.go 9 0 (.go 10 2 .nil)))) 8 (.go 9 0 (.go 6 1 (.go 7 0 (.go 10 2 .nil))))))))))) [10] xZ (by kernel_rfl) (fun _ _ _ h=>False.elim h.2) hI<|have H:=H.kept (Kp.drawn _ w (w.drawn+1));?_
     generalize ({ w with drawn:=w.drawn+1 }:World)=w at H hI ⊢
     replace hI:∃ W,dZ [Blk A 35 (hP z)] [] W:=⟨_,hI⟩
     obtain ⟨W0,hI⟩:=hI
     refine om E rfl fun a E=>ov E rfl (fun w hW=>yC E rfl rfl (v:=pt A 0) (Ub _ _)) fun a E=>ol E m0 U2 rfl fun a E=>ov E rfl (fun w hW=>yC E rfl rfl (v:=pt A 1) (Uc _ _)) fun a E=>ol E m0 U2 rfl fun a E=>ov E rfl (fun w hW=>(bP E rfl (E.evs rfl) (v:=.agg #[.int .i64 z.Session,.int .i64 z.Num]) (by kernel_rfl))) fun a E=>uO rfl rfl ?_ ?_
     ·refine sv2 E rfl (Nb (i:=2) (K:=y5) (z0:=0) (u:=M) E H rfl rfl rfl rfl V4 Ge Nq G) fun a E=>nt<|⟨sx H [0] rfl,ov E rfl (fun w hW=>(sC E rfl rfl rfl rfl)) fun a E=>dK rfl<|Eo (i:=2) (K:=y5) (z0:=0) E H (wn rfl) rfl rfl rfl rfl rfl rfl V4 Ge Nq I fun q33 w a H E=>nt<|⟨sx H [0] rfl,ox E rfl fun a E=>eL rfl<|Aq (i:=2) (K:=y5) E H (wn rfl) rfl rfl rfl rfl rfl rfl V4 Ge fun w H=>nt<|iK<|?_⟩⟩
      clear hI
      exact bH<|aA<|have H:=H.drop 0;⟨_,_,E.to rfl,H,(Y1 l),hm⟩
     ·refine Eo (i:=2) (K:=y5) (z0:=0) E H (wn rfl) rfl rfl rfl rfl rfl rfl V4 Ge Nq I fun q36 w a H E=>nt<|⟨sx H [0] rfl,ox E rfl fun a E=>dK rfl<|sv2 E rfl (Wj (i:=2) (K:=y5) (z0:=0) (u:=M) E H rfl rfl rfl rfl V4 Ge Nq G) fun a E=>nt<|⟨sx H [0] rfl,ov E rfl (fun w hW=>(sC E rfl rfl rfl rfl)) fun a E=>eL rfl<|Aq (i:=2) (K:=y5) E H (wn rfl) rfl rfl rfl rfl rfl rfl V4 Ge fun w H=>nt<|iK<|?_⟩⟩
      clear hI
      exact bH<|aA<|have H:=H.drop 0;⟨_,_,E.to rfl,H,(Y1 l),hm⟩
    ·clear E H hm
     rintro a w ⟨F,b3,E,H,O,hm⟩
     unfold A3 at hm
     exact wp_region_lit<|pn 2 E rfl fun a E=>⟨s,Nat.lt_succ_self s,X3 ⟨E.to rfl,H,O,hm⟩⟩
   ·refine wp_exit<|aL<|aL<|cH<|aA<|sq<|pn 1 E rfl fun a E=>wp_seq<|sq<|pn 1 E rfl fun a E=>wp_block<|bD (fun x a w=>∃ J q,Jn 76 a w [(1,pt o 0),(3,.map (some p)),(6,.bool J),(7,.int .i64 q)] (Blk o 73 [m,B]::cG Tryz.prog 294 y5 (kI .i64) false p t::Fo) rs (rA x1 t x J q=some r)) (((x1.Sessions.length:Int) - 1:Int).toNat+1) ?_ ?_
    ·exact X3 ⟨E.to rfl,H,l,hm⟩
    ·clear E H hm
     rintro x a w ⟨J,q,b4,E,H,c,hm⟩
     cases x with
     | zero=>exact (aZ hm rfl).elim
     | succ x=>
      unfold rA at hm
      refine wp_seq<|sp 2 E rfl fun a E=>lb2 E H 0 U71 rfl fun a E=>lS E H (c _ C) U71 rfl fun a E=>pn 1 E rfl fun a E=>wif E hm rfl (fun hm=>?_) fun hm=>?_
      ·refine wp_skip<|aA<|aK (fun a w=>∃ L,Jn 76 a w [(1,pt o 0),(3,.map (some p)),(6,.bool L),(7,.int .i64 q)] (Blk o 73 [m,B]::cG Tryz.prog 294 y5 (kI .i64) false p t::Fo) rs (xE (rA x1 t x) q L=some r)) ?_ ?_
       ·refine wp_block<|?_
        obtain ⟨b6,H⟩:=H.raw (c _ C)
        refine dw [(0,0),(1,0),(2,0),(3,0),(4,0),(5,0),(6,0),(7,0),(8,0),(9,0),(10,0),(11,0),(12,0),(13,0),(14,0),(15,0),(16,0),(17,2)] [0] [0] H (by kernel_rfl) (fun _ _ _ h=>False.elim h.2) fun w W0 hI H=>fn 2 E rfl fun a E=>cs hm (fun b hm=>?_) fun b hm=>?_
        ·refine fk 1 E (kc 35 rfl b) rfl fun a E=>fb E rfl (ws' (d:=35) E rfl rfl rfl rfl b) rfl rfl rfl rfl m0 rfl U71 rfl fun a E=>fk 2 E (kc 35 rfl b) rfl fun a E=>bd hm fun b7 Q hm=>?_
         obtain ⟨q50,b8,R,S⟩:=gK (P:=Tryz.prog) (k:=.i64) hI (gD (.head _)) U71 G2 Q
         refine cZ E rfl (ws' (d:=35) E rfl rfl rfl rfl b) rfl rfl (fun w hW=>jQ E rfl rfl rfl (R w)) fun a E=>?_
         have T:=rO S (fun _ _ _ h=>J8 h)
         refine fk 1 E (kc 35 rfl b) rfl fun a E=>fa E rfl (ws' (d:=35) E rfl rfl rfl rfl b) rfl rfl rfl rfl T U2 rfl fun a E=>fk 1 E (kc 35 rfl b) rfl fun a E=>fb E rfl (ws' (d:=35) E rfl rfl rfl rfl b) rfl rfl rfl rfl m0 rfl U71 rfl fun a E=>fk 1 E (kc 35 rfl b) rfl fun a E=>bd hm fun b9 U hm=>?_
         obtain ⟨q57,c0,V,X⟩:=gK (P:=Tryz.prog) (k:=.i64) hI (gD (.head _)) U71 G2 U
         refine cZ E rfl (ws' (d:=35) E rfl rfl rfl rfl b) rfl rfl (fun w hW=>jQ E rfl rfl rfl (V w)) fun a E=>?_
         have Y:=rO X (fun _ _ _ h=>J8 h)
         refine fk 1 E (kc 35 rfl b) rfl fun a E=>fa E rfl (ws' (d:=35) E rfl rfl rfl rfl b) rfl rfl rfl rfl Y U2 rfl fun a E=>fk 2 E (kc 35 rfl b) rfl fun a E=>bL rfl<|pn 1 E rfl fun a E=>aY<|?_
         clear hI
         exact bH<|aA<|⟨_,_,E.to rfl,H,(Y1 c),hm⟩
        ·refine fk 15 E (kc 35 rfl b) rfl fun a E=>bL rfl<|pn 1 E rfl fun a E=>aY<|?_
         clear hI
         exact bH<|aA<|⟨_,_,E.to rfl,H,(Y1 c),hm⟩
       ·clear E H hm
        rintro a w ⟨L,b5,E,H,Z,hm⟩
        unfold xE at hm
        exact wp_region_lit<|pn 3 E rfl fun a E=>⟨x,Nat.lt_succ_self x,X3 ⟨E.to rfl,H,Z,hm⟩⟩
      ·refine wp_exit<|aL<|aL<|cH<|aA<|sp 1 E rfl fun a E=>lb2 E H 0 U70 rfl fun a E=>lS E H (c _ n) U70 rfl fun a E=>pr 2 E rfl fun a E=>cs hm (fun e hm=>?_) fun e hm=>?_
       ·refine pk 1 E (kc 55 rfl e) rfl fun a E=>gv 55 E e rfl (Bt (i:=1) E H rfl rfl rfl Ge) fun a E=>pk 1 E (kc 55 rfl e) rfl fun a E=>gl 55 E H 0 e U70 rfl fun a E=>gv 55 E e rfl (uN E H rfl rfl (c _ n) U70) fun a E=>pk 3 E (kc 55 rfl e) rfl fun a E=>cs hm (fun f hm=>?_) fun f hm=>?_
        ·refine pk 1 E (kc 63 rfl f) rfl fun a E=>gl 63 E H 0 f U70 rfl fun a E=>bd hm fun c1 b0 hm=>gc 63 E f rfl (cf_ 264) (W1 H (c _ n) b0)<|?_
         rintro _ w ⟨rfl,H⟩ a E
         refine pk 2 E (kc 63 rfl f) rfl fun a E=>cs hm (fun j hm=>?_) fun j hm=>?_
         ·refine pk 1 E (kc 68 rfl j) rfl fun a E=>gl 68 E H 0 j U71 rfl fun a E=>bd hm fun c2 b1 hm=>gc 68 E j rfl (cf_ 265) (N7 H (c _ C) b1)<|?_
          rintro _ w ⟨rfl,H⟩ a E
          refine pk 2 E (kc 68 rfl j) rfl fun a E=>cs hm (fun y hm=>?_) fun y hm=>?_
          ·refine pk 3 E (kc 73 rfl y) rfl fun a E=>nt<|wp_ret<|o1 E rfl<|have H:=H.drs [0,0];?_
           cases hm
           exact ⟨rfl,H.reads c⟩
          ·refine pk 3 E (kc 73 rfl y) rfl fun a E=>nt<|wp_ret<|o1 E rfl<|have H:=H.drs [0,0];?_
           cases hm
           exact ⟨rfl,H.reads c⟩
         ·refine pk 8 E (kc 68 rfl j) rfl fun a E=>nt<|wp_ret<|o1 E rfl<|have H:=H.drs [0,0];?_
          cases hm
          exact ⟨rfl,H.reads c⟩
        ·refine pk 13 E (kc 63 rfl f) rfl fun a E=>nt<|wp_ret<|o1 E rfl<|have H:=H.drs [0,0];?_
         cases hm
         exact ⟨rfl,H.reads c⟩
       ·refine pk 21 E (kc 55 rfl e) rfl fun a E=>nt<|wp_ret<|o1 E rfl<|have H:=H.drs [0,0];?_
        cases hm
        exact ⟨rfl,H.reads c⟩

def kT(x1:eE)(d:ByteArray)(e:Int)(c:Bool):Option (eE×Int):=
  if c=true then (some ((⟨[],[]⟩:eE),1)) else ((ck (x1.Sessions.length ≤ LIM)).bind fun f=>(ck (x1.Watches.length ≤ LIM)).bind fun g=>(jO x1.Watches d x1.Sessions e).bind fun b=>some ((⟨b.1,b.2⟩:eE),0))
def D2(x1:eE)(b:Int)(c:ByteArray):Option (eE×Int):=
  (x9 x1).bind fun d=>if (!d)=true then (kT x1 c b true) else (if (decide (b < 1))=true then (kT x1 c b true) else (if (decide (b > 3))=true then (kT x1 c b true) else ((dX c).bind fun e=>kT x1 c b (!e))))
theorem Ny{x1:eE}{j k:Value}{l:Int}{m:ByteArray}(H:Sep w (Fo) rs)(n:rSl bB j x1.Watches ∈ rs)(o:rSl aN k x1.Sessions ∈ rs){r:eE×Int}(hm:D2 x1 l m=some r) :
    Cf 302 [.agg #[j,k],.int .i64 l,.string m] w fun v w'=>∃ A B,.tuple #[.agg #[A,B],.int .i64 r.2]=v∧Sep w' (Fo) (rSl bB A r.1.Watches::rSl aN B r.1.Sessions::rs):=by
 unfold D2 at hm
 refine ent Tryz.func302 rfl Tryz.ntmps302 rfl rfl fun a E=>sq<|bx E H rfl fun C w a H E=>bx E H rfl fun D w a H E=>bx E H rfl fun p w a H E=>al2 E H rfl DE fun q w a H E=>pn 1 E rfl fun a E=>wp_seq<|aK (fun a w=>∃ f,Jn 36 a w [(3,pt C 0),(4,pt D 0),(5,pt p 0),(6,pt q 0),(23,.bool f)] (Blk C 73 [j,k]::Blk D 3 [.int .i64 l]::Blk p 9 [.string m]::Blk q 73 [nS,nS]::Fo) rs (kT x1 m l f=some r)) ?_ ?_
 ·refine wp_region_lit<|ln 3 [j,k] E H U73 rfl Q7 fun a E=>bd hm fun J t hm=>xk2 E rfl (cf_ 192) (Lo H n o t) fun w H a E=>pr 2 E rfl fun a E=>cs hm (fun c hm=>?_) fun c hm=>?_
  ·exact pk 12 E (kc 11 rfl c) rfl fun a E=>nt<|have H:=H.frs [0,1,2,3] rfl;⟨_,_,E.to rfl,H,Y0,hm⟩
  ·refine gl 11 E H 2 c U3 rfl fun a E=>pk 3 E (kc 11 rfl c) rfl fun a E=>cs hm (fun d hm=>?_) fun d hm=>?_
   ·exact pk 8 E (kc 15 rfl d) rfl fun a E=>nt<|have H:=H.frs [0,1,2,3] rfl;⟨_,_,E.to rfl,H,Y0,hm⟩
   ·refine gl 15 E H 2 d U3 rfl fun a E=>pk 3 E (kc 15 rfl d) rfl fun a E=>cs hm (fun b hm=>?_) fun b hm=>?_
    ·exact pk 4 E (kc 19 rfl b) rfl fun a E=>nt<|have H:=H.frs [0,1,2,3] rfl;⟨_,_,E.to rfl,H,Y0,hm⟩
    ·refine gl 19 E H 1 b U9 rfl fun a E=>bd hm fun K u hm=>gc 19 E b rfl (cf_ 83) (iL H u)<|?_
     rintro _ w ⟨rfl,H⟩ a E
     exact pk 2 E (kc 19 rfl b) rfl fun a E=>nt<|have H:=H.frs [0,1,2,3] rfl;⟨_,_,E.to rfl,H,Y0,hm⟩
 ·clear E H hm
  rintro a w ⟨f,I,E,H,e,hm⟩
  unfold kT at hm
  refine wif E hm rfl (fun hm=>?_) fun hm=>?_
  ·refine sq<|sv2 E rfl (bP E rfl (E.evs rfl) (v:=.agg #[nS,nS]) (by kernel_rfl)) fun a E=>ss 3 E H rfl Q7 rfl fun w H=>pn 1 E rfl fun a E=>wp_ret<|aG<|kN E rfl (eJ (i:=3) (us:=[nS,nS]) H rfl rfl rfl U73 rfl Q7) (rvT rfl)<|have H:=H.nilSl bB;have H:=H.nilSl aN;have H:=H.drs [0,0,0,0];?_
   cases hm
   exact ⟨_,_,rfl,H.rdx [1,0] rfl (fun r hr=>(t2 (e r hr)))⟩
  ·refine wp_skip<|aA<|sp 1 E rfl fun a E=>lb2 E H 0 U71 rfl fun a E=>bk hm fun x hm=>xc2 E rfl (cf_ 75) (vK H (e _ o) x) fun L w H a E=>pr 1 E rfl fun a E=>?_
   obtain ⟨q18,M,rfl⟩:=H.rowform (i:=0) rfl
   refine ss 1 E H rfl DK rfl fun w H=>xp 1 E rfl fun a E=>lb2 E H 1 U70 rfl fun a E=>bk hm fun y hm=>xc2 E rfl (cf_ 74) (xO H (e _ n) y) fun N w H a E=>sv2 E rfl (nM E rfl rfl rfl) fun a E=>have H:=H.frs [5,4,3,4,5,5] rfl;bd hm fun g z hm=>xc2 E rfl (cf_ 333) (xU H z)<|?_
   rintro _ w ⟨O,F,rfl,H⟩ a E
   refine pr 1 E rfl fun a E=>?_
   obtain ⟨q27,s,rfl⟩:=H.rowform (i:=0) rfl
   refine ss 2 E H rfl HL rfl fun w H=>nx<|ln 2 [(.slice q27 g.1.length s),F] E H U73 rfl Q7 fun a E=>?_
   obtain ⟨q29,G,rfl⟩:=H.rowform (i:=4) rfl
   refine ss 5 E H rfl Q7 rfl fun w H=>pn 1 E rfl fun a E=>wp_ret<|kN E rfl (eJ (i:=5) (us:=[(.slice q27 g.1.length s),(.slice q29 g.2.length G)]) H rfl rfl rfl U73 rfl Q7) (rvT rfl)<|have H:=H.thaw (i:=0) rfl;have H:=H.thaw (i:=3) rfl;have H:=H.drs [0,0,0,0];?_
   cases hm
   exact ⟨_,_,rfl,H.rdx [1,0] rfl (fun r hr=>(t2 (e r hr)))⟩

def hC(c:List aP)(d:List aH)(x20:Int)(e:ByteArray):Option C6:=
  (D2 (⟨c,d⟩:eE) x20 e).bind fun b=>if (b.2 == 0)=true then (some (b.1.Watches,b.1.Sessions)) else (some (c,d))
theorem sX{q:Nat}{b c i j k l m n o:Value}{d:List aP}{e:List aH}{x20:Int}{p:ByteArray}(H:Sep w (Blk q 87 [i,j,k,l,b,c,m,n,o]::Fo) rs)(f:rSl bB b d ∈ rs)(g:rSl aN c e ∈ rs){r:oF×iA}(hm:hC d e x20 p=some r) :
    Cf 233 [pt q 0,.int .i64 x20,.string p] w fun v w'=>∃ t u,.tuple #[]=v∧Sep w' (Blk q 87 [i,j,k,l,t,u,m,n,o]::Fo) (rSl bB t r.1::rSl aN u r.2::rs):=by
 unfold hC at hm
 refine ent Tryz.func233 rfl Tryz.ntmps233 rfl rfl fun a E=>sp 3 E rfl fun a E=>ln 0 [b,c] E H U73 rfl Q7 fun a E=>pr 2 E rfl fun a E=>bd hm fun z s hm=>xc2 E rfl (cf_ 302) (Ny (x1:=(⟨d,e⟩:eE)) H f g s)<|?_
 rintro _ w ⟨x,y,rfl,H⟩ a E
 refine pr 3 E rfl fun a E=>al2 E H rfl DE fun A w a H E=>ss 0 E H rfl Q7 (P3 H m0 mm1) fun w H=>pr 1 E rfl fun a E=>nx<|pn 2 E rfl fun a E=>wif E hm rfl (fun hm=>?_) fun hm=>?_
 ·refine wp_region_lit<|pr 1 E rfl fun a E=>ln 0 [x,y] E H U73 rfl Q7 fun a E=>pr 2 E rfl fun a E=>ss 1 E H rfl Q7 (P3 H m0 mm1) fun w H=>wpList_nil<|vC E rfl<|have H:=H.drop 0;?_
  cases hm
  exact ⟨_,_,rfl,H.rdx [0,1] rfl (fun r hr=>(t2 hr))⟩
 ·refine wp_skip<|vC E rfl<|have H:=H.drop 0;?_
  cases hm
  exact ⟨_,_,rfl,H.reads (aE (t2 f) (aE (t2 g) (fun r hr=>(t2 hr))))⟩

def fE(rec_1:Int→oF→iA→Option C6)(b:Int)(c:oF)(d:iA):Option C6:=
  rec_1 (IntKind.i64.wrap (b+1)) c d
def iO(rec_1:Int→oF→iA→Option C6)(d:Int)(b:bA)(e:bV):Nat→Int→oF→iA→Option C6
  | 0,_,_,_=>none
  | l+1,c,f,g=>
    if (decide (c < (b.Names.length:Int)))=true then ((idx b.Names c).bind fun j=>(yB e.Part.Path j).bind fun k=>(hC f g 2 k.1).bind fun i=>iO rec_1 d b e l (IntKind.i64.wrap (c+1)) i.1 i.2) else (fE rec_1 d f g)
def dJ(c:List bV)(d:List bA):Nat→Int→oF→iA→Option C6
  | 0,_,_,_=>none
  | i+1,b,f,g=>
    if (decide (b < (c.length:Int)))=true then ((idx c b).bind fun e=>if (e.Part.Kind == 2)=true then ((idx d b).bind fun n=>(hC f g 1 n.Path).bind fun j=>fE (dJ c d i) b j.1 j.2) else (if (e.Part.Kind == 3)=true then ((hC f g 2 e.Part.Path).bind fun k=>fE (dJ c d i) b k.1 k.2) else (if (e.Part.Kind == 5)=true then ((hC f g 3 e.Part.Path).bind fun l=>fE (dJ c d i) b l.1 l.2) else (if (e.Part.Kind == 10)=true then ((idx d b).bind fun m=>iO (dJ c d i) b m e (((m.Names.length:Int) - 0:Int).toNat+1) 0 f g) else (fE (dJ c d i) b f g))))) else (some (f,g))
def rW(c:List aP)(d:List aH)(b:List bV)(e:List bA):Option C6:=
  dJ b e (((b.length:Int) - 0:Int).toNat+1) 0 c d
theorem Cm{k:Nat}{W X l m n o p q s t u:Value}{Y:List aP}{Z:List aH}{c:List bV}{x:List bA}(H:Sep w (Blk k 87 [n,o,p,q,W,X,s,t,u]::Fo) rs)(b3:rSl bB W Y ∈ rs)(b4:rSl aN X Z ∈ rs)(B:rSl bN l c ∈ rs)(C:rSl aU m x ∈ rs){r:oF×iA}(hm:rW Y Z c x=some r) :
    Cf 158 [pt k 0,l,m] w fun v w'=>∃ c7 c8,.tuple #[]=v∧Sep w' (Blk k 87 [n,o,p,q,c7,c8,s,t,u]::Fo) (rSl bB c7 r.1::rSl aN c8 r.2::rs):=by
 unfold rW at hm
 refine ent Tryz.func158 rfl Tryz.ntmps158 rfl rfl fun a E=>sp 1 E rfl fun a E=>lS E H B U26 rfl fun a E=>pn 1 E rfl fun a E=>wp_block<|bD (fun y a w=>∃ D F g G I i,Env 70 a [(0,pt k 0),(2,m),(12,l),(13,.int .i64 (c.length:Int)),(14,.int .i64 g)]∧Sep w (Blk k 87 [n,o,p,q,D,F,s,t,u]::Fo) i∧(∀ r,r ∈ rs→r ∈ i)∧rSl bB D G ∈ i∧rSl aN F I ∈ i∧dJ c x y g G I=some r) (((c.length:Int) - 0:Int).toNat+1) ?_ ?_
 ·exact X6 ⟨E.to rfl,H,Y0,b3,b4,hm⟩
 ·clear E H hm
  rintro y a w ⟨D,F,g,G,I,i,E,H,b,d,e,hm⟩
  cases y with
  | zero=>exact (aZ hm rfl).elim
  | succ y=>
   unfold dJ at hm
   refine sq<|pn 1 E rfl fun a E=>wp_seq<|wif E hm rfl (fun hm=>?_) fun hm=>?_
   ·refine wp_skip<|aA<|aK (fun a w=>∃ J K L M j,Env 70 a [(0,pt k 0),(2,m),(12,l),(13,.int .i64 (c.length:Int)),(14,.int .i64 g)]∧Sep w (Blk k 87 [n,o,p,q,J,K,s,t,u]::Fo) j∧(∀ r,r ∈ rs→r ∈ j)∧rSl bB J L ∈ j∧rSl aN K M ∈ j∧fE (dJ c x y) g L M=some r) ?_ ?_
    ·refine wp_block<|sp 1 E rfl fun a E=>bd hm fun b0 b5 hm=>cN E H (wn rfl) rfl rfl rfl rfl rfl (b _ B) U26 C5 b5 fun q54 a H E=>ldf wZ E H rfl rfl rfl rfl rfl m0 U99 rfl C5 fun a E=>al2 E H rfl Rz fun b1 w a H E=>pr 1 E rfl fun a E=>ss 0 E H rfl C5 rfl fun w H=>xp 2 E rfl fun a E=>lb2 E H 0 U3 rfl fun a E=>nt<|wp_block<|sq<|pn 2 E rfl fun a E=>wif E hm rfl (fun hm=>?_) fun hm=>?_
     ·refine wp_region_lit<|pr 3 E rfl fun a E=>bd hm fun c9 b6 hm=>cN E H (wn rfl) rfl rfl rfl rfl rfl (t1 (b _ C)) U40 eH b6 fun q58 a H E=>have H:=H.derive1 m0 (rAt kS (q58.add 1) c9.Path) (fun ok h=>Ft h);pr 1 E rfl fun a E=>sv2 E rfl (pJ E H rfl rfl m0 U9 rfl) fun a E=>have H:=H.frs [0,1] rfl;bd hm fun d0 b7 hm=>xc2 E rfl (cf_ 233) (sX H (t3 d) (t3 e) b7)<|?_
      rintro _ w ⟨d1,d2,rfl,H⟩ a E
      exact wpList_nil<|bH<|bH<|aA<|have H:=H.drop 1;X5 ⟨E.to rfl,H,(Y5 b),m0,mm1,hm⟩
     ·refine sq<|pn 2 E rfl fun a E=>wif E hm rfl (fun hm=>?_) fun hm=>?_
      ·refine wp_region_lit<|pr 3 E rfl fun a E=>lb2 E H 0 U9 rfl fun a E=>have H:=H.frs [0,1] rfl;bd hm fun d3 b8 hm=>xc2 E rfl (cf_ 233) (sX H (t1 d) (t1 e) b8)<|?_
       rintro _ w ⟨d4,d5,rfl,H⟩ a E
       exact wpList_nil<|bH<|bH<|aA<|have H:=H.drop 1;X5 ⟨E.to rfl,H,(Y3 b),m0,mm1,hm⟩
      ·refine sq<|pn 2 E rfl fun a E=>wif E hm rfl (fun hm=>?_) fun hm=>?_
       ·refine wp_region_lit<|pr 3 E rfl fun a E=>lb2 E H 0 U9 rfl fun a E=>have H:=H.frs [0,1] rfl;bd hm fun d6 b9 hm=>xc2 E rfl (cf_ 233) (sX H (t1 d) (t1 e) b9)<|?_
        rintro _ w ⟨d7,d8,rfl,H⟩ a E
        exact wpList_nil<|bH<|bH<|aA<|have H:=H.drop 1;X5 ⟨E.to rfl,H,(Y3 b),m0,mm1,hm⟩
       ·refine sq<|pn 2 E rfl fun a E=>wif E hm rfl (fun hm=>?_) fun hm=>?_
        ·refine sp 2 E rfl fun a E=>bd hm fun z c0 hm=>cN E H (wn rfl) rfl rfl rfl rfl rfl (t1 (b _ C)) U40 eH c0 fun q73 a H E=>have H:=H.derive1 m0 (rAt (kL kS) (q73.add 4) z.Names) (fun ok h=>Fu h);pr 1 E rfl fun a E=>BP E H (wn rfl) rfl rfl rfl rfl m0 U33 rfl fun b2 a H E=>lS E H m0 U33 rfl fun a E=>pr 1 E rfl fun a E=>nt<|wp_block<|bD (fun A a w=>∃ N O P Q R f,Env 70 a [(0,pt k 0),(2,m),(7,pt b1 0),(12,l),(13,.int .i64 (c.length:Int)),(14,.int .i64 g),(51,b2),(52,.int .i64 (z.Names.length:Int)),(53,.int .i64 P)]∧Sep w (Blk k 87 [n,o,p,q,N,O,s,t,u]::Blk b1 99 (Es b0)::Fo) f∧(∀ r,r ∈ rs→r ∈ f)∧rSl kS b2 z.Names ∈ f∧rSl bB N Q ∈ f∧rSl aN O R ∈ f∧iO (dJ c x y) g z b0 A P Q R=some r) (((z.Names.length:Int) - 0:Int).toNat+1) ?_ ?_
         ·exact have H:=H.frs [0,1] rfl;X6 ⟨E.to rfl,H,(Y4 b),m0,(t4 d),(t4 e),hm⟩
         ·clear E H hm
          rintro A a w ⟨N,O,P,Q,R,f,E,H,S,T,U,V,hm⟩
          cases A with
          | zero=>exact (aZ hm rfl).elim
          | succ A=>
           unfold iO at hm
           refine sq<|pn 1 E rfl fun a E=>wp_seq<|wif E hm rfl (fun hm=>?_) fun hm=>?_
           ·refine wp_skip<|aA<|wp_seq<|wp_block<|sq<|bd hm fun d9 c1 hm=>cN E H (wn rfl) rfl rfl rfl rfl rfl T U33 sz9 c1 fun q87 a H E=>sv2 E rfl (pJ E H rfl rfl m0 U9 rfl) fun a E=>pr 1 E rfl fun a E=>xp 2 E rfl fun a E=>lb2 E H 1 U9 rfl fun a E=>pr 1 E rfl fun a E=>bd hm fun e0 c2 hm=>xk2 E rfl (cf_ 208) (Ew H c2) fun w H a E=>pn 5 E rfl fun a E=>wp_region_lit<|pr 2 E rfl fun a E=>bd hm fun e1 c3 hm=>xc2 E rfl (cf_ 233) (sX H (t1 U) (t1 V) c3)<|?_
            rintro _ w ⟨e2,e3,rfl,H⟩ a E
            exact wpList_nil<|bH<|aA<|wp_region_lit<|pn 2 E rfl fun a E=>⟨A,Nat.lt_succ_self A,X6 ⟨E.to rfl,H,(Y3 S),(t3 T),m0,mm1,hm⟩⟩
           ·exact wp_exit<|aL<|aL<|cH<|bH<|bH<|aA<|have H:=H.drop 1;X5 ⟨E.to rfl,H,S,U,V,hm⟩
        ·exact wp_skip<|bH<|bH<|aA<|have H:=H.drop 0;X5 ⟨E.to rfl,H,(Y1 b),(t1 d),(t1 e),hm⟩
    ·clear E H hm
     rintro a w ⟨J,K,L,M,j,E,H,c4,c5,c6,hm⟩
     unfold fE at hm
     exact wp_region_lit<|pn 2 E rfl fun a E=>⟨y,Nat.lt_succ_self y,X6 ⟨E.to rfl,H,c4,c5,c6,hm⟩⟩
   ·refine wp_exit<|aL<|aL<|cH<|vC E rfl<|?_
    cases hm
    exact ⟨_,_,rfl,H.reads (aE d (aE e (b)))⟩

def qB(g:List aD)(i:List aJ)(c:List aP)(d:List aH)(e:List bV):Option Sg:=
  (vJ (⟨g,i⟩:aF) e).bind fun b=>if (b.2.2.1 != 0)=true then (some ((⟨b.2.2.1,b.2.2.2,false,0,[],(⟨[],[]⟩:aF),[],[],[]⟩:aW),g,i,c,d)) else ((rW c d e b.2.1).bind fun f=>some ((⟨0,0,false,0,b.2.1,(⟨[],[]⟩:aF),[],[],[]⟩:aW),b.1.Nodes,b.1.Turns,f.1,f.2))
theorem K2{B:Nat}{C D j k l m n o p q:Value}{F:List aD}{G:List aJ}{s:List aP}{t:List aH}{u:List bV}(H:Sep w (Blk B 87 [C,D,m,n,j,k,o,p,q]::Fo) rs)(c:rSl aB C F ∈ rs)(d:rSl aC D G ∈ rs)(e:rSl bB j s ∈ rs)(f:rSl aN k t ∈ rs)(g:rSl bN l u ∈ rs)(I:y7 Tryz.prog ∈ rs){r:aW×cD×cP×oF×iA}(hm:qB F G s t u=some r) :
    Cf 101 [pt B 0,l] w fun v w'=>∃ L M N O P Q R x y z,.agg (bJ r.1 L M N O P Q).toArray=v∧Sep w' (Blk B 87 [R,x,m,n,y,z,o,p,q]::Fo) (rSl aU L r.1.Results::rSl aB M r.1.Store.Nodes::rSl aC N r.1.Store.Turns::rSl aT O r.1.Events::rSl bU P r.1.Mounts::rSl (kI .i64) Q r.1.Wounded::rSl aB R r.2.1::rSl aC x r.2.2.1::rSl bB y r.2.2.2.1::rSl aN z r.2.2.2.2::rs):=by
 unfold qB at hm
 refine ent Tryz.func101 rfl Tryz.ntmps101 rfl rfl fun a E=>sq<|al2 E H rfl tI fun U w a H E=>xp 3 E rfl fun a E=>ln 1 [C,D] E H U25 rfl bK fun a E=>pr 1 E rfl fun a E=>bd hm fun b J hm=>xc2 E rfl (cf_ 23) (S4 (x1:=(⟨F,G⟩:aF)) H c d g I J)<|?_
 rintro _ w ⟨S,T,V,rfl,H⟩ a E
 refine pr 5 E rfl fun a E=>al2 E H rfl lT fun W w a H E=>ss 0 E H rfl bK (bQ H m0 mm1) fun w H=>pn 3 E rfl fun a E=>wp_seq<|sq<|pn 2 E rfl fun a E=>wif E hm rfl (fun hm=>?_) fun hm=>?_
 ·refine sp 2 E rfl fun a E=>sv2 E rfl (bP E rfl (E.evs rfl) (v:=.agg #[.int .i64 b.2.2.1,.int .i64 b.2.2.2,.bool false,.int .i64 0,nS,nS,nS,nS,nS,nS]) (by kernel_rfl)) fun a E=>ss 2 E H rfl cV rfl fun w H=>nt<|wp_ret<|aG<|oB 2 [.int .i64 b.2.2.1,.int .i64 b.2.2.2,.bool false,.int .i64 0,nS,nS,nS,nS,nS,nS] E H U48 rfl cV<|have H:=H.nilSl aU;have H:=H.nilSl aB;have H:=H.nilSl aC;have H:=H.nilSl aT;have H:=H.nilSl bU;have H:=H.nilSl (kI .i64);have H:=H.drs [0,0,0];?_
  cases hm
  exact X10 ⟨rfl,H.rdx [5,4,3,2,1,0] rfl (aE (t8 c) (aE (t8 d) (aE (t8 e) (aE (t8 f) (fun r hr=>(t8 hr))))))⟩
 ·refine wp_skip<|aA<|sp 1 E rfl fun a E=>ln 0 [S,T] E H U25 rfl bK fun a E=>pr 2 E rfl fun a E=>ss 3 E H rfl bK (bQ H m0 mm1) fun w H=>xp 3 E rfl fun a E=>have H:=H.thaw (i:=1) rfl;have H:=H.frs [1,1,2] rfl;bd hm fun X K hm=>xc2 E rfl (cf_ 158) (Cm H (t3 e) (t3 f) (t3 g) m0 K)<|?_
  rintro _ w ⟨Y,Z,rfl,H⟩ a E
  refine xp 1 E rfl fun a E=>?_
  obtain ⟨q44,A,rfl⟩:=H.slform mm2
  refine sv2 E rfl (bP E rfl (E.evs rfl) (v:=.agg #[.int .i64 0,.int .i64 0,.bool false,.int .i64 0,(.slice q44 b.2.1.length A),nS,nS,nS,nS,nS]) (by kernel_rfl)) fun a E=>ss 2 E H rfl cV rfl fun w H=>nt<|wp_ret<|oB 2 [.int .i64 0,.int .i64 0,.bool false,.int .i64 0,(.slice q44 b.2.1.length A),nS,nS,nS,nS,nS] E H U48 rfl cV<|have H:=H.nilSl aB;have H:=H.nilSl aC;have H:=H.nilSl aT;have H:=H.nilSl bU;have H:=H.nilSl (kI .i64);have H:=H.drs [1,1];?_
  cases hm
  exact X10 ⟨rfl,H.reads (aE (t1 mm6) (aE mm4 (aE mm3 (aE mm2 (aE mm1 (aE m0 (aE (t2 mm6) (aE (t3 mm6) (aE mm5 (aE mm6 (fun r hr=>(t2 (t8 hr)))))))))))))⟩

def qH(b:mH)(c:List sU)(d:cD)(e:cP)(f:oF)(g:iA):Option Jl:=
  some ((⟨0,0,false,0,[],(⟨[],[]⟩:aF),[],[],[]⟩:aW),d,e,b,f,g,c)
def qI(c:mH)(d:List sU)(i:List aD)(j:List aJ)(e:List aP)(f:List aH)(k:xB)(g:Bool):Option Jl:=
  if g=true then ((qB i j e f k).bind fun b=>qH c d b.2.1 b.2.2.1 b.2.2.2.1 b.2.2.2.2) else (qH c d i j e f)
def qJ(g:List aD)(i:List aJ)(b:List aP)(c:List aH)(j:xB)(k:List aO)(d:List sU)(l:Bool)(x20:aS)(m:Bool)(n:Bool):Option Jl:=
  if n=true then ((fC 2).bind fun o=>some (o,g,i,k,b,c,d)) else (if l=true then (some ((⟨0,0,false,0,[],(⟨[],[]⟩:aF),[],[],[]⟩:aW),g,i,k,b,c,d)) else ((mpt (kyI .i64) d x20.Txn (⟨true,[],(⟨0,0,false,0,[],(⟨[],[]⟩:aF),[],[],[]⟩:aW)⟩:eR)).bind fun e=>(M7 k x20.Txn).bind fun f=>if x20.Yes=true then (qI f e g i b c j m) else (qI f e g i b c j false)))
def qK(i:List aD)(j:List aJ)(c:List aP)(d:List aH)(e:xB)(k:List aO)(b:List sU)(f:Bool)(x20:aS)(g:Bool)(l:Bool)(m:Bool):Option Jl:=
  if m=true then ((fC 62).bind fun n=>some (n,i,j,k,c,d,b)) else (if (!l)=true then (qJ i j c d e k b f x20 g ((b.length:Int) == 128)) else (qJ i j c d e k b f x20 g false))
def uF(j:List aD)(k:List aJ)(c:List aP)(d:List aH)(l:List aO)(e:List sU)(x20:aS)(b:Bool)(f:Bool)(g:xB)(m:Int)(n:Int)(i:Bool)(o:Int)(p:x5)(q:cD)(s:cP)(t:(List cE))(u:(List vD))(v:(List Int)):Option Jl:=
  if (!b)=true then (qK j k c d g l e f x20 i b x20.Yes) else (qK j k c d g l e f x20 i b false)
def xF(f:List aD)(g:List aJ)(i:List aO)(d:List aP)(e:List aH)(c:List sU)(x20:aS):Option Jl:=
  (Fk (kyI .i64) c x20.Txn Q6).bind fun b=>uF f g d e i c x20 b.2 b.1.over_ b.1.pieces_ b.1.a_.Err b.1.a_.At b.1.a_.Yes b.1.a_.Epoch b.1.a_.Results b.1.a_.Store.Nodes b.1.a_.Store.Turns b.1.a_.Events b.1.a_.Mounts b.1.a_.Wounded
theorem Ac{l d:Nat}{b1 b2 c0 y z L M N O m n o:Value}{d1:List aD}{d2:List aJ}{d3:List aO}{P:List aP}{Q:List aH}{A:List sU}{x20:aS}(H:Sep w (Blk l 87 [b1,b2,m,c0,y,z,n,.map (some d),o]::cG Tryz.prog 2 (kyI .i64) cY true d A::Fo) rs)(F:rSl aB b1 d1 ∈ rs)(G:rSl aC b2 d2 ∈ rs)(U:rSl aV c0 d3 ∈ rs)(I:rSl bB y P ∈ rs)(J:rSl aN z Q ∈ rs)(f9:y7 Tryz.prog ∈ rs){r:aW×cD×cP×mH×oF×iA×Z8}(hm:xF d1 d2 d3 P Q A x20=some r) :
    Cf 44 [pt l 0,.agg (aX x20 L M N O).toArray] w fun v w'=>∃ g8 g9 i0 i1 i2 i3 i4 e9 f0 f1 f2,.agg (bJ r.1 g8 g9 i0 i1 i2 i3).toArray=v∧Sep w' (Blk l 87 [i4,e9,m,f0,f1,f2,n,.map (some d),o]::cG Tryz.prog 2 (kyI .i64) cY true d r.2.2.2.2.2.2::Fo) (rSl aU g8 r.1.Results::rSl aB g9 r.1.Store.Nodes::rSl aC i0 r.1.Store.Turns::rSl aT i1 r.1.Events::rSl bU i2 r.1.Mounts::rSl (kI .i64) i3 r.1.Wounded::rSl aB i4 r.2.1::rSl aC e9 r.2.2.1::rSl aV f0 r.2.2.2.1::rSl bB f1 r.2.2.2.2.1::rSl aN f2 r.2.2.2.2.2.1::rs):=by
 unfold xF at hm
 refine ent Tryz.func44 rfl Tryz.ntmps44 rfl rfl fun a E=>sq<|bx E H rfl fun p w a H E=>al2 E H rfl tI fun k w a H E=>nt<|aK (fun a w=>∃ q s b3 b4 b5 b6 b7 b8 b9 B t R S C T f3 f4 f5 f6 f7 f8 V,Env 70 a [(0,pt l 0),(3,pt p 0),(4,pt k 0),(5,pt q 0),(6,.bool b9)]∧Sep w (Blk l 87 [b1,b2,m,c0,y,z,n,.map (some d),o]::Blk p 37 (aX x20 L M N O)::Blk k 48 dC::Blk q 154 [.bool B,s,.int .i64 R,.int .i64 S,.bool C,.int .i64 T,b3,b4,b5,b6,b7,b8]::cG Tryz.prog 2 (kyI .i64) cY true d A::Fo) V∧(∀ r,r ∈ rs→r ∈ V)∧rSl bN s t ∈ V∧uF d1 d2 P Q d3 A x20 b9 B t R S C T f3 f4 f5 f6 f7 f8=some r) ?_ ?_
 ·refine bd hm fun j3 d0 hm=>?_
  have hI:dZ [Blk p 37 (aX x20 L M N O),Blk l 87 [b1,b2,m,c0,y,z,n,.map (some d),o]] [] { w with drawn:=w.drawn+1 }:=⟨_,_,H.kept (Kp.drawn _ w _),(aM mm1 (aM mm2 (bC))),(bG)⟩
  refine wV _ (.go 0 0 (.go 1 0 (.go 2 0 (.go 3 0 (.go 4 0 (.go 5 0 (.alt 6 (.go 7 0 (.go 8 0 (.go 9 0 (.go 10 1 (.go 11 1 (.go 12 2 .nil)))))) 10 (.go 6 1 (.go 7 0 (.go 8 0 (.go 9 0 (.go 11 1 (.go 12 2 .nil))))))))))))) [12] xZ (by kernel_rfl) (fun _ _ _ h=>False.elim h.2) hI<|have H:=H.kept (Kp.drawn _ w (w.drawn+1));?_
  generalize ({ w with drawn:=w.drawn+1 }:World)=w at H hI ⊢
  replace hI:∃ W,dZ [Blk p 37 (aX x20 L M N O),Blk l 87 [b1,b2,m,c0,y,z,n,.map (some d),o]] [] W:=⟨_,hI⟩
  obtain ⟨W0,hI⟩:=hI
  refine om E rfl fun a E=>ov E rfl (fun w hW=>(K4 E rfl rfl)) fun a E=>ov E rfl (fun w hW=>yC E rfl rfl (v:=pt l 7) (Ns _ _)) fun a E=>ol E mm1 U85 rfl fun a E=>ov E rfl (fun w hW=>yC E rfl rfl (v:=pt p 2) (Hr _ _)) fun a E=>ol E m0 U2 rfl fun a E=>uO rfl rfl ?_ ?_
  ·refine zH (i:=3) (K:=(kyI .i64)) E H (wn rfl) rfl rfl rfl rfl rfl rfl (iW U2) U85 Hy Md d0 fun j4 a H E=>?_
   obtain ⟨j5,j6,j7,j8,j9,k0,k1,rfl,h⟩:=G1 H;clear H;have H:=h
   refine nt<|⟨sx H [1,2] rfl,om E rfl fun a E=>ox E rfl fun a E=>ox E rfl fun a E=>dK rfl<|al2 E H rfl Me fun k2 w a H E=>nt<|⟨sx H [2,3] rfl,dK rfl<|ss 0 E H rfl Mf (x4 H mm6 mm5 mm4 mm3 mm2 mm1 m0) fun w H=>nt<|⟨sx H [2,3] rfl,eL rfl<|pn 1 E rfl fun a E=>iK<|?_⟩⟩⟩
   clear hI
   exact aA<|have H:=H.frs [4,1,2,3,4] rfl;X22 ⟨E.to rfl,H,(Y8 Y0),mm6,hm⟩
  ·refine al2 E H rfl Me fun k3 w a H E=>nt<|⟨sx H [2,3] rfl,dK rfl<|zH (i:=4) (K:=(kyI .i64)) E H (wn rfl) rfl rfl rfl rfl rfl rfl (iW U2) U85 Hy Md d0 fun k4 a H E=>?_⟩
   obtain ⟨k5,k6,k7,k8,k9,l0,l1,rfl,h⟩:=G1 H;clear H;have H:=h
   refine nt<|⟨sx H [2,3] rfl,om E rfl fun a E=>ox E rfl fun a E=>ox E rfl fun a E=>dK rfl<|ss 0 E H rfl Mf (x4 H mm6 mm5 mm4 mm3 mm2 mm1 m0) fun w H=>nt<|⟨sx H [2,3] rfl,eL rfl<|pn 1 E rfl fun a E=>iK<|?_⟩⟩
   clear hI
   exact aA<|have H:=H.frs [4,1,2,3,4] rfl;X22 ⟨E.to rfl,H,(Y8 Y0),mm6,hm⟩
 ·clear E H hm
  rintro a w ⟨q,s,b3,b4,b5,b6,b7,b8,b9,B,t,R,S,C,T,f3,f4,f5,f6,f7,f8,V,E,H,d4,d5,hm⟩
  unfold uF at hm
  refine wp_seq<|wp_block<|aK (fun a w=>∃ d6 X,Env 70 a [(0,pt l 0),(3,pt p 0),(4,pt k 0),(5,pt q 0),(6,.bool b9),(17,.bool d6)]∧Sep w (Blk l 87 [b1,b2,m,c0,y,z,n,.map (some d),o]::Blk p 37 (aX x20 L M N O)::Blk k 48 dC::Blk q 154 [.bool B,s,.int .i64 R,.int .i64 S,.bool C,.int .i64 T,b3,b4,b5,b6,b7,b8]::cG Tryz.prog 2 (kyI .i64) cY true d A::Fo) X∧(∀ r,r ∈ rs→r ∈ X)∧rSl bN s t ∈ X∧qK d1 d2 P Q t d3 A B x20 C b9 d6=some r) ?_ ?_
  ·refine wp_region_lit<|pr 3 E rfl fun a E=>cs hm (fun u hm=>?_) fun u hm=>?_
   ·exact pk 1 E (kc 20 rfl u) rfl fun a E=>gl 20 E H 1 u U4 rfl fun a E=>pk 2 E (kc 20 rfl u) rfl fun a E=>nt<|⟨_,_,E.to rfl,H,d4,d5,hm⟩
   ·exact pk 4 E (kc 20 rfl u) rfl fun a E=>nt<|⟨_,_,E.to rfl,H,d4,d5,hm⟩
  ·clear E H hm
   rintro a w ⟨d6,X,E,H,f,d7,hm⟩
   unfold qK at hm
   refine wif E hm rfl (fun hm=>?_) fun hm=>?_
   ·refine sq<|bd hm fun i5 g0 hm=>xc2 E rfl (cf_ 53) (gP H g0)<|?_
    rintro _ w ⟨i6,i7,i8,i9,j0,j1,rfl,H⟩ a E
    refine ss 2 E H rfl cV (bR H m0 mm1 mm2 mm3 mm4 mm5) fun w H=>nt<|wp_ret<|bF<|aG<|oB 2 (bJ i5 i6 i7 i8 i9 j0 j1) E H U48 rfl cV<|have H:=H.drs [1,1,1];?_
    cases hm
    exact X11 ⟨rfl,H.rdx [0,1,2,3,4,5] rfl (aE (t6 (f _ F)) (aE (t6 (f _ G)) (aE (t6 (f _ U)) (aE (t6 (f _ I)) (aE (t6 (f _ J)) (fun r hr=>(t6 (f r hr))))))))⟩
   ·refine aK (fun a w=>∃ d8 Y,Env 70 a [(0,pt l 0),(3,pt p 0),(4,pt k 0),(5,pt q 0),(25,.bool d8)]∧Sep w (Blk l 87 [b1,b2,m,c0,y,z,n,.map (some d),o]::Blk p 37 (aX x20 L M N O)::Blk k 48 dC::Blk q 154 [.bool B,s,.int .i64 R,.int .i64 S,.bool C,.int .i64 T,b3,b4,b5,b6,b7,b8]::cG Tryz.prog 2 (kyI .i64) cY true d A::Fo) Y∧(∀ r,r ∈ rs→r ∈ Y)∧rSl bN s t ∈ Y∧qJ d1 d2 P Q t d3 A B x20 C d8=some r) ?_ ?_
    ·refine wp_region_lit<|pr 3 E rfl fun a E=>cs hm (fun j hm=>?_) fun j hm=>?_
     ·exact pk 3 E (kc 28 rfl j) rfl fun a E=>gl 28 E H 0 j U85 rfl fun a E=>gv 28 E j rfl (Bt (i:=4) E H rfl rfl rfl U85) fun a E=>pk 3 E (kc 28 rfl j) rfl fun a E=>nt<|⟨_,_,E.to rfl,H,f,d7,hm⟩
     ·exact pk 8 E (kc 28 rfl j) rfl fun a E=>nt<|⟨_,_,E.to rfl,H,f,d7,hm⟩
    ·clear E H hm
     rintro a w ⟨d8,Y,E,H,b,d9,hm⟩
     unfold qJ at hm
     refine wif E hm rfl (fun hm=>?_) fun hm=>?_
     ·refine sq<|bd hm fun j2 g1 hm=>xc2 E rfl (cf_ 53) (gP H g1)<|?_
      rintro _ w ⟨g2,g3,g4,g5,g6,g7,rfl,H⟩ a E
      refine ss 2 E H rfl cV (bR H m0 mm1 mm2 mm3 mm4 mm5) fun w H=>nt<|wp_ret<|bF<|aG<|oB 2 (bJ j2 g2 g3 g4 g5 g6 g7) E H U48 rfl cV<|have H:=H.drs [1,1,1];?_
      cases hm
      exact X11 ⟨rfl,H.rdx [0,1,2,3,4,5] rfl (aE (t6 (b _ F)) (aE (t6 (b _ G)) (aE (t6 (b _ U)) (aE (t6 (b _ I)) (aE (t6 (b _ J)) (fun r hr=>(t6 (b r hr))))))))⟩
     ·refine sp 1 E rfl fun a E=>lb2 E H 3 U4 rfl fun a E=>pn 1 E rfl fun a E=>wif E hm rfl (fun hm=>?_) fun hm=>?_
      ·refine sq<|sv2 E rfl (bP E rfl (E.evs rfl) (v:=.agg dC.toArray) (by kernel_rfl)) fun a E=>ss 2 E H rfl cV rfl fun w H=>nt<|wp_ret<|bF<|aG<|Rj E rfl (eJ (i:=2) (us:=dC) H rfl rfl rfl U48 rfl cV)<|have H:=H.nilSl aU;have H:=H.nilSl aB;have H:=H.nilSl aC;have H:=H.nilSl aT;have H:=H.nilSl bU;have H:=H.nilSl (kI .i64);have H:=H.drs [1,1,1];?_
       cases hm
       exact X11 ⟨rfl,H.rdx [5,4,3,2,1,0] rfl (aE (t6 (b _ F)) (aE (t6 (b _ G)) (aE (t6 (b _ U)) (aE (t6 (b _ I)) (aE (t6 (b _ J)) (fun r hr=>(t6 (b r hr))))))))⟩
      ·refine wp_skip<|bH<|aA<|wp_seq<|dz [0,0,0,0,0,0,0,2] [0,1] H fun w W0 hI H=>fn 3 E rfl fun a E=>fb2 E m0 U85 rfl fun a E=>fn 1 E rfl fun a E=>fb2 E mm1 U2 rfl fun a E=>fv E rfl (fun w hW=>(bP E rfl (E.evs rfl) (v:=.agg #[.bool true,nS,.int .i64 0,.int .i64 0,.bool false,.int .i64 0,nS,nS,nS,nS,nS,nS]) (by kernel_rfl))) fun a E=>bL rfl<|bd hm fun Z e0 hm=>Dk (i:=4) (K:=(kyI .i64)) (v:=(⟨true,[],(⟨0,0,false,0,[],(⟨[],[]⟩:aF),[],[],[]⟩:aW)⟩:eR)) (cs:=[.bool true,nS,.int .i64 0,.int .i64 0,.bool false,.int .i64 0,nS,nS,nS,nS,nS,nS]) E H (wn rfl) rfl rfl rfl rfl rfl rfl (iW U2) U85 e0 (fun ok hr=>(E9 (Sl.nil _ _ _) (Sl.nil _ _ _) (Sl.nil _ _ _) (Sl.nil _ _ _) (Sl.nil _ _ _) (Sl.nil _ _ _) (Sl.nil _ _ _))) fun w H=>nt<|aY<|?_
       clear hI
       refine aA<|wp_seq<|dz [0,0,0,0,0,0,0,1,2,2,2] [0,1] H fun w W0 hI H=>fn 4 E rfl fun a E=>fb2 E m0 U58 rfl fun a E=>fn 1 E rfl fun a E=>fb2 E mm1 U2 rfl fun a E=>bI rfl<|bd hm fun g e1 hm=>xc2 E rfl (cf_ 103) (Nw H (b _ U) e1)<|?_
       rintro _ w ⟨l2,rfl,H⟩ a E
       refine nt<|⟨sx H [1,2] rfl,bL rfl<|pn 1 E rfl fun a E=>bL rfl<|pn 1 E rfl fun a E=>bL rfl<|?_⟩
       obtain ⟨q111,b0,rfl⟩:=H.rowform (i:=0) rfl
       refine ss 1 E H rfl EC rfl fun w H=>nt<|aY<|?_
       clear hI
       refine aA<|aK (fun a w=>∃ c1 c2 c3 c4 c5 c6 c7 c8 e,Env 70 a [(4,pt k 0)]∧Sep w (Blk k 48 dC::Blk l 87 [c1,c2,m,(.slice q111 g.length b0),c3,c4,n,.map (some d),o]::cG Tryz.prog 2 (kyI .i64) cY true d Z::Row 78 aV (.slice q111 g.length b0) g::Fo) e∧(∀ r,r ∈ rs→r ∈ e)∧rSl aB c1 c5 ∈ e∧rSl aC c2 c6 ∈ e∧rSl bB c3 c7 ∈ e∧rSl aN c4 c8 ∈ e∧qH g Z c5 c6 c7 c8=some r) ?_ ?_
       ·refine aK (fun a w=>∃ c9 D,Env 70 a [(0,pt l 0),(4,pt k 0),(5,pt q 0),(64,.bool c9)]∧Sep w (Blk l 87 [b1,b2,m,(.slice q111 g.length b0),y,z,n,.map (some d),o]::Blk k 48 dC::Blk q 154 [.bool B,s,.int .i64 R,.int .i64 S,.bool C,.int .i64 T,b3,b4,b5,b6,b7,b8]::cG Tryz.prog 2 (kyI .i64) cY true d Z::Row 78 aV (.slice q111 g.length b0) g::Fo) D∧(∀ r,r ∈ rs→r ∈ D)∧rSl bN s t ∈ D∧qI g Z d1 d2 P Q t c9=some r) ?_ ?_
        ·refine wp_region_lit<|pr 1 E rfl fun a E=>lb2 E H 2 U4 rfl fun a E=>pr 1 E rfl fun a E=>cs hm (fun x hm=>?_) fun x hm=>?_
         ·exact pk 2 E (kc 60 rfl x) rfl fun a E=>gl 60 E H 4 x U4 rfl fun a E=>pk 1 E (kc 60 rfl x) rfl fun a E=>nt<|have H:=H.drop 2;have H:=H.frs [0,4,4,4,4] rfl;⟨_,_,E.to rfl,H,b,d9,hm⟩
         ·exact pk 4 E (kc 60 rfl x) rfl fun a E=>nt<|have H:=H.drop 2;have H:=H.frs [0,4,4,4,4] rfl;⟨_,_,E.to rfl,H,b,d9,hm⟩
        ·clear E H hm
         rintro a w ⟨c9,D,E,H,c,e2,hm⟩
         unfold qI at hm
         refine wif E hm rfl (fun hm=>?_) fun hm=>?_
         ·refine wp_region_lit<|pr 2 E rfl fun a E=>lb2 E H 2 U26 rfl fun a E=>bd hm fun l3 e3 hm=>xc2 E rfl (cf_ 101) (K2 H (c _ F) (c _ G) (c _ I) (c _ J) e2 (c _ f9) e3)<|?_
          rintro _ w ⟨l4,l5,l6,l7,l8,l9,m1,m2,m3,m4,rfl,H⟩ a E
          exact nt<|have H:=H.drop 2;have H:=H.frs [3,3,2,3] rfl;X9 ⟨E.to rfl,H,(Y2 (Y8 c)),mm6,(t1 mm6),(t2 mm6),(t3 mm6),hm⟩
         ·exact wp_skip<|aA<|have H:=H.drop 2;have H:=H.frs [3,3,2,3] rfl;X9 ⟨E.to rfl,H,c,(c _ F),(c _ G),(c _ I),(c _ J),hm⟩
       ·clear E H hm
        rintro a w ⟨c1,c2,c3,c4,c5,c6,c7,c8,e,E,H,e4,e5,e6,e7,e8,hm⟩
        unfold qH at hm
        refine sq<|sv2 E rfl (bP E rfl (E.evs rfl) (v:=.agg dC.toArray) (by kernel_rfl)) fun a E=>ss 0 E H rfl cV rfl fun w H=>nt<|wp_ret<|Rj E rfl (eJ (i:=0) (us:=dC) H rfl rfl rfl U48 rfl cV)<|have H:=H.nilSl aU;have H:=H.nilSl aB;have H:=H.nilSl aC;have H:=H.nilSl aT;have H:=H.nilSl bU;have H:=H.nilSl (kI .i64);have H:=H.thaw (i:=3) rfl;have H:=H.drop 0;?_
        cases hm
        exact X11 ⟨rfl,H.rdx [6,5,4,3,2,1] rfl (aE (t7 e5) (aE (t7 e6) (aE m0 (aE (t7 e7) (aE (t7 e8) (fun r hr=>(t7 (e4 r hr))))))))⟩

def xV(rec_1:Int→Int→Option Int)(b:Int)(c:Int):Option Int:=
  rec_1 c (IntKind.i64.wrap (b+1))
def uM(rec_1:Int→Int→Option Int)(b:Int)(d:Int)(c:Bool):Option Int:=
  if c=true then (xV rec_1 b b) else (xV rec_1 b d)
def mF(b:List aI)(e:ByteArray):Nat→Int→Int→Option Int
  | 0,_,_=>none
  | g+1,c,d=>
    if (decide (d < (b.length:Int)))=true then ((idx b d).bind fun f=>(zO e f.Prefix).bind fun i=>if i=true then (if (decide (c < 0))=true then (uM (mF b e g) d c true) else ((idx b c).bind fun j=>uM (mF b e g) d c (decide ((f.Prefix.size:Int) > (j.Prefix.size:Int))))) else (uM (mF b e g) d c false)) else ((qE b).bind fun k=>if (!k)=true then (some ((-1))) else (some (c)))
def uX(b:List aI)(c:ByteArray):Option Int:=
  mF b c (((b.length:Int) - 0:Int).toNat+1) (-1) 0
theorem D3{g:Value}{f:List aI}{i:ByteArray}(H:Sep w (Fo) rs)(m:rSl aR g f ∈ rs){r:Int}(hm:uX f i=some r) :
    Cf 24 [g,.string i] w fun v w'=>.int .i64 r=v∧Sep w' (Fo) (rs):=by
 unfold uX at hm
 refine ent Tryz.func24 rfl Tryz.ntmps24 rfl rfl fun a E=>sp 1 E rfl fun a E=>nx<|pn 1 E rfl fun a E=>wp_seq<|sp 1 E rfl fun a E=>lS E H m U32 rfl fun a E=>pn 1 E rfl fun a E=>wp_block<|bD (fun j a w=>∃ n l,Jn 41 a w [(0,g),(1,.string i),(5,.int .i64 n),(8,g),(9,.int .i64 (f.length:Int)),(10,.int .i64 l)] (Fo) rs (mF f i j n l=some r)) (((f.length:Int) - 0:Int).toNat+1) ?_ ?_
 ·exact X3 ⟨E.to rfl,H,Y0,hm⟩
 ·clear E H hm
  rintro j a w ⟨n,l,F,E,H,c,hm⟩
  cases j with
  | zero=>exact (aZ hm rfl).elim
  | succ j=>
   unfold mF at hm
   refine sq<|pn 1 E rfl fun a E=>wp_seq<|wif E hm rfl (fun hm=>?_) fun hm=>?_
   ·refine wp_skip<|aA<|aK (fun a w=>∃ q,Jn 41 a w [(0,g),(1,.string i),(5,.int .i64 q),(8,g),(9,.int .i64 (f.length:Int)),(10,.int .i64 l)] (Fo) rs (xV (mF f i j) l q=some r)) ?_ ?_
    ·refine wp_block<|sp 1 E rfl fun a E=>bd hm fun G s hm=>cN E H (wn rfl) rfl rfl rfl rfl rfl (c _ m) U32 nO s fun q14 a H E=>ldf oI E H rfl rfl rfl rfl rfl m0 U31 rfl nO fun a E=>al2 E H rfl Ni fun I w a H E=>pr 1 E rfl fun a E=>ss 0 E H rfl nO rfl fun w H=>nt<|aK (fun a w=>∃ o,Jn 41 a w [(0,g),(1,.string i),(5,.int .i64 n),(6,.int .i64 l),(8,g),(9,.int .i64 (f.length:Int)),(10,.int .i64 l),(34,.bool o)] (Fo) rs (uM (mF f i j) l n o=some r)) ?_ ?_
     ·obtain ⟨J,H⟩:=H.raw (t1 (c _ m))
      refine dw [(0,0),(1,0),(2,0),(3,1),(4,0),(5,0),(6,0),(7,0),(8,0),(9,0),(10,0),(11,0),(12,0),(13,0),(14,0),(15,0),(16,0),(17,0),(18,0),(19,0)] [0] [0] H (by kernel_rfl) (fun _ _ _ h=>False.elim h.2) fun w W0 hI H=>fn 2 E rfl fun a E=>fb2 E m0 U9 rfl fun a E=>bI rfl<|bd hm fun K t hm=>xk2 E rfl (cf_ 65) (Cg H t) fun w H a E=>nt<|⟨⟨_,_,H,(aM m0 (bC)),(aE m0 (bG))⟩,fn 1 E rfl fun a E=>cs hm (fun e hm=>?_) fun e hm=>?_⟩
      ·refine fk 3 E (kc 19 rfl e) rfl fun a E=>cs hm (fun b hm=>?_) fun b hm=>?_
       ·refine fk 12 E (kc' (kc 22 rfl b) 19 rfl e) rfl fun a E=>aY<|?_
        clear hI
        exact aA<|have H:=H.drop 0;⟨_,_,E.to rfl,H,(Y2 c),hm⟩
       ·refine fk 1 E (kc 22 rfl b) rfl fun a E=>fb E rfl (ws' (d:=22) E rfl rfl rfl rfl b) rfl rfl rfl rfl m0 rfl U9 rfl fun a E=>fk 3 E (kc 22 rfl b) rfl fun a E=>bd hm fun L u hm=>?_
        obtain ⟨q26,M,x,y⟩:=gK (P:=Tryz.prog) (k:=.i64) hI (gD (.head _)) U32 nO u
        refine cZ E rfl (ws' (d:=22) E rfl rfl rfl rfl b) rfl rfl (fun w hW=>jQ E rfl rfl rfl (x w)) fun a E=>?_
        have z:=rO y (fun _ _ _ h=>yT h)
        refine fk 1 E (kc 22 rfl b) rfl fun a E=>fa E rfl (ws' (d:=22) E rfl rfl rfl rfl b) rfl rfl rfl rfl z U9 rfl fun a E=>fk 4 E (kc' (kc 22 rfl b) 19 rfl e) rfl fun a E=>aY<|?_
        clear hI
        exact aA<|have H:=H.drop 0;⟨_,_,E.to rfl,H,(Y2 c),hm⟩
      ·refine fk 15 E (kc 19 rfl e) rfl fun a E=>aY<|?_
       clear hI
       exact aA<|have H:=H.drop 0;⟨_,_,E.to rfl,H,(Y2 c),hm⟩
     ·clear E H hm
      rintro a w ⟨o,C,E,H,p,hm⟩
      unfold uM at hm
      refine wif E hm rfl (fun hm=>?_) fun hm=>?_
      ·exact wp_region_lit<|pr 2 E rfl fun a E=>wpList_nil<|bH<|aA<|⟨_,_,E.to rfl,H,p,hm⟩
      ·exact wp_skip<|bH<|aA<|⟨_,_,E.to rfl,H,p,hm⟩
    ·clear E H hm
     rintro a w ⟨q,D,E,H,A,hm⟩
     unfold xV at hm
     exact wp_region_lit<|pn 2 E rfl fun a E=>⟨j,Nat.lt_succ_self j,X3 ⟨E.to rfl,H,A,hm⟩⟩
   ·refine wp_exit<|aL<|aL<|cH<|aA<|wp_seq<|sp 1 E rfl fun a E=>bd hm fun N B hm=>xk2 E rfl (cf_ 38) (J2 H (c _ m) B) fun w H a E=>pn 1 E rfl fun a E=>wif E hm rfl (fun hm=>?_) fun hm=>?_
    ·refine sq<|pn 1 E rfl fun a E=>wp_ret<|aG<|o1 E rfl<|?_
     cases hm
     exact ⟨rfl,H.reads c⟩
    ·refine wp_skip<|aA<|sq<|pn 2 E rfl fun a E=>wp_ret<|o1 E rfl<|?_
     cases hm
     exact ⟨rfl,H.reads c⟩

def y0(e:ByteArray)(b:List aI)(f:ByteArray):Option Bool:=
  (uX b e).bind fun c=>if (decide (c ≥ 0))=true then ((idx b c).bind fun d=>some (sEq d.Prefix f)) else (some (false))
theorem Aw{o e:ByteArray}{f g:Nat}{i:Value}{p:List aI}(H:Sep w (Blk f 32 [i]::Blk g 9 [.string e]::Fo) rs)(c:rSl aR i p ∈ rs){r:Bool}(hm:y0 o p e=some r) :
    Cf 177 [.string o,pt f 0,pt g 0] w fun v w'=>.bool r=v∧Sep w' (Blk f 32 [i]::Blk g 9 [.string e]::Fo) (rs):=by
 unfold y0 at hm
 refine ent Tryz.func177 rfl Tryz.ntmps177 rfl rfl fun a E=>sp 1 E rfl fun a E=>nx<|lb2 E H 0 U32 rfl fun a E=>pr 1 E rfl fun a E=>bd hm fun x q hm=>xk2 E rfl (cf_ 24) (D3 H c q) fun w H a E=>pr 1 E rfl fun a E=>nt<|wp_seq<|?_
 obtain ⟨s,H⟩:=H.raw c
 refine dw [(0,0),(1,0),(2,0),(3,0),(4,0),(5,0),(6,0),(7,0),(8,0),(9,0),(10,0),(11,2)] [0,1] [0] H (by kernel_rfl) (fun _ _ _ h=>False.elim h.2) fun w W0 hI H=>fn 3 E rfl fun a E=>cs hm (fun b hm=>?_) fun b hm=>?_
 ·refine fb E rfl (ws' (d:=11) E rfl rfl rfl rfl b) rfl rfl rfl rfl m0 rfl U32 rfl fun a E=>fk 1 E (kc 11 rfl b) rfl fun a E=>bd hm fun t j hm=>?_
  obtain ⟨q14,u,l,m⟩:=gK (P:=Tryz.prog) (k:=.i64) hI (gD (.head _)) U32 nO j
  refine cZ E rfl (ws' (d:=11) E rfl rfl rfl rfl b) rfl rfl (fun w hW=>jQ E rfl rfl rfl (l w)) fun a E=>?_
  have n:=rO m (fun _ _ _ h=>yT h)
  refine fk 1 E (kc 11 rfl b) rfl fun a E=>fa E rfl (ws' (d:=11) E rfl rfl rfl rfl b) rfl rfl rfl rfl n U9 rfl fun a E=>fb E rfl (ws' (d:=11) E rfl rfl rfl rfl b) rfl rfl rfl rfl mm1 rfl U9 rfl fun a E=>fk 2 E (kc 11 rfl b) rfl fun a E=>bL rfl<|pn 1 E rfl fun a E=>aY<|?_
  clear hI
  refine aA<|wp_ret<|o1 E rfl<|?_
  cases hm
  exact ⟨rfl,H.reads (Y1 Y0)⟩
 ·refine fk 8 E (kc 11 rfl b) rfl fun a E=>bL rfl<|pn 1 E rfl fun a E=>aY<|?_
  clear hI
  refine aA<|wp_ret<|o1 E rfl<|?_
  cases hm
  exact ⟨rfl,H.reads (Y1 Y0)⟩

def xG(d:List aI)(e:ByteArray)(b:ByteArray):Option Bool:=
  (y0 b d e).bind fun c=>some (c)
def J5(x1:aD)(c:List aI)(d:ByteArray):Option Bool:=
  (qD x1.Path).bind fun b=>if (!b.2)=true then (xG c d (ByteArray.mk #[47])) else (xG c d b.1)
theorem Lp{x1:aD}{d b c:Nat}{i:Value}{j:List aI}{e:ByteArray}(H:Sep w (Blk d 122 [.func (.func 177) #[] #[pt b 0,pt c 0]]::Blk b 32 [i]::Blk c 9 [.string e]::Fo) rs)(m:rSl aR i j ∈ rs){r:Bool}(hm:J5 x1 j e=some r) :
    Cf 179 [.agg (dS x1).toArray,pt d 0] w fun v w'=>.bool r=v∧Sep w' (Blk d 122 [.func (.func 177) #[] #[pt b 0,pt c 0]]::Blk b 32 [i]::Blk c 9 [.string e]::Fo) (rs):=by
 unfold J5 at hm
 refine ent Tryz.func179 rfl Tryz.ntmps179 rfl rfl fun a E=>sq<|bx E H rfl fun q w a H E=>pr 1 E rfl fun a E=>xp 1 E rfl fun a E=>lb2 E H 0 U9 rfl fun a E=>bd hm fun o k hm=>xk2 E rfl (cf_ 180) (x7 H k) fun w H a E=>pn 5 E rfl fun a E=>aK (fun a w=>∃ f,Jn 17 a w [(1,pt d 0),(4,.string f)] (Blk d 122 [.func (.func 177) #[] #[pt b 0,pt c 0]]::Blk b 32 [i]::Blk c 9 [.string e]::Fo) rs (xG j e f=some r)) ?_ ?_
 ·refine sq<|pn 2 E rfl fun a E=>wif E hm rfl (fun hm=>?_) fun hm=>?_
  ·exact wp_region_lit<|pn 1 E rfl fun a E=>have H:=H.drop 0;⟨_,_,E.to rfl,H,Y0,hm⟩
  ·exact wp_skip<|aA<|have H:=H.drop 0;⟨_,_,E.to rfl,H,Y0,hm⟩
 ·clear E H hm
  rintro a w ⟨f,n,E,H,g,hm⟩
  unfold xG at hm
  refine sq<|lb2 E H 0 DZ rfl fun a E=>pr 1 E rfl fun a E=>have H:=H.frs [0,2,2] rfl;bd hm fun p l hm=>bM E (wn rfl) rfl rfl (bO E rfl rfl rfl ((cf_ 177) _)) (Aw H (g _ m) l)<|?_
  rintro _ w ⟨rfl,H⟩ a E
  refine pn 1 E rfl fun a E=>wp_ret<|o1 E rfl<|have H:=H.frs [1,1,2] rfl;?_
  cases hm
  exact ⟨rfl,H.reads g⟩

def oG(rec_1:cD→cD→Int→Option Mj)(b:Int)(c:cD)(d:cD):Option Mj:=
  rec_1 c d (IntKind.i64.wrap (b+1))
def gQ(f:List aD)(g:List aI)(i:ByteArray):Nat→cD→cD→Int→Option Mj
  | 0,_,_,_=>none
  | j+1,c,d,e=>
    if (decide (e < (f.length:Int)))=true then ((idx f e).bind fun b=>(J5 b g i).bind fun k=>if k=true then ((ck (c.length+([b]:List aD).length ≤ LIM)).bind fun l=>oG (gQ f g i j) e (c ++ ([b]:List aD)) d) else ((ck (d.length+([b]:List aD).length ≤ LIM)).bind fun m=>oG (gQ f g i j) e c (d ++ ([b]:List aD)))) else (some (c,d))
def uG(b:List aD)(c:List aI)(d:ByteArray):Option Mj:=
  gQ b c d (((b.length:Int) - 0:Int).toNat+1) [] [] 0
theorem N9{B o:Value}{k:List aD}{l f g:Nat}{C:List aI}{m:ByteArray}(H:Sep w (Blk l 122 [.func (.func 177) #[] #[pt f 0,pt g 0]]::Blk f 32 [o]::Blk g 9 [.string m]::Fo) rs)(D:rSl aB B k ∈ rs)(F:rSl aR o C ∈ rs){r:cD×cD}(hm:uG k C m=some r) :
    Cf 178 [B,.func (.func 179) #[] #[pt l 0]] w fun v w'=>∃ M N,.tuple #[M,N]=v∧Sep w' (Row 107 aB M r.1::Row 107 aB N r.2::Blk l 122 [.func (.func 177) #[] #[pt f 0,pt g 0]]::Blk f 32 [o]::Blk g 9 [.string m]::Fo) (rs):=by
 unfold uG at hm
 refine ent Tryz.func178 rfl Tryz.ntmps178 rfl rfl fun a E=>sp 2 E rfl fun a E=>nx<|pn 2 E rfl fun a E=>wp_seq<|sp 1 E rfl fun a E=>lS E H D U22 rfl fun a E=>pn 1 E rfl fun a E=>wp_block<|bD (fun n a w=>∃ p q s t j,Jn 30 a w [(1,.func (.func 179) #[] #[pt l 0]),(6,p),(7,q),(10,B),(11,.int .i64 (k.length:Int)),(12,.int .i64 j)] (Blk l 122 [.func (.func 177) #[] #[pt f 0,pt g 0]]::Row 107 aB p s::Row 107 aB q t::Blk f 32 [o]::Blk g 9 [.string m]::Fo) rs (gQ k C m n s t j=some r)) (((k.length:Int) - 0:Int).toNat+1) ?_ ?_
 ·exact have H:=H.nilRow 107 aB;have H:=H.nilRow 107 aB;have H:=H.frs [4,4,2,3,4] rfl;X6 ⟨E.to rfl,H,Y0,hm⟩
 ·clear E H hm
  rintro n a w ⟨p,q,s,t,j,O,E,H,c,hm⟩
  cases n with
  | zero=>exact (aZ hm rfl).elim
  | succ n=>
   unfold gQ at hm
   refine sq<|pn 1 E rfl fun a E=>wp_seq<|wif E hm rfl (fun hm=>?_) fun hm=>?_
   ·refine wp_skip<|aA<|aK (fun a w=>∃ u y z A,Jn 30 a w [(1,.func (.func 179) #[] #[pt l 0]),(6,u),(7,y),(10,B),(11,.int .i64 (k.length:Int)),(12,.int .i64 j)] (Blk l 122 [.func (.func 177) #[] #[pt f 0,pt g 0]]::Row 107 aB u z::Row 107 aB y A::Blk f 32 [o]::Blk g 9 [.string m]::Fo) rs (oG (gQ k C m n) j z A=some r)) ?_ ?_
    ·refine wp_block<|sq<|bd hm fun b G hm=>cN E H (wn rfl) rfl rfl rfl rfl rfl (c _ D) U22 cJ G fun q26 a H E=>ldf bX E H rfl rfl rfl rfl rfl m0 pF rfl cJ fun a E=>al2 E H rfl Dn fun Q w a H E=>ss 0 E H rfl cJ rfl fun w H=>xp 1 E rfl fun a E=>ln 0 (dS b) E H pF rfl cJ fun a E=>have H:=H.frs [3,3,2,5,5,5] rfl;bd hm fun R I hm=>bM E (wn rfl) rfl rfl (bO E rfl rfl rfl ((cf_ 179) _)) (Lp H (t1 (c _ F)) I)<|?_
     rintro _ w ⟨rfl,H⟩ a E
     refine nt<|wif E hm rfl (fun hm=>?_) fun hm=>?_
     ·exact wp_region_lit<|pr 1 E rfl fun a E=>ln 3 (dS b) E H pF rfl cJ fun a E=>iV (e:=107) (d:=aB) (cs:=[.string b.Path,.string b.Data,.int .i64 b.Version,.int .i64 b.Turn,.int .i64 b.Owner]) (xs:=[b]) E H (wn rfl) rfl rfl rfl (E.evs rfl) (by kernel_rfl) rfl (fun ok hr=>(Rows.single (d:=aB) (cs:=[.string b.Path,.string b.Data,.int .i64 b.Version,.int .i64 b.Turn,.int .i64 b.Owner]) (x:=b) mE)) fun S w a H E=>bk hm fun J hm=>cO (i:=4) E H (wn rfl) rfl rfl rfl rfl rfl rfl (fA m0) U22 I1 rfl J rfl fun T w a H E=>pr 1 E rfl fun a E=>wpList_nil<|bH<|aA<|have H:=H.drop 3;have H:=H.frs [2,2,4,4,4] rfl;X5 ⟨E.to rfl,H,(Y2 c),hm⟩
     ·exact wp_region_lit<|pr 1 E rfl fun a E=>ln 3 (dS b) E H pF rfl cJ fun a E=>iV (e:=107) (d:=aB) (cs:=[.string b.Path,.string b.Data,.int .i64 b.Version,.int .i64 b.Turn,.int .i64 b.Owner]) (xs:=[b]) E H (wn rfl) rfl rfl rfl (E.evs rfl) (by kernel_rfl) rfl (fun ok hr=>(Rows.single (d:=aB) (cs:=[.string b.Path,.string b.Data,.int .i64 b.Version,.int .i64 b.Turn,.int .i64 b.Owner]) (x:=b) mE)) fun U w a H E=>bk hm fun K hm=>cO (i:=5) E H (wn rfl) rfl rfl rfl rfl rfl rfl (fA m0) U22 I1 rfl K rfl fun V w a H E=>pr 1 E rfl fun a E=>wpList_nil<|bH<|aA<|have H:=H.drop 3;have H:=H.frs [2,2,4,4,4] rfl;X5 ⟨E.to rfl,H,(Y2 c),hm⟩
    ·clear E H hm
     rintro a w ⟨u,y,z,A,P,E,H,L,hm⟩
     unfold oG at hm
     exact wp_region_lit<|pn 2 E rfl fun a E=>⟨n,Nat.lt_succ_self n,X6 ⟨E.to rfl,H,L,hm⟩⟩
   ·refine wp_exit<|aL<|aL<|cH<|aA<|sq<|pn 4 E rfl fun a E=>wp_ret<|fW E rfl rfl rfl<|have H:=H.frs [4,4,2,4,4] rfl;?_
    cases hm
    exact ⟨_,_,rfl,H.reads c⟩

def J6(x1:aJ)(c:List aI)(d:ByteArray):Option Bool:=
  (y0 x1.Dir c d).bind fun b=>some (b)
theorem Lq{x1:aJ}{d b c:Nat}{e:Value}{i:List aI}{f:ByteArray}(H:Sep w (Blk d 122 [.func (.func 177) #[] #[pt b 0,pt c 0]]::Blk b 32 [e]::Blk c 9 [.string f]::Fo) rs)(j:rSl aR e i ∈ rs){r:Bool}(hm:J6 x1 i f=some r) :
    Cf 182 [.agg #[.string x1.Dir,.int .i64 x1.Next],pt d 0] w fun v w'=>.bool r=v∧Sep w' (Blk d 122 [.func (.func 177) #[] #[pt b 0,pt c 0]]::Blk b 32 [e]::Blk c 9 [.string f]::Fo) (rs):=by
 unfold J6 at hm
 refine ent Tryz.func182 rfl Tryz.ntmps182 rfl rfl fun a E=>sq<|bx E H rfl fun l w a H E=>pr 1 E rfl fun a E=>nx<|lb2 E H 1 DZ rfl fun a E=>pr 1 E rfl fun a E=>lb2 E H 0 U9 rfl fun a E=>have H:=H.frs [1,1,3,3] rfl;bd hm fun k g hm=>bM E (wn rfl) rfl rfl (bO E rfl rfl rfl ((cf_ 177) _)) (Aw H j g)<|?_
 rintro _ w ⟨rfl,H⟩ a E
 refine pn 1 E rfl fun a E=>wp_ret<|o1 E rfl<|have H:=H.drop 2;have H:=H.frs [1,1,2] rfl;?_
 cases hm
 exact ⟨rfl,H.reads Y0⟩

def oH(rec_1:cP→cP→Int→Option Mi)(b:Int)(c:cP)(d:cP):Option Mi:=
  rec_1 c d (IntKind.i64.wrap (b+1))
def gR(f:List aJ)(g:List aI)(i:ByteArray):Nat→cP→cP→Int→Option Mi
  | 0,_,_,_=>none
  | j+1,c,d,e=>
    if (decide (e < (f.length:Int)))=true then ((idx f e).bind fun b=>(J6 b g i).bind fun k=>if k=true then ((ck (c.length+([b]:List aJ).length ≤ LIM)).bind fun l=>oH (gR f g i j) e (c ++ ([b]:List aJ)) d) else ((ck (d.length+([b]:List aJ).length ≤ LIM)).bind fun m=>oH (gR f g i j) e c (d ++ ([b]:List aJ)))) else (some (c,d))
def uH(b:List aJ)(c:List aI)(d:ByteArray):Option Mi:=
  gR b c d (((b.length:Int) - 0:Int).toNat+1) [] [] 0
theorem O1{B o:Value}{k:List aJ}{l f g:Nat}{C:List aI}{m:ByteArray}(H:Sep w (Blk l 122 [.func (.func 177) #[] #[pt f 0,pt g 0]]::Blk f 32 [o]::Blk g 9 [.string m]::Fo) rs)(D:rSl aC B k ∈ rs)(F:rSl aR o C ∈ rs){r:cP×cP}(hm:uH k C m=some r) :
    Cf 181 [B,.func (.func 182) #[] #[pt l 0]] w fun v w'=>∃ M N,.tuple #[M,N]=v∧Sep w' (Row 89 aC M r.1::Row 89 aC N r.2::Blk l 122 [.func (.func 177) #[] #[pt f 0,pt g 0]]::Blk f 32 [o]::Blk g 9 [.string m]::Fo) (rs):=by
 unfold uH at hm
 refine ent Tryz.func181 rfl Tryz.ntmps181 rfl rfl fun a E=>sp 2 E rfl fun a E=>nx<|pn 2 E rfl fun a E=>wp_seq<|sp 1 E rfl fun a E=>lS E H D U23 rfl fun a E=>pn 1 E rfl fun a E=>wp_block<|bD (fun n a w=>∃ p q s t j,Jn 30 a w [(1,.func (.func 182) #[] #[pt l 0]),(6,p),(7,q),(10,B),(11,.int .i64 (k.length:Int)),(12,.int .i64 j)] (Blk l 122 [.func (.func 177) #[] #[pt f 0,pt g 0]]::Row 89 aC p s::Row 89 aC q t::Blk f 32 [o]::Blk g 9 [.string m]::Fo) rs (gR k C m n s t j=some r)) (((k.length:Int) - 0:Int).toNat+1) ?_ ?_
 ·exact have H:=H.nilRow 89 aC;have H:=H.nilRow 89 aC;have H:=H.frs [4,4,2,3,4] rfl;X6 ⟨E.to rfl,H,Y0,hm⟩
 ·clear E H hm
  rintro n a w ⟨p,q,s,t,j,O,E,H,c,hm⟩
  cases n with
  | zero=>exact (aZ hm rfl).elim
  | succ n=>
   unfold gR at hm
   refine sq<|pn 1 E rfl fun a E=>wp_seq<|wif E hm rfl (fun hm=>?_) fun hm=>?_
   ·refine wp_skip<|aA<|aK (fun a w=>∃ u y z A,Jn 30 a w [(1,.func (.func 182) #[] #[pt l 0]),(6,u),(7,y),(10,B),(11,.int .i64 (k.length:Int)),(12,.int .i64 j)] (Blk l 122 [.func (.func 177) #[] #[pt f 0,pt g 0]]::Row 89 aC u z::Row 89 aC y A::Blk f 32 [o]::Blk g 9 [.string m]::Fo) rs (oH (gR k C m n) j z A=some r)) ?_ ?_
    ·refine wp_block<|sq<|bd hm fun b G hm=>cN E H (wn rfl) rfl rfl rfl rfl rfl (c _ D) U23 iS G fun q26 a H E=>ldf dT E H rfl rfl rfl rfl rfl m0 U89 rfl iS fun a E=>al2 E H rfl EA fun Q w a H E=>ss 0 E H rfl iS rfl fun w H=>xp 1 E rfl fun a E=>ln 0 [.string b.Dir,.int .i64 b.Next] E H U89 rfl iS fun a E=>have H:=H.frs [3,3,2,5,5,5] rfl;bd hm fun R I hm=>bM E (wn rfl) rfl rfl (bO E rfl rfl rfl ((cf_ 182) _)) (Lq H (t1 (c _ F)) I)<|?_
     rintro _ w ⟨rfl,H⟩ a E
     refine nt<|wif E hm rfl (fun hm=>?_) fun hm=>?_
     ·exact wp_region_lit<|pr 1 E rfl fun a E=>ln 3 [.string b.Dir,.int .i64 b.Next] E H U89 rfl iS fun a E=>iV (e:=89) (d:=aC) (cs:=[.string b.Dir,.int .i64 b.Next]) (xs:=[b]) E H (wn rfl) rfl rfl rfl (E.evs rfl) (by kernel_rfl) rfl (fun ok hr=>(Rows.single (d:=aC) (cs:=[.string b.Dir,.int .i64 b.Next]) (x:=b) oD)) fun S w a H E=>bk hm fun J hm=>cO (i:=4) E H (wn rfl) rfl rfl rfl rfl rfl rfl (fA m0) U23 Dm rfl J rfl fun T w a H E=>pr 1 E rfl fun a E=>wpList_nil<|bH<|aA<|have H:=H.drop 3;have H:=H.frs [2,2,4,4,4] rfl;X5 ⟨E.to rfl,H,(Y2 c),hm⟩
     ·exact wp_region_lit<|pr 1 E rfl fun a E=>ln 3 [.string b.Dir,.int .i64 b.Next] E H U89 rfl iS fun a E=>iV (e:=89) (d:=aC) (cs:=[.string b.Dir,.int .i64 b.Next]) (xs:=[b]) E H (wn rfl) rfl rfl rfl (E.evs rfl) (by kernel_rfl) rfl (fun ok hr=>(Rows.single (d:=aC) (cs:=[.string b.Dir,.int .i64 b.Next]) (x:=b) oD)) fun U w a H E=>bk hm fun K hm=>cO (i:=5) E H (wn rfl) rfl rfl rfl rfl rfl rfl (fA m0) U23 Dm rfl K rfl fun V w a H E=>pr 1 E rfl fun a E=>wpList_nil<|bH<|aA<|have H:=H.drop 3;have H:=H.frs [2,2,4,4,4] rfl;X5 ⟨E.to rfl,H,(Y2 c),hm⟩
    ·clear E H hm
     rintro a w ⟨u,y,z,A,P,E,H,L,hm⟩
     unfold oH at hm
     exact wp_region_lit<|pn 2 E rfl fun a E=>⟨n,Nat.lt_succ_self n,X6 ⟨E.to rfl,H,L,hm⟩⟩
   ·refine wp_exit<|aL<|aL<|cH<|aA<|sq<|pn 4 E rfl fun a E=>wp_ret<|fW E rfl rfl rfl<|have H:=H.frs [4,4,2,4,4] rfl;?_
    cases hm
    exact ⟨_,_,rfl,H.reads c⟩

def r7(x1:aF)(d:List aI)(e:ByteArray)(f:Bool):Option ET:=
  if f=true then (some ([],[],[],[])) else ((uG x1.Nodes d e).bind fun b=>(uH x1.Turns d e).bind fun c=>some (b.1,c.1,b.2,c.2))
def S5(x1:aF)(b:List aI)(c:ByteArray):Option ET:=
  (pP x1).bind fun d=>if (!d)=true then (r7 x1 b c true) else ((qE b).bind fun e=>r7 x1 b c (!e))
theorem w7{x1:aF}{j k J:Value}{l:List aI}{m:ByteArray}(H:Sep w (Fo) rs)(n:rSl aB j x1.Nodes ∈ rs)(o:rSl aC k x1.Turns ∈ rs)(d:rSl aR J l ∈ rs){r:cD×cP×cD×cP}(hm:S5 x1 l m=some r) :
    Cf 107 [.agg #[j,k],J,.string m] w fun v w'=>∃ K L M N,.tuple #[.agg #[K,L],.agg #[M,N]]=v∧Sep w' (Row 107 aB K r.1::Row 89 aC L r.2.1::Row 107 aB M r.2.2.1::Row 89 aC N r.2.2.2::Fo) (rs):=by
 unfold S5 at hm
 refine ent Tryz.func107 rfl Tryz.ntmps107 rfl rfl fun a E=>sq<|bx E H rfl fun p w a H E=>?_
 obtain ⟨q12,O,rfl⟩:=H.slform d
 refine bx E H rfl fun q w a H E=>bx E H rfl fun s w a H E=>al2 E H rfl lT fun t w a H E=>al2 E H rfl lT fun u w a H E=>nx<|al2 E H rfl lT fun x w a H E=>al2 E H rfl lT fun y w a H E=>nt<|wp_seq<|aK (fun a w=>∃ g,Jn 42 a w [(3,pt p 0),(4,pt q 0),(5,pt s 0),(6,pt t 0),(7,pt u 0),(8,pt x 0),(9,pt y 0),(18,.bool g)] (Blk p 25 [j,k]::Blk q 32 [(.slice q12 l.length O)]::Blk s 9 [.string m]::Blk t 25 [nS,nS]::Blk u 25 [nS,nS]::Blk x 25 [nS,nS]::Blk y 25 [nS,nS]::Fo) rs (r7 x1 l m g=some r)) ?_ ?_
 ·refine wp_region_lit<|ln 6 [j,k] E H U25 rfl bK fun a E=>bd hm fun Q D hm=>xk2 E rfl (cf_ 37) (C7 H n o D) fun w H a E=>pr 2 E rfl fun a E=>cs hm (fun c hm=>?_) fun c hm=>?_
  ·exact pk 4 E (kc 14 rfl c) rfl fun a E=>nt<|have H:=H.frs [0,1,2,3,4,5,6] rfl;⟨_,_,E.to rfl,H,Y0,hm⟩
  ·refine gl 14 E H 5 c U32 rfl fun a E=>bd hm fun R F hm=>gc 14 E c rfl (cf_ 38) (J2 H d F)<|?_
   rintro _ w ⟨rfl,H⟩ a E
   exact pk 2 E (kc 14 rfl c) rfl fun a E=>nt<|have H:=H.frs [0,1,2,3,4,5,6] rfl;⟨_,_,E.to rfl,H,Y0,hm⟩
 ·clear E H hm
  rintro a w ⟨g,P,E,H,b,hm⟩
  unfold r7 at hm
  refine wif E hm rfl (fun hm=>?_) fun hm=>?_
  ·refine wp_seq<|dz [0,0,1,2] [5,6] H fun w W0 hI H=>fbn E [nS,nS] rfl (wn rfl) rfl rfl rfl rfl m0 rfl U25 rfl bK fun a E=>fbn E [nS,nS] rfl (wn rfl) rfl rfl rfl rfl mm1 rfl U25 rfl bK fun a E=>bI rfl<|ss 3 E H rfl bK rfl fun w H=>nt<|⟨sx H [5,6] rfl,bL rfl<|ss 4 E H rfl bK rfl fun w H=>nt<|aY<|?_⟩
   clear hI
   refine aA<|wp_ret<|aG<|kN E rfl (eJ (i:=3) (us:=[nS,nS]) H rfl rfl rfl U25 rfl bK) (eJ (i:=4) (us:=[nS,nS]) H rfl rfl rfl U25 rfl bK)<|have H:=H.nilRow 107 aB;have H:=H.nilRow 89 aC;have H:=H.nilRow 107 aB;have H:=H.nilRow 89 aC;have H:=H.drs [4,4,4,4,4,4,4];have H:=H.frs [0,1,2,3] rfl;?_
   cases hm
   exact X4 ⟨rfl,H.reads b⟩
  ·refine wp_skip<|aA<|sq<|sv2 E rfl (nM E rfl rfl rfl) fun a E=>al1 E H rfl rfl rfl rfl GQ rfl fun S w a H E=>ss 0 E H rfl GR rfl fun w H=>xp 1 E rfl fun a E=>lb2 E H 1 U22 rfl fun a E=>sv2 E rfl (nM E rfl rfl rfl) fun a E=>have H:=H.frs [7,7,7,7,5,7,7,7] rfl;bd hm fun e G hm=>xc2 E rfl (cf_ 178) (N9 H (b _ n) (b _ d) G)<|?_
   rintro _ w ⟨T,U,rfl,H⟩ a E
   refine pr 4 E rfl fun a E=>?_
   obtain ⟨q27,z,rfl⟩:=H.rowform (i:=0) rfl
   refine ss 8 E H rfl Bz rfl fun w H=>pr 1 E rfl fun a E=>?_
   obtain ⟨q29,A,rfl⟩:=H.rowform (i:=1) rfl
   refine ss 9 E H rfl Bz rfl fun w H=>xp 1 E rfl fun a E=>lb2 E H 5 U23 rfl fun a E=>sv2 E rfl (nM E rfl rfl rfl) fun a E=>have H:=H.frs [9,9,9,9,9,6,6,9,9,9] rfl;bd hm fun f I hm=>xc2 E rfl (cf_ 181) (O1 H (b _ o) (b _ d) I)<|?_
   rintro _ w ⟨V,W,rfl,H⟩ a E
   refine pr 4 E rfl fun a E=>?_
   obtain ⟨q35,B,rfl⟩:=H.rowform (i:=0) rfl
   refine ss 10 E H rfl Z6 rfl fun w H=>pr 1 E rfl fun a E=>?_
   obtain ⟨q37,C,rfl⟩:=H.rowform (i:=1) rfl
   refine ss 11 E H rfl Z6 rfl fun w H=>nt<|wp_seq<|dz [0,0,1,2] [10,11] H fun w W0 hI H=>fbn E [(.slice q27 e.1.length z),(.slice q35 f.1.length B)] rfl (wn rfl) rfl rfl rfl rfl m0 rfl U25 rfl bK fun a E=>fbn E [(.slice q29 e.2.length A),(.slice q37 f.2.length C)] rfl (wn rfl) rfl rfl rfl rfl mm1 rfl U25 rfl bK fun a E=>bI rfl<|ss 8 E H rfl bK rfl fun w H=>nt<|⟨⟨_,_,H,(aM (t4 mm6) (aM (t5 mm6) (bC))),(bG)⟩,bL rfl<|ss 9 E H rfl bK rfl fun w H=>nt<|aY<|?_⟩
   clear hI
   refine aA<|wp_ret<|kN E rfl (eJ (i:=8) (us:=[(.slice q27 e.1.length z),(.slice q35 f.1.length B)]) H rfl rfl rfl U25 rfl bK) (eJ (i:=9) (us:=[(.slice q29 e.2.length A),(.slice q37 f.2.length C)]) H rfl rfl rfl U25 rfl bK)<|have H:=H.drs [2,2,2,4,4,4,4,4];have H:=H.frs [1,3,2,3] rfl;?_
   cases hm
   exact X4 ⟨rfl,H.reads b⟩

def r8(x1:aI)(b:ByteArray):Option Int:=
  (qA x1.Prefix b).bind fun c=>some (c)
theorem W2{x1:aI}{b:ByteArray}(H:Sep w (Fo) rs){r:Int}(hm:r8 x1 b=some r) :
    Cf 242 [.agg (pI x1).toArray,.string b] w fun v w'=>.int .i64 r=v∧Sep w' (Fo) (rs):=by
 unfold r8 at hm
 refine ent Tryz.func242 rfl Tryz.ntmps242 rfl rfl fun a E=>sq<|bx E H rfl fun d w a H E=>pr 1 E rfl fun a E=>xp 1 E rfl fun a E=>lb2 E H 0 U9 rfl fun a E=>pr 1 E rfl fun a E=>bd hm fun e c hm=>xk2 E rfl (cf_ 113) (vO H c) fun w H a E=>pn 1 E rfl fun a E=>wp_ret<|o1 E rfl<|have H:=H.drop 0;?_
 cases hm
 exact ⟨rfl,H.reads Y0⟩

def cT(c:List aI)(e:ByteArray):Nat→Int→Int→Option a7
  | 0,_,_=>none
  | f+1,b,d=>
    if (decide (b < d))=true then ((idx c (IntKind.i64.wrap (wT .u64 (IntKind.u64.wrap (IntKind.i64.wrap (b+d))) 1))).bind fun k=>(r8 k e).bind fun g=>if (decide (g < 0))=true then (cT c e f (IntKind.i64.wrap ((IntKind.i64.wrap (wT .u64 (IntKind.u64.wrap (IntKind.i64.wrap (b+d))) 1))+1)) d) else (cT c e f b (IntKind.i64.wrap (wT .u64 (IntKind.u64.wrap (IntKind.i64.wrap (b+d))) 1)))) else (if (decide (b < (c.length:Int)))=true then ((idx c b).bind fun i=>(r8 i e).bind fun j=>some (b,j == 0)) else (some (b,false)))
def fH(b:List aI)(c:ByteArray):Option a7:=
  cT b c (((b.length:Int) - 0:Int).toNat+1) 0 (b.length:Int)
theorem sJ{j:Value}{f:List aI}{i:ByteArray}(H:Sep w (Fo) rs)(g:rSl aR j f ∈ rs){r:Int×Bool}(hm:fH f i=some r) :
    Cf 184 [j,.string i,.func (.func 242) #[] #[]] w fun v w'=>.tuple #[.int .i64 r.1,.bool r.2]=v∧Sep w' (Fo) (rs):=by
 unfold fH at hm
 refine ent Tryz.func184 rfl Tryz.ntmps184 rfl rfl fun a E=>sp 2 E rfl fun a E=>xp 1 E rfl fun a E=>lS E H g U32 rfl fun a E=>pr 1 E rfl fun a E=>xp 3 E rfl fun a E=>nt<|wp_seq<|wp_block<|bD (fun e a w=>∃ k l,Jn 49 a w [(0,j),(1,.string i),(2,.func (.func 242) #[] #[]),(8,.int .i64 (f.length:Int)),(9,.int .i64 k),(10,.int .i64 l)] (Fo) rs (cT f i e k l=some r)) (((f.length:Int) - 0:Int).toNat+1) ?_ ?_
 ·exact X3 ⟨E.to rfl,H,Y0,hm⟩
 ·clear E H hm
  rintro e a w ⟨k,l,q,E,H,c,hm⟩
  cases e with
  | zero=>exact (aZ hm rfl).elim
  | succ e=>
   unfold cT at hm
   refine wp_seq<|sq<|pn 3 E rfl fun a E=>wif E hm rfl (fun hm=>?_) fun hm=>?_
   ·refine wp_skip<|aA<|wp_block<|sp 4 E rfl fun a E=>sv2 E rfl (Gv E rfl rfl rfl (by decide)) fun a E=>pr 2 E rfl fun a E=>xp 3 E rfl fun a E=>bd hm fun y m hm=>cN E H (wn rfl) rfl rfl rfl rfl rfl (c _ g) U32 nO m fun q11 a H E=>ldf oI E H rfl rfl rfl rfl rfl m0 U31 rfl nO fun a E=>pr 1 E rfl fun a E=>bd hm fun s n hm=>bM E (wn rfl) rfl rfl (bO E rfl rfl rfl ((cf_ 242) _)) (W2 H n)<|?_
    rintro _ w ⟨rfl,H⟩ a E
    refine pn 1 E rfl fun a E=>wif E hm rfl (fun hm=>?_) fun hm=>?_
    ·exact wp_region_lit<|pr 3 E rfl fun a E=>wpList_nil<|bH<|aA<|⟨e,Nat.lt_succ_self e,X3 ⟨E.to rfl,H,(Y1 c),hm⟩⟩
    ·exact wp_region_lit<|pr 2 E rfl fun a E=>wpList_nil<|bH<|aA<|⟨e,Nat.lt_succ_self e,X3 ⟨E.to rfl,H,(Y1 c),hm⟩⟩
   ·refine wp_exit<|aL<|aL<|cH<|aA<|sp 5 E rfl fun a E=>cs hm (fun b hm=>?_) fun b hm=>?_
    ·refine pk 3 E (kc 39 rfl b) rfl fun a E=>bd hm fun t o hm=>cN E H (ws' (d:=39) E rfl rfl rfl rfl b) rfl rfl rfl rfl rfl (c _ g) U32 nO o fun q17 a H E=>Mo E H (ws' (d:=39) E rfl rfl rfl rfl b) rfl rfl rfl rfl m0 U31 rfl nO fun u a H E=>?_
     obtain ⟨_,hcs⟩:=H.rd (.head _)
     obtain rfl:=M3 hcs
     clear hcs
     refine pk 1 E (kc 39 rfl b) rfl fun a E=>bd hm fun x p hm=>bM E (ws' (d:=39) E rfl rfl rfl rfl b) rfl rfl (bO E rfl rfl rfl ((cf_ 242) _)) (W2 H p)<|?_
     rintro _ w ⟨rfl,H⟩ a E
     refine pk 4 E (kc 39 rfl b) rfl fun a E=>nt<|wp_ret<|fW E rfl rfl rfl<|?_
     cases hm
     exact ⟨rfl,H.reads (Y2 c)⟩
    ·refine pk 11 E (kc 39 rfl b) rfl fun a E=>nt<|wp_ret<|fW E rfl rfl rfl<|?_
     cases hm
     exact ⟨rfl,H.reads c⟩

def M9(c:List aI)(d:ByteArray):Option a7:=
  (fH c d).bind fun b=>some (b.1,b.2)
theorem Nz{b:Value}{c:List aI}{d:ByteArray}(H:Sep w (Fo) rs)(e:rSl aR b c ∈ rs){r:Int×Bool}(hm:M9 c d=some r) :
    Cf 183 [b,.string d] w fun v w'=>.tuple #[.int .i64 r.1,.bool r.2]=v∧Sep w' (Fo) (rs):=by
 unfold M9 at hm
 refine ent Tryz.func183 rfl Tryz.ntmps183 rfl rfl fun a E=>sp 2 E rfl fun a E=>xp 2 E rfl fun a E=>bd hm fun g f hm=>xk2 E rfl (cf_ 184) (sJ H e f) fun w H a E=>pn 4 E rfl fun a E=>wp_ret<|fW E rfl rfl rfl<|?_
 cases hm
 exact ⟨rfl,H.reads Y0⟩

def r9(c:Int×Bool)(x3:aI)(b:xA):Option Hz:=
  (idx b c.1).bind fun d=>some (b.set c.1.toNat x3,true)
def s1(b:Int×Bool)(x3:aI)(c:List aI)(d:Bool):Option Hz:=
  if d=true then (some ([],false)) else ((ck (c.length ≤ LIM)).bind fun e=>if (!b.2)=true then ((ck (0 ≤ b.1∧b.1 ≤ c.length∧c.length ≤ 1000000)).bind fun f=>r9 b x3 (c.take b.1.toNat ++ x3::c.drop b.1.toNat)) else (r9 b x3 c))
def S6(b:List aI)(x3:aI):Option Hz:=
  (M9 b x3.Prefix).bind fun c=>if (!c.2)=true then (s1 c x3 b ((b.length:Int) == 32)) else (s1 c x3 b false)
theorem Ps{o:Value}{p:List aI}{x3:aI}(H:Sep w (Fo) rs)(g:rSl aR o p ∈ rs){r:xA×Bool}(hm:S6 p x3=some r) :
    Cf 175 [o,.agg (pI x3).toArray] w fun v w'=>∃ y,.tuple #[y,.bool r.2]=v∧Sep w' (Row 31 aR y r.1::Fo) (rs):=by
 unfold S6 at hm
 refine ent Tryz.func175 rfl Tryz.ntmps175 rfl rfl fun a E=>sq<|bx E H rfl fun n w a H E=>pr 2 E rfl fun a E=>xp 2 E rfl fun a E=>lb2 E H 0 U9 rfl fun a E=>bd hm fun j z hm=>xk2 E rfl (cf_ 183) (Nz H g z) fun w H a E=>pn 5 E rfl fun a E=>wp_seq<|aK (fun a w=>∃ q,Jn 36 a w [(0,o),(3,pt n 0),(6,.int .i64 j.1),(7,.bool j.2),(21,.bool q)] (Blk n 31 (pI x3)::Fo) rs (s1 j x3 p q=some r)) ?_ ?_
 ·refine wp_region_lit<|pr 3 E rfl fun a E=>cs hm (fun b hm=>?_) fun b hm=>?_
  ·exact pk 1 E (kc 17 rfl b) rfl fun a E=>gv 17 E b rfl (uN E H rfl rfl g U32) fun a E=>pk 2 E (kc 17 rfl b) rfl fun a E=>nt<|⟨_,_,E.to rfl,H,Y0,hm⟩
  ·exact pk 4 E (kc 17 rfl b) rfl fun a E=>nt<|⟨_,_,E.to rfl,H,Y0,hm⟩
 ·clear E H hm
  rintro a w ⟨q,B,E,H,c,hm⟩
  unfold s1 at hm
  refine wif E hm rfl (fun hm=>?_) fun hm=>?_
  ·refine sq<|pn 2 E rfl fun a E=>wp_ret<|aG<|fW E rfl rfl rfl<|have H:=H.nilRow 31 aR;have H:=H.drop 1;?_
   cases hm
   exact ⟨_,rfl,H.reads c⟩
  ·refine wp_skip<|aA<|sp 1 E rfl fun a E=>bk hm fun s hm=>xc2 E rfl (cf_ 66) (qC H (c _ g) s) fun C w H a E=>pn 1 E rfl fun a E=>aK (fun a w=>∃ k l,Jn 36 a w [(0,k),(3,pt n 0),(6,.int .i64 j.1)] (Row 31 aR k l::Blk n 31 (pI x3)::Fo) rs (r9 j x3 l=some r)) ?_ ?_
   ·refine sq<|pn 2 E rfl fun a E=>wif E hm rfl (fun hm=>?_) fun hm=>?_
    ·exact wp_region_lit<|pr 2 E rfl fun a E=>ln 1 (pI x3) E H U31 rfl nO fun a E=>gU (e:=31) (d:=aR) (cs:=[.string x3.Prefix,.int .i64 x3.Epoch,.int .i64 x3.State]) (xs:=[x3]) E H (wn rfl) rfl rfl rfl (E.evs rfl) (by kernel_rfl) rfl rfl (fun ok hr=>(Rows.single (d:=aR) (cs:=[.string x3.Prefix,.int .i64 x3.Epoch,.int .i64 x3.State]) (x:=x3) wA)) fun D w a H E=>bk hm fun t hm=>xc2 E rfl (cf_ 186) (Ra.insert_a (ix:=1) (iu:=0) H rfl rfl (by decide) t) fun F w H a E=>pn 1 E rfl fun a E=>have H:=H.drop 0;X3 ⟨E.to rfl,H,c,hm⟩
    ·exact wp_skip<|aA<|X3 ⟨E.to rfl,H,c,hm⟩
   ·clear E H hm
    rintro a w ⟨k,l,A,E,H,u,hm⟩
    unfold r9 at hm
    refine sp 2 E rfl fun a E=>ln 1 (pI x3) E H U31 rfl nO fun a E=>bd hm fun G f hm=>?_
    obtain ⟨I,J,m⟩:=H.rowformNE (i:=0) rfl f
    refine sv2 E rfl (cX (d:=aR) E m rfl rfl rfl rfl U32 nO f) fun a E=>K6 (d:=aR) (i:=0) (us:=[.string x3.Prefix,.int .i64 x3.Epoch,.int .i64 x3.State]) (z':=x3) E H oI (wn rfl) rfl m rfl rfl rfl rfl rfl rfl rfl f nO fun w H=>nx<|pn 3 E rfl fun a E=>wp_ret<|fW E rfl rfl rfl<|have H:=H.drop 1;?_
    cases hm
    exact ⟨_,rfl,H.reads u⟩

def vU(c:List aI)(e:Int)(f:ByteArray)(g:Bool):Option Hz:=
  if g=true then (some ([],false)) else ((idx c e).bind fun d=>(S6 c (⟨f,d.Epoch,2⟩:aI)).bind fun b=>some (b.1,b.2))
def F2(b:List aI)(d:ByteArray):Option Hz:=
  (uX b d).bind fun c=>if (decide (c < 0))=true then (vU b c d true) else ((idx b c).bind fun e=>vU b c d (e.State != 1))
theorem Jq{i:Value}{j:List aI}{f:ByteArray}(H:Sep w (Fo) rs)(c:rSl aR i j ∈ rs){r:xA×Bool}(hm:F2 j f=some r) :
    Cf 105 [i,.string f] w fun v w'=>∃ o,.tuple #[o,.bool r.2]=v∧Sep w' (Row 31 aR o r.1::Fo) (rs):=by
 unfold F2 at hm
 refine ent Tryz.func105 rfl Tryz.ntmps105 rfl rfl fun a E=>sp 2 E rfl fun a E=>xp 2 E rfl fun a E=>bd hm fun p q hm=>xk2 E rfl (cf_ 24) (D3 H c q) fun w H a E=>pn 1 E rfl fun a E=>wp_seq<|aK (fun a w=>∃ k,Jn 31 a w [(0,i),(1,.string f),(6,.int .i64 p),(19,.bool k)] (Fo) rs (vU j p f k=some r)) ?_ ?_
 ·refine wp_region_lit<|pr 3 E rfl fun a E=>cs hm (fun b hm=>?_) fun b hm=>?_
  ·exact pk 7 E (kc 12 rfl b) rfl fun a E=>nt<|⟨_,_,E.to rfl,H,Y0,hm⟩
  ·exact pk 2 E (kc 12 rfl b) rfl fun a E=>bd hm fun s l hm=>cN E H (ws' (d:=12) E rfl rfl rfl rfl b) rfl rfl rfl rfl rfl c U32 nO l fun q19 a H E=>have H:=H.derive1 m0 (rAt (kI .i64) (q19.add 2) s.State) (fun ok h=>O9 h);pk 1 E (kc 12 rfl b) rfl fun a E=>gv 12 E b rfl (pJ E H rfl rfl m0 U3 rfl) fun a E=>pk 2 E (kc 12 rfl b) rfl fun a E=>nt<|⟨_,_,E.to rfl,H,(Y2 Y0),hm⟩
 ·clear E H hm
  rintro a w ⟨k,t,E,H,e,hm⟩
  unfold vU at hm
  refine wif E hm rfl (fun hm=>?_) fun hm=>?_
  ·refine sq<|pn 2 E rfl fun a E=>wp_ret<|aG<|fW E rfl rfl rfl<|have H:=H.nilRow 31 aR;?_
   cases hm
   exact ⟨_,rfl,H.reads e⟩
  ·refine wp_skip<|aA<|sp 4 E rfl fun a E=>bd hm fun g m hm=>cN E H (wn rfl) rfl rfl rfl rfl rfl (e _ c) U32 nO m fun q12 a H E=>have H:=H.derive1 m0 (rAt (kI .i64) (q12.add 1) g.Epoch) (fun ok h=>Hm h);pr 1 E rfl fun a E=>sv2 E rfl (pJ E H rfl rfl m0 U2 rfl) fun a E=>sv2 E rfl (bP E rfl (E.evs rfl) (v:=.agg #[.string f,.int .i64 g.Epoch,.int .i64 2]) (by kernel_rfl)) fun a E=>bd hm fun u n hm=>xc2 E rfl (cf_ 175) (Ps (x3:=(⟨f,g.Epoch,2⟩:aI)) H (t2 (e _ c)) n)<|?_
   rintro _ w ⟨x,rfl,H⟩ a E
   refine pn 4 E rfl fun a E=>wp_ret<|fW E rfl rfl rfl<|?_
   cases hm
   exact ⟨_,rfl,H.reads (Y2 e)⟩

def xH(x1:aI)(b:ByteArray):Option Bool:=
  some (sEq x1.Prefix b)
theorem Ad{x1:aI}{b:Nat}{c:ByteArray}(H:Sep w (Blk b 9 [.string c]::Fo) rs){r:Bool}(hm:xH x1 c=some r) :
    Cf 174 [.agg (pI x1).toArray,pt b 0] w fun v w'=>.bool r=v∧Sep w' (Blk b 9 [.string c]::Fo) (rs):=by
 unfold xH at hm
 refine ent Tryz.func174 rfl Tryz.ntmps174 rfl rfl fun a E=>sq<|bx E H rfl fun d w a H E=>pr 1 E rfl fun a E=>xp 1 E rfl fun a E=>lb2 E H 0 U9 rfl fun a E=>lb2 E H 1 U9 rfl fun a E=>pr 2 E rfl fun a E=>nt<|wp_ret<|o1 E rfl<|have H:=H.drop 0;?_
 cases hm
 exact ⟨rfl,H.reads Y0⟩

def fL(c:List aI)(d:ByteArray):Nat→Int→Option Int
  | 0,_=>none
  | f+1,b=>
    if (decide (b < (c.length:Int)))=true then ((idx c b).bind fun g=>(xH g d).bind fun e=>if e=true then (some (b)) else (fL c d f (IntKind.i64.wrap (b+1)))) else (some ((-1)))
def kF(b:List aI)(c:ByteArray):Option Int:=
  fL b c (((b.length:Int) - 0:Int).toNat+1) 0
theorem yM{i:Value}{d:List aI}{e:Nat}{f:ByteArray}(H:Sep w (Blk e 9 [.string f]::Fo) rs)(g:rSl aR i d ∈ rs){r:Int}(hm:kF d f=some r) :
    Cf 173 [i,.func (.func 174) #[] #[pt e 0]] w fun v w'=>.int .i64 r=v∧Sep w' (Blk e 9 [.string f]::Fo) (rs):=by
 unfold kF at hm
 refine ent Tryz.func173 rfl Tryz.ntmps173 rfl rfl fun a E=>sq<|pn 1 E rfl fun a E=>wp_seq<|sp 1 E rfl fun a E=>lS E H g U32 rfl fun a E=>pr 1 E rfl fun a E=>nt<|wp_block<|bD (fun c a w=>∃ j,Jn 19 a w [(0,i),(1,.func (.func 174) #[] #[pt e 0]),(7,.int .i64 (d.length:Int)),(8,.int .i64 j)] (Blk e 9 [.string f]::Fo) rs (fL d f c j=some r)) (((d.length:Int) - 0:Int).toNat+1) ?_ ?_
 ·exact ⟨_,_,E.to rfl,H,Y0,hm⟩
 ·clear E H hm
  rintro c a w ⟨j,m,E,H,b,hm⟩
  cases c with
  | zero=>exact (aZ hm rfl).elim
  | succ c=>
   unfold fL at hm
   refine sq<|pn 1 E rfl fun a E=>wp_seq<|wif E hm rfl (fun hm=>?_) fun hm=>?_
   ·refine wp_skip<|aA<|wp_seq<|wp_block<|sp 2 E rfl fun a E=>xp 3 E rfl fun a E=>bd hm fun o k hm=>cN E H (wn rfl) rfl rfl rfl rfl rfl (b _ g) U32 nO k fun q11 a H E=>ldf oI E H rfl rfl rfl rfl rfl m0 U31 rfl nO fun a E=>bd hm fun n l hm=>bM E (wn rfl) rfl rfl (bO E rfl rfl rfl ((cf_ 174) _)) (Ad H l)<|?_
    rintro _ w ⟨rfl,H⟩ a E
    refine nt<|wif E hm rfl (fun hm=>?_) fun hm=>?_
    ·refine sq<|pn 2 E rfl fun a E=>wp_ret<|bF<|aG<|aG<|bF<|aG<|o1 E rfl<|?_
     cases hm
     exact ⟨rfl,H.reads (Y1 b)⟩
    ·exact wp_skip<|bH<|aA<|wp_region_lit<|pn 2 E rfl fun a E=>⟨c,Nat.lt_succ_self c,_,_,E.to rfl,H,(Y1 b),hm⟩
   ·refine wp_exit<|aL<|aL<|cH<|aA<|sq<|pn 1 E rfl fun a E=>wp_ret<|o1 E rfl<|?_
    cases hm
    exact ⟨rfl,H.reads b⟩

def uY(c:List aI)(d:ByteArray):Option (aI×Bool):=
  (kF c d).bind fun b=>if (decide (b < 0))=true then (some ((⟨(ByteArray.mk #[]),0,0⟩:aI),false)) else ((idx c b).bind fun e=>some (e,true))
theorem I4{n:Nat}{o c d e f g j k l:Value}{s:List aI}{m:ByteArray}(H:Sep w (Blk n 87 [c,d,o,e,f,g,j,k,l]::Fo) rs)(b:rSl aR o s ∈ rs){r:aI×Bool}(hm:uY s m=some r) :
    Cf 104 [pt n 0,.string m] w fun v w'=>.tuple #[.agg (pI r.1).toArray,.bool r.2]=v∧Sep w' (Blk n 87 [c,d,o,e,f,g,j,k,l]::Fo) (rs):=by
 unfold uY at hm
 refine ent Tryz.func104 rfl Tryz.ntmps104 rfl rfl fun a E=>sq<|bx E H rfl fun u w a H E=>al2 E H rfl Ni fun x w a H E=>pr 1 E rfl fun a E=>xp 3 E rfl fun a E=>lb2 E H 2 U32 rfl fun a E=>sv2 E rfl (nM E rfl rfl rfl) fun a E=>have H:=H.frs [2,1,2] rfl;bd hm fun y p hm=>xk2 E rfl (cf_ 173) (yM H b p) fun w H a E=>pn 1 E rfl fun a E=>wp_seq<|sq<|pn 2 E rfl fun a E=>wif E hm rfl (fun hm=>?_) fun hm=>?_
 ·refine sq<|sv2 E rfl (bP E rfl (E.evs rfl) (v:=.agg Pm.toArray) (by kernel_rfl)) fun a E=>ss 1 E H rfl nO rfl fun w H=>pn 1 E rfl fun a E=>wp_ret<|aG<|kN E rfl (eJ (i:=1) (us:=Pm) H rfl rfl rfl U31 rfl nO) (rvT rfl)<|have H:=H.drs [0,0];?_
  cases hm
  exact ⟨rfl,H.reads Y0⟩
 ·refine wp_skip<|aA<|sp 3 E rfl fun a E=>lb2 E H 2 U32 rfl fun a E=>pr 1 E rfl fun a E=>bd hm fun t q hm=>cN E H (wn rfl) rfl rfl rfl rfl rfl b U32 nO q fun q36 a H E=>ldf oI E H rfl rfl rfl rfl rfl m0 U31 rfl nO fun a E=>ss 1 E H rfl nO rfl fun w H=>pn 1 E rfl fun a E=>wp_ret<|kN E rfl (eJ (i:=1) (us:=(pI t)) H rfl rfl rfl U31 rfl nO) (rvT rfl)<|have H:=H.drs [0,0];?_
  cases hm
  exact ⟨rfl,H.reads (Y1 Y0)⟩

def xI(x1:aO)(b:List aI)(e:ByteArray):Option Bool:=
  (uX b x1.Dir).bind fun c=>if (decide (c ≥ 0))=true then ((idx b c).bind fun d=>some (sEq d.Prefix e)) else (some (false))
theorem Ae{x1:aO}{e f:Nat}{g:Value}{p:List aI}{i:ByteArray}(H:Sep w (Blk e 32 [g]::Blk f 9 [.string i]::Fo) rs)(c:rSl aR g p ∈ rs){r:Bool}(hm:xI x1 p i=some r) :
    Cf 176 [.agg (sT x1).toArray,pt e 0,pt f 0] w fun v w'=>.bool r=v∧Sep w' (Blk e 32 [g]::Blk f 9 [.string i]::Fo) (rs):=by
 unfold xI at hm
 refine ent Tryz.func176 rfl Tryz.ntmps176 rfl rfl fun a E=>sq<|bx E H rfl fun u w a H E=>pr 1 E rfl fun a E=>nx<|lb2 E H 1 U32 rfl fun a E=>pr 1 E rfl fun a E=>lb2 E H 0 U9 rfl fun a E=>bd hm fun x j hm=>xk2 E rfl (cf_ 24) (D3 H c j) fun w H a E=>pn 1 E rfl fun a E=>wp_seq<|?_
 obtain ⟨q,H⟩:=H.raw c
 refine dw [(0,0),(1,0),(2,0),(3,0),(4,0),(5,0),(6,0),(7,0),(8,0),(9,0),(10,0),(11,2)] [1,2] [0] H (by kernel_rfl) (fun _ _ _ h=>False.elim h.2) fun w W0 hI H=>fn 3 E rfl fun a E=>cs hm (fun b hm=>?_) fun b hm=>?_
 ·refine fb E rfl (ws' (d:=12) E rfl rfl rfl rfl b) rfl rfl rfl rfl m0 rfl U32 rfl fun a E=>fk 1 E (kc 12 rfl b) rfl fun a E=>bd hm fun s l hm=>?_
  obtain ⟨q15,t,m,n⟩:=gK (P:=Tryz.prog) (k:=.i64) hI (gD (.head _)) U32 nO l
  refine cZ E rfl (ws' (d:=12) E rfl rfl rfl rfl b) rfl rfl (fun w hW=>jQ E rfl rfl rfl (m w)) fun a E=>?_
  have o:=rO n (fun _ _ _ h=>yT h)
  refine fk 1 E (kc 12 rfl b) rfl fun a E=>fa E rfl (ws' (d:=12) E rfl rfl rfl rfl b) rfl rfl rfl rfl o U9 rfl fun a E=>fb E rfl (ws' (d:=12) E rfl rfl rfl rfl b) rfl rfl rfl rfl mm1 rfl U9 rfl fun a E=>fk 2 E (kc 12 rfl b) rfl fun a E=>bL rfl<|pn 1 E rfl fun a E=>aY<|?_
  clear hI
  refine aA<|wp_ret<|o1 E rfl<|have H:=H.drop 0;?_
  cases hm
  exact ⟨rfl,H.reads (Y1 Y0)⟩
 ·refine fk 8 E (kc 12 rfl b) rfl fun a E=>bL rfl<|pn 1 E rfl fun a E=>aY<|?_
  clear hI
  refine aA<|wp_ret<|o1 E rfl<|have H:=H.drop 0;?_
  cases hm
  exact ⟨rfl,H.reads (Y1 Y0)⟩

def fM(c:List aO)(d:List aI)(e:ByteArray):Nat→Int→Option Int
  | 0,_=>none
  | i+1,b=>
    if (decide (b < (c.length:Int)))=true then ((idx c b).bind fun f=>(xI f d e).bind fun g=>if g=true then (some (b)) else (fM c d e i (IntKind.i64.wrap (b+1)))) else (some ((-1)))
def kG(b:List aO)(c:List aI)(d:ByteArray):Option Int:=
  fM b c d (((b.length:Int) - 0:Int).toNat+1) 0
theorem yN{l j:Value}{d:List aO}{e f:Nat}{m:List aI}{g:ByteArray}(H:Sep w (Blk e 32 [j]::Blk f 9 [.string g]::Fo) rs)(k:rSl aV l d ∈ rs)(p:rSl aR j m ∈ rs){r:Int}(hm:kG d m g=some r) :
    Cf 154 [l,.func (.func 176) #[] #[pt e 0,pt f 0]] w fun v w'=>.int .i64 r=v∧Sep w' (Blk e 32 [j]::Blk f 9 [.string g]::Fo) (rs):=by
 unfold kG at hm
 refine ent Tryz.func154 rfl Tryz.ntmps154 rfl rfl fun a E=>sq<|pn 1 E rfl fun a E=>wp_seq<|sp 1 E rfl fun a E=>lS E H k U58 rfl fun a E=>pr 1 E rfl fun a E=>nt<|wp_block<|bD (fun c a w=>∃ i,Jn 19 a w [(0,l),(1,.func (.func 176) #[] #[pt e 0,pt f 0]),(7,.int .i64 (d.length:Int)),(8,.int .i64 i)] (Blk e 32 [j]::Blk f 9 [.string g]::Fo) rs (fM d m g c i=some r)) (((d.length:Int) - 0:Int).toNat+1) ?_ ?_
 ·exact ⟨_,_,E.to rfl,H,Y0,hm⟩
 ·clear E H hm
  rintro c a w ⟨i,q,E,H,b,hm⟩
  cases c with
  | zero=>exact (aZ hm rfl).elim
  | succ c=>
   unfold fM at hm
   refine sq<|pn 1 E rfl fun a E=>wp_seq<|wif E hm rfl (fun hm=>?_) fun hm=>?_
   ·refine wp_skip<|aA<|wp_seq<|wp_block<|sp 2 E rfl fun a E=>xp 3 E rfl fun a E=>bd hm fun s n hm=>cN E H (wn rfl) rfl rfl rfl rfl rfl (b _ k) U58 pG n fun q15 a H E=>ldf fB E H rfl rfl rfl rfl rfl m0 U78 rfl pG fun a E=>bd hm fun t o hm=>bM E (wn rfl) rfl rfl (bO E rfl rfl rfl ((cf_ 176) _)) (Ae H (t1 (b _ p)) o)<|?_
    rintro _ w ⟨rfl,H⟩ a E
    refine nt<|wif E hm rfl (fun hm=>?_) fun hm=>?_
    ·refine sq<|pn 2 E rfl fun a E=>wp_ret<|bF<|aG<|aG<|bF<|aG<|o1 E rfl<|?_
     cases hm
     exact ⟨rfl,H.reads (Y1 b)⟩
    ·exact wp_skip<|bH<|aA<|wp_region_lit<|pn 2 E rfl fun a E=>⟨c,Nat.lt_succ_self c,_,_,E.to rfl,H,(Y1 b),hm⟩
   ·refine wp_exit<|aL<|aL<|cH<|aA<|sq<|pn 1 E rfl fun a E=>wp_ret<|o1 E rfl<|?_
    cases hm
    exact ⟨rfl,H.reads b⟩

def jP(c:List aO)(d:List aI)(e:ByteArray):Option Bool:=
  (kG c d e).bind fun b=>some (decide (b ≥ 0))
theorem xW{g b:Value}{i:List aO}{c d:Nat}{j:List aI}{e:ByteArray}(H:Sep w (Blk c 32 [b]::Blk d 9 [.string e]::Fo) rs)(k:rSl aV g i ∈ rs)(l:rSl aR b j ∈ rs){r:Bool}(hm:jP i j e=some r) :
    Cf 160 [g,.func (.func 176) #[] #[pt c 0,pt d 0]] w fun v w'=>.bool r=v∧Sep w' (Blk c 32 [b]::Blk d 9 [.string e]::Fo) (rs):=by
 unfold jP at hm
 refine ent Tryz.func160 rfl Tryz.ntmps160 rfl rfl fun a E=>sp 1 E rfl fun a E=>xp 2 E rfl fun a E=>bd hm fun m f hm=>xk2 E rfl (cf_ 154) (yN H k l f) fun w H a E=>pn 2 E rfl fun a E=>wp_ret<|o1 E rfl<|?_
 cases hm
 exact ⟨rfl,H.reads Y0⟩

def zP(e:List aO)(b:List aI)(c:ByteArray):Option Bool:=
  (jP e b c).bind fun d=>some (d)
theorem Cn{o:Nat}{p c d e f g i j k l:Value}{t:List aO}{m:List aI}{n:ByteArray}(H:Sep w (Blk o 87 [d,e,f,p,g,i,j,k,l]::Fo) rs)(q:rSl aV p t ∈ rs)(b:rSl aR c m ∈ rs){r:Bool}(hm:zP t m n=some r) :
    Cf 106 [pt o 0,c,.string n] w fun v w'=>.bool r=v∧Sep w' (Blk o 87 [d,e,f,p,g,i,j,k,l]::Fo) (rs):=by
 unfold zP at hm
 refine ent Tryz.func106 rfl Tryz.ntmps106 rfl rfl fun a E=>sq<|?_
 obtain ⟨q34,u,rfl⟩:=H.slform b
 refine bx E H rfl fun x w a H E=>bx E H rfl fun y w a H E=>pr 1 E rfl fun a E=>xp 3 E rfl fun a E=>lb2 E H 2 U58 rfl fun a E=>sv2 E rfl (nM E rfl rfl rfl) fun a E=>have H:=H.frs [2,1,2] rfl;bd hm fun z s hm=>xk2 E rfl (cf_ 160) (xW H q b s) fun w H a E=>pn 1 E rfl fun a E=>wp_ret<|o1 E rfl<|have H:=H.drs [0,0];?_
 cases hm
 exact ⟨rfl,H.reads Y0⟩

def uI(b:aI×Bool)(c:xA)(d:cD)(e:cP):Option Mh:=
  some ((⟨0,0,false,b.1.Epoch,[],(⟨d,e⟩:aF),[],[],[]⟩:aW),c)
def qL(x20:aS)(e:List aD)(f:List aJ)(b:xA):Option Mh:=
  (uY b x20.Prefix).bind fun d=>(S5 (⟨e,f⟩:aF) b x20.Prefix).bind fun c=>uI d b c.1 c.2.1
def qM(x20:aS)(l:List aD)(m:List aJ)(c:List aI)(n:List aO)(d:Bool):Option Mh:=
  if d=true then ((F2 c x20.Prefix).bind fun b=>if (!b.2)=true then ((fC 132).bind fun e=>some (e,c)) else ((uX b.1 x20.Prefix).bind fun f=>(idx b.1 f).bind fun g=>if (g.Epoch != x20.Epoch)=true then ((fC 133).bind fun i=>some (i,c)) else ((zP n b.1 x20.Prefix).bind fun j=>if j=true then ((fC 131).bind fun k=>some (k,c)) else (qL x20 l m b.1)))) else (qL x20 l m c)
def xJ(d:List aD)(e:List aJ)(c:List aI)(f:List aO)(x20:aS):Option Mh:=
  (uY c x20.Prefix).bind fun b=>if (b.1.State != 2)=true then (qM x20 d e c f true) else (qM x20 d e c f (b.1.Epoch != x20.Epoch))
theorem Af{g:Nat}{y z b9 F G I J K j l m n o:Value}{A:List aD}{B:List aJ}{c0:List aI}{c1:List aO}{x20:aS}(H:Sep w (Blk g 87 [y,z,b9,F,j,l,m,n,o]::Fo) rs)(p:rSl aB y A ∈ rs)(q:rSl aC z B ∈ rs)(f:rSl aR b9 c0 ∈ rs)(c2:rSl aV F c1 ∈ rs){r:aW×xA}(hm:xJ A B c0 c1 x20=some r) :
    Cf 46 [pt g 0,.agg (aX x20 G I J K).toArray] w fun v w'=>∃ e7 e8 e9 f0 f1 f2 f3,.agg (bJ r.1 e7 e8 e9 f0 f1 f2).toArray=v∧Sep w' (Blk g 87 [y,z,f3,F,j,l,m,n,o]::Fo) (rSl aU e7 r.1.Results::rSl aB e8 r.1.Store.Nodes::rSl aC e9 r.1.Store.Turns::rSl aT f0 r.1.Events::rSl bU f1 r.1.Mounts::rSl (kI .i64) f2 r.1.Wounded::rSl aR f3 r.2::rs):=by
 unfold xJ at hm
 refine ent Tryz.func46 rfl Tryz.ntmps46 rfl rfl fun a E=>sq<|bx E H rfl fun s w a H E=>al2 E H rfl tI fun x w a H E=>nt<|aK (fun a w=>∃ t L C,Env 90 a [(0,pt g 0),(3,pt s 0),(4,pt x 0)]∧Sep w (Blk g 87 [y,z,t,F,j,l,m,n,o]::Blk s 37 (aX x20 G I J K)::Blk x 48 dC::Fo) C∧(∀ r,r ∈ rs→r ∈ C)∧rSl aR t L ∈ C∧qL x20 A B L=some r) ?_ ?_
 ·refine sp 2 E rfl fun a E=>lb2 E H 1 U9 rfl fun a E=>have H:=H.frs [1,1,2] rfl;bd hm fun f5 U hm=>xk2 E rfl (cf_ 104) (I4 H f U) fun w H a E=>pr 3 E rfl fun a E=>al2 E H rfl Ni fun f6 w a H E=>ss 0 E H rfl nO rfl fun w H=>pn 1 E rfl fun a E=>aK (fun a w=>∃ O,Jn 90 a w [(0,pt g 0),(3,pt s 0),(4,pt x 0),(29,.bool O)] (Blk g 87 [y,z,b9,F,j,l,m,n,o]::Blk s 37 (aX x20 G I J K)::Blk x 48 dC::Fo) rs (qM x20 A B c0 c1 O=some r)) ?_ ?_
  ·refine wp_region_lit<|pr 1 E rfl fun a E=>lb2 E H 0 U3 rfl fun a E=>pr 2 E rfl fun a E=>cs hm (fun e hm=>?_) fun e hm=>?_
   ·exact pk 6 E (kc 23 rfl e) rfl fun a E=>nt<|have H:=H.drop 0;have H:=H.frs [1,2,2] rfl;⟨_,_,E.to rfl,H,Y0,hm⟩
   ·exact pk 1 E (kc 23 rfl e) rfl fun a E=>gl 23 E H 0 e U2 rfl fun a E=>pk 1 E (kc 23 rfl e) rfl fun a E=>gl 23 E H 3 e U2 rfl fun a E=>pk 2 E (kc 23 rfl e) rfl fun a E=>nt<|have H:=H.drop 0;have H:=H.frs [1,2,2] rfl;⟨_,_,E.to rfl,H,Y0,hm⟩
  ·clear E H hm
   rintro a w ⟨O,f4,E,H,c,hm⟩
   unfold qM at hm
   refine wif E hm rfl (fun hm=>?_) fun hm=>?_
   ·refine wp_seq<|dz [0,0,0,0,0,0,1,0,0,0,1,2] [0,1] H fun w W0 hI H=>fn 3 E rfl fun a E=>fb2 E m0 U32 rfl fun a E=>fn 1 E rfl fun a E=>fb2 E mm1 U9 rfl fun a E=>bI rfl<|bd hm fun f7 V hm=>xc2 E rfl (cf_ 105) (Jq H (c _ f) V)<|?_
    rintro _ w ⟨f8,rfl,H⟩ a E
    refine nt<|⟨sx H [1,2] rfl,fn 3 E rfl fun a E=>bI rfl<|pn 1 E rfl fun a E=>⟨sx H [1,2] rfl,bL rfl<|pn 1 E rfl fun a E=>aY<|?_⟩⟩
    clear hI
    refine aA<|wp_seq<|sq<|pn 2 E rfl fun a E=>wif E hm rfl (fun hm=>?_) fun hm=>?_
    ·refine sq<|bd hm fun c3 X hm=>xc2 E rfl (cf_ 53) (gP H X)<|?_
     rintro _ w ⟨c4,c5,c6,c7,c8,c9,rfl,H⟩ a E
     refine ss 3 E H rfl cV (bR H m0 mm1 mm2 mm3 mm4 mm5) fun w H=>nt<|wp_ret<|aG<|aG<|oB 3 (bJ c3 c4 c5 c6 c7 c8 c9) E H U48 rfl cV<|have H:=H.drs [0,1,1];?_
     cases hm
     exact X7 ⟨rfl,H.rdx [0,1,2,3,4,5] rfl (aE (t6 (c _ f)) (fun r hr=>(t6 (c r hr))))⟩
    ·refine wp_skip<|aA<|wp_seq<|wp_seq<|have H:=H.thaw (i:=0) rfl;?_
     obtain ⟨f9,H⟩:=H.raw m0
     refine dw [(0,0),(1,0),(2,0),(3,0),(8,0),(9,0),(4,1),(5,0),(6,0),(7,0),(10,0)] [1] [0] H (by kernel_rfl) (fun _ _ _ h=>False.elim h.2) fun w W0 hI H=>fn 3 E rfl fun a E=>fb2 E m0 U9 rfl fun a E=>fn 1 E rfl fun a E=>fb2 E m0 U2 rfl fun a E=>bI rfl<|bd hm fun g0 Y hm=>xk2 E rfl (cf_ 24) (D3 H mm1 Y) fun w H a E=>nt<|⟨⟨_,_,H,(aM mm1 (bC)),(aE m0 (bG))⟩,bd hm fun g1 Z hm=>?_⟩
     obtain ⟨q258,g2,b0,b1⟩:=gK (P:=Tryz.prog) (k:=.i64) hI (gD (.head _)) U32 nO Z
     refine fv E rfl (fun w hW=>jQ E rfl rfl rfl (b0 w)) fun a E=>?_
     have b2:=rO b1 (fun _ _ _ h=>Hn h)
     refine fn 1 E rfl fun a E=>fa E rfl (wn rfl) rfl rfl rfl rfl b2 U2 rfl fun a E=>fn 1 E rfl fun a E=>aY<|?_
     clear hI
     refine aA<|wif E hm rfl (fun hm=>?_) fun hm=>?_
     ·refine sq<|bd hm fun d0 b3 hm=>xc2 E rfl (cf_ 53) (gP H b3)<|?_
      rintro _ w ⟨d1,d2,d3,d4,d5,d6,rfl,H⟩ a E
      refine ss 2 E H rfl cV (bR H m0 mm1 mm2 mm3 mm4 mm5) fun w H=>nt<|wp_ret<|aG<|aG<|oB 2 (bJ d0 d1 d2 d3 d4 d5 d6) E H U48 rfl cV<|have H:=H.drs [1,1];?_
      cases hm
      exact X7 ⟨rfl,H.rdx [0,1,2,3,4,5] rfl (aE (t8 (c _ f)) (fun r hr=>(t8 (c r hr))))⟩
     ·refine wp_skip<|aA<|wp_seq<|sp 3 E rfl fun a E=>lb2 E H 1 U9 rfl fun a E=>bd hm fun g3 b4 hm=>xk2 E rfl (cf_ 106) (Cn H (t2 (c _ c2)) mm1 b4) fun w H a E=>nt<|wif E hm rfl (fun hm=>?_) fun hm=>?_
      ·refine sq<|bd hm fun d7 b5 hm=>xc2 E rfl (cf_ 53) (gP H b5)<|?_
       rintro _ w ⟨d8,d9,e0,e1,e2,e3,rfl,H⟩ a E
       refine ss 2 E H rfl cV (bR H m0 mm1 mm2 mm3 mm4 mm5) fun w H=>nt<|wp_ret<|aG<|aG<|oB 2 (bJ d7 d8 d9 e0 e1 e2 e3) E H U48 rfl cV<|have H:=H.drs [1,1];?_
       cases hm
       exact X7 ⟨rfl,H.rdx [0,1,2,3,4,5] rfl (aE (t8 (c _ f)) (fun r hr=>(t8 (c r hr))))⟩
      ·refine wp_skip<|aA<|wp_region_lit<|pr 4 E rfl fun a E=>?_
       obtain ⟨q281,g4,rfl⟩:=H.slform mm1
       exact ss 0 E H rfl HN rfl fun w H=>nt<|X3 ⟨E.to rfl,H,(Y2 c),mm1,hm⟩
   ·exact wp_skip<|aA<|X3 ⟨E.to rfl,H,c,(c _ f),hm⟩
 ·clear E H hm
  rintro a w ⟨t,L,C,E,H,b,d,hm⟩
  unfold qL at hm
  refine sp 2 E rfl fun a E=>lb2 E H 1 U9 rfl fun a E=>bd hm fun Q e4 hm=>xk2 E rfl (cf_ 104) (I4 H d e4) fun w H a E=>pr 3 E rfl fun a E=>al2 E H rfl Ni fun b6 w a H E=>ss 0 E H rfl nO rfl fun w H=>pr 1 E rfl fun a E=>nt<|aK (fun a w=>∃ T R S M N D,Env 90 a [(4,pt x 0),(9,pt b6 0),(11,pt T 0)]∧Sep w (Blk x 48 dC::Blk b6 31 (pI Q.1)::Blk T 25 [R,S]::Blk g 87 [y,z,t,F,j,l,m,n,o]::Row 107 aB R M::Row 89 aC S N::Fo) D∧(∀ r,r ∈ rs→r ∈ D)∧rSl aR t L ∈ D∧uI Q L M N=some r) ?_ ?_
  ·refine bd hm fun n0 u hm=>?_
   have hI:dZ [Blk g 87 [y,z,t,F,j,l,m,n,o],Blk s 37 (aX x20 G I J K)] [] { w with drawn:=w.drawn+1 }:=⟨_,_,H.kept (Kp.drawn _ w _),(aM mm1 (aM mm2 (bC))),(bG)⟩
   refine wV _ (.go 0 0 (.go 1 0 (.go 2 0 (.go 3 0 (.go 4 0 (.go 5 0 (.go 6 0 (.go 7 0 (.go 8 0 (.go 9 0 (.alt3 10 (.go 11 0 (.go 12 0 (.go 13 0 (.alt 14 (.go 15 1 (.go 16 1 (.go 17 2 .nil))) 15 (.go 14 1 (.go 16 1 (.go 17 2 .nil))))))) 14 (.alt 10 (.go 11 0 (.go 12 0 (.go 13 0 (.go 15 1 (.go 16 1 (.go 17 2 .nil)))))) 15 (.go 10 1 (.go 11 0 (.go 12 0 (.go 13 0 (.go 16 1 (.go 17 2 .nil))))))) 15 (.alt 10 (.go 11 0 (.go 12 0 (.go 13 0 (.go 14 1 (.go 16 1 (.go 17 2 .nil)))))) 14 (.go 10 1 (.go 11 0 (.go 12 0 (.go 13 0 (.go 16 1 (.go 17 2 .nil)))))))))))))))))) [17] xZ (by kernel_rfl) (fun _ _ _ h=>False.elim h.2) hI<|have H:=H.kept (Kp.drawn _ w (w.drawn+1));?_
   generalize ({ w with drawn:=w.drawn+1 }:World)=w at H hI ⊢
   replace hI:∃ W,dZ [Blk g 87 [y,z,t,F,j,l,m,n,o],Blk s 37 (aX x20 G I J K)] [] W:=⟨_,hI⟩
   obtain ⟨W0,hI⟩:=hI
   refine om E rfl fun a E=>ov E rfl (fun w hW=>(K4 E rfl rfl)) fun a E=>ov E rfl (fun w hW=>yC E rfl rfl (v:=pt g 0) (Nr _ _)) fun a E=>ov E rfl (fun w hW=>pE E rfl rfl (Bn (us:=[y,z]) m0 rfl U25 rfl bK w hW)) fun a E=>om E rfl fun a E=>ov E rfl (fun w hW=>(K4 E rfl rfl)) fun a E=>ov E rfl (fun w hW=>yC E rfl rfl (v:=pt g 2) (Ue _ _)) fun a E=>ol E m0 U32 rfl fun a E=>ov E rfl (fun w hW=>yC E rfl rfl (v:=pt s 6) (Tz _ _)) fun a E=>ol E mm1 U9 rfl fun a E=>Qg rfl rfl rfl ?_ ?_ ?_
   ·refine xc2 E rfl (cf_ 107) (w7 (x1:=(⟨A,B⟩:aF)) H (b _ p) (b _ q) d u)<|?_
    rintro _ w ⟨g5,g6,g7,g8,rfl,H⟩ a E
    refine nt<|⟨sx H [5,6] rfl,om E rfl fun a E=>ox E rfl fun a E=>ox E rfl fun a E=>uO rfl rfl ?_ ?_⟩
    ·refine al2 E H rfl lT fun g9 w a H E=>nt<|⟨⟨_,_,H,(aM mm6 (aM (t1 mm6) (bC))),(bG)⟩,dK rfl<|al2 E H rfl lT fun i0 w a H E=>nt<|⟨⟨_,_,H,(aM (t1 mm6) (aM (t2 mm6) (bC))),(bG)⟩,dK rfl<|?_⟩⟩
     obtain ⟨q156,i1,rfl⟩:=H.rowform (i:=2) rfl
     obtain ⟨q158,i2,rfl⟩:=H.rowform (i:=3) rfl
     refine ss 1 E H rfl bK rfl fun w H=>nt<|⟨⟨_,_,H,(aM (t1 mm6) (aM (t2 mm6) (bC))),(bG)⟩,eL rfl<|?_⟩
     obtain ⟨q160,i3,rfl⟩:=H.rowform (i:=4) rfl
     obtain ⟨q162,i4,rfl⟩:=H.rowform (i:=5) rfl
     refine ss 0 E H rfl bK rfl fun w H=>nt<|iK<|?_
     clear hI
     exact aA<|have H:=H.drs [0,3,3,5];have H:=H.frs [2,2,4,3,4,5] rfl;X6 ⟨E.to rfl,H,b,d,hm⟩
    ·refine al2 E H rfl lT fun i5 w a H E=>nt<|⟨⟨_,_,H,(aM mm6 (aM (t1 mm6) (bC))),(bG)⟩,dK rfl<|al2 E H rfl lT fun i6 w a H E=>nt<|⟨⟨_,_,H,(aM (t1 mm6) (aM (t2 mm6) (bC))),(bG)⟩,dK rfl<|?_⟩⟩
     obtain ⟨q166,i7,rfl⟩:=H.rowform (i:=2) rfl
     obtain ⟨q168,i8,rfl⟩:=H.rowform (i:=3) rfl
     refine ss 0 E H rfl bK rfl fun w H=>nt<|⟨⟨_,_,H,(aM (t1 mm6) (aM (t2 mm6) (bC))),(bG)⟩,eL rfl<|?_⟩
     obtain ⟨q170,i9,rfl⟩:=H.rowform (i:=4) rfl
     obtain ⟨q172,j0,rfl⟩:=H.rowform (i:=5) rfl
     refine ss 1 E H rfl bK rfl fun w H=>nt<|iK<|?_
     clear hI
     exact aA<|have H:=H.drs [1,3,3,5];have H:=H.frs [2,2,4,3,4,5] rfl;X6 ⟨E.to rfl,H,b,d,hm⟩
   ·refine al2 E H rfl lT fun j1 w a H E=>nt<|⟨sx H [2,3] rfl,uO rfl rfl ?_ ?_⟩
    ·refine xc2 E rfl (cf_ 107) (w7 (x1:=(⟨A,B⟩:aF)) H (b _ p) (b _ q) d u)<|?_
     rintro _ w ⟨j2,j3,j4,j5,rfl,H⟩ a E
     refine nt<|⟨⟨_,_,H,(aM mm6 (aM (t1 mm6) (bC))),(bG)⟩,om E rfl fun a E=>ox E rfl fun a E=>ox E rfl fun a E=>dK rfl<|al2 E H rfl lT fun j6 w a H E=>nt<|⟨⟨_,_,H,(aM (t1 mm6) (aM (t2 mm6) (bC))),(bG)⟩,dK rfl<|?_⟩⟩
     obtain ⟨q182,j7,rfl⟩:=H.rowform (i:=1) rfl
     obtain ⟨q184,j8,rfl⟩:=H.rowform (i:=2) rfl
     refine ss 5 E H rfl bK rfl fun w H=>nt<|⟨⟨_,_,H,(aM (t1 mm6) (aM (t2 mm6) (bC))),(bG)⟩,eL rfl<|?_⟩
     obtain ⟨q186,j9,rfl⟩:=H.rowform (i:=3) rfl
     obtain ⟨q188,k0,rfl⟩:=H.rowform (i:=4) rfl
     refine ss 0 E H rfl bK rfl fun w H=>nt<|iK<|?_
     clear hI
     exact aA<|have H:=H.drs [0,2,2,5];have H:=H.frs [1,1,4,3,4,5] rfl;X6 ⟨E.to rfl,H,b,d,hm⟩
    ·refine al2 E H rfl lT fun k1 w a H E=>nt<|⟨sx H [3,4] rfl,dK rfl<|xc2 E rfl (cf_ 107) (w7 (x1:=(⟨A,B⟩:aF)) H (b _ p) (b _ q) d u)<|?_⟩
     rintro _ w ⟨k2,k3,k4,k5,rfl,H⟩ a E
     refine nt<|⟨⟨_,_,H,(aM (t1 mm6) (aM (t2 mm6) (bC))),(bG)⟩,om E rfl fun a E=>ox E rfl fun a E=>ox E rfl fun a E=>dK rfl<|?_⟩
     obtain ⟨q197,k6,rfl⟩:=H.rowform (i:=0) rfl
     obtain ⟨q199,k7,rfl⟩:=H.rowform (i:=1) rfl
     refine ss 5 E H rfl bK rfl fun w H=>nt<|⟨⟨_,_,H,(aM (t1 mm6) (aM (t2 mm6) (bC))),(bG)⟩,eL rfl<|?_⟩
     obtain ⟨q201,k8,rfl⟩:=H.rowform (i:=2) rfl
     obtain ⟨q203,k9,rfl⟩:=H.rowform (i:=3) rfl
     refine ss 4 E H rfl bK rfl fun w H=>nt<|iK<|?_
     clear hI
     exact aA<|have H:=H.drs [2,2,2,5];have H:=H.frs [1,1,4,3,4,5] rfl;X6 ⟨E.to rfl,H,b,d,hm⟩
   ·refine al2 E H rfl lT fun l0 w a H E=>nt<|⟨sx H [2,3] rfl,uO rfl rfl ?_ ?_⟩
    ·refine xc2 E rfl (cf_ 107) (w7 (x1:=(⟨A,B⟩:aF)) H (b _ p) (b _ q) d u)<|?_
     rintro _ w ⟨l1,l2,l3,l4,rfl,H⟩ a E
     refine nt<|⟨⟨_,_,H,(aM mm6 (aM (t1 mm6) (bC))),(bG)⟩,om E rfl fun a E=>ox E rfl fun a E=>ox E rfl fun a E=>dK rfl<|al2 E H rfl lT fun l5 w a H E=>nt<|⟨⟨_,_,H,(aM (t1 mm6) (aM (t2 mm6) (bC))),(bG)⟩,dK rfl<|?_⟩⟩
     obtain ⟨q213,l6,rfl⟩:=H.rowform (i:=1) rfl
     obtain ⟨q215,l7,rfl⟩:=H.rowform (i:=2) rfl
     refine ss 0 E H rfl bK rfl fun w H=>nt<|⟨⟨_,_,H,(aM (t1 mm6) (aM (t2 mm6) (bC))),(bG)⟩,eL rfl<|?_⟩
     obtain ⟨q217,l8,rfl⟩:=H.rowform (i:=3) rfl
     obtain ⟨q219,l9,rfl⟩:=H.rowform (i:=4) rfl
     refine ss 5 E H rfl bK rfl fun w H=>nt<|iK<|?_
     clear hI
     exact aA<|have H:=H.drs [3,3,3,5];have H:=H.frs [2,2,4,3,4,5] rfl;X6 ⟨E.to rfl,H,b,d,hm⟩
    ·refine al2 E H rfl lT fun m1 w a H E=>nt<|⟨sx H [3,4] rfl,dK rfl<|xc2 E rfl (cf_ 107) (w7 (x1:=(⟨A,B⟩:aF)) H (b _ p) (b _ q) d u)<|?_⟩
     rintro _ w ⟨m2,m3,m4,m5,rfl,H⟩ a E
     refine nt<|⟨⟨_,_,H,(aM (t1 mm6) (aM (t2 mm6) (bC))),(bG)⟩,om E rfl fun a E=>ox E rfl fun a E=>ox E rfl fun a E=>dK rfl<|?_⟩
     obtain ⟨q228,m6,rfl⟩:=H.rowform (i:=0) rfl
     obtain ⟨q230,m7,rfl⟩:=H.rowform (i:=1) rfl
     refine ss 4 E H rfl bK rfl fun w H=>nt<|⟨⟨_,_,H,(aM (t1 mm6) (aM (t2 mm6) (bC))),(bG)⟩,eL rfl<|?_⟩
     obtain ⟨q232,m8,rfl⟩:=H.rowform (i:=2) rfl
     obtain ⟨q234,m9,rfl⟩:=H.rowform (i:=3) rfl
     refine ss 5 E H rfl bK rfl fun w H=>nt<|iK<|?_
     clear hI
     exact aA<|have H:=H.drs [2,2,3,5];have H:=H.frs [1,1,4,3,4,5] rfl;X6 ⟨E.to rfl,H,b,d,hm⟩
  ·clear E H hm
   rintro a w ⟨T,R,S,M,N,D,E,H,e5,e6,hm⟩
   unfold uI at hm
   refine sp 1 E rfl fun a E=>lb2 E H 1 U2 rfl fun a E=>ln 2 [R,S] E H U25 rfl bK fun a E=>?_
   obtain ⟨q56,b7,rfl⟩:=H.rowform (i:=4) rfl
   obtain ⟨q58,b8,rfl⟩:=H.rowform (i:=5) rfl
   refine sv2 E rfl (bP E rfl (E.evs rfl) (v:=.agg #[.int .i64 0,.int .i64 0,.bool false,.int .i64 Q.1.Epoch,nS,(.slice q56 M.length b7),(.slice q58 N.length b8),nS,nS,nS]) (by kernel_rfl)) fun a E=>ss 0 E H rfl cV rfl fun w H=>nt<|wp_ret<|oB 0 [.int .i64 0,.int .i64 0,.bool false,.int .i64 Q.1.Epoch,nS,(.slice q56 M.length b7),(.slice q58 N.length b8),nS,nS,nS] E H U48 rfl cV<|have H:=H.thaw (i:=4) rfl;have H:=H.thaw (i:=4) rfl;have H:=H.nilSl aU;have H:=H.nilSl aT;have H:=H.nilSl bU;have H:=H.nilSl (kI .i64);have H:=H.drs [0,0,0];?_
   cases hm
   exact X7 ⟨rfl,H.rdx [3,5,4,2,1,0] rfl (aE (t6 e6) (fun r hr=>(t6 (e5 r hr))))⟩

def sF(c:List bV):Nat→cR→Int→Option cR
  | 0,_,_=>none
  | f+1,b,d=>
    if (decide (d < (c.length:Int)))=true then ((idx c d).bind fun e=>(ck (b.length+([e.Part.Dir]:List ByteArray).length ≤ LIM)).bind fun g=>sF c f (b ++ ([e.Part.Dir]:List ByteArray)) (IntKind.i64.wrap (d+1))) else ((ck (b.length ≤ 1000000)).bind fun i=>(ck ((uP b).length ≤ 1000000)).bind fun j=>some (rF (uP b)))
def wK(b:List bV):Option cR:=
  sF b (((b.length:Int) - 0:Int).toNat+1) [] 0
theorem Co{k:Value}{c:List bV}(H:Sep w (Fo) rs)(j:rSl bN k c ∈ rs){r:cR}(hm:wK c=some r) :
    Cf 96 [k] w fun v w'=>∃ t,t=v∧Sep w' (Row 9 kS t r::Fo) (rs):=by
 unfold wK at hm
 refine ent Tryz.func96 rfl Tryz.ntmps96 rfl rfl fun a E=>sp 1 E rfl fun a E=>nx<|pn 1 E rfl fun a E=>wp_seq<|sp 1 E rfl fun a E=>lS E H j U26 rfl fun a E=>pn 1 E rfl fun a E=>wp_block<|bD (fun b a w=>∃ l m n,Jn 23 a w [(3,l),(6,k),(7,.int .i64 (c.length:Int)),(8,.int .i64 n)] (Row 9 kS l m::Fo) rs (sF c b m n=some r)) (((c.length:Int) - 0:Int).toNat+1) ?_ ?_
 ·exact have H:=H.nilRow 9 kS;X4 ⟨E.to rfl,H,Y0,hm⟩
 ·clear E H hm
  rintro b a w ⟨l,m,n,u,E,H,f,hm⟩
  cases b with
  | zero=>exact (aZ hm rfl).elim
  | succ b=>
   unfold sF at hm
   refine sq<|pn 1 E rfl fun a E=>wp_seq<|wif E hm rfl (fun hm=>?_) fun hm=>?_
   ·exact wp_skip<|aA<|wp_seq<|wp_block<|sq<|bd hm fun g o hm=>cN E H (wn rfl) rfl rfl rfl rfl rfl (f _ j) U26 C5 o fun q11 a H E=>ldf wZ E H rfl rfl rfl rfl rfl m0 U99 rfl C5 fun a E=>al2 E H rfl Rz fun y w a H E=>ss 0 E H rfl C5 rfl fun w H=>nt<|wp_region_lit<|pr 3 E rfl fun a E=>lb2 E H 0 U9 rfl fun a E=>iV (e:=9) (d:=kS) (cs:=[.string g.Part.Dir]) (xs:=[g.Part.Dir]) E H (wn rfl) rfl rfl rfl (E.evs rfl) (by kernel_rfl) rfl (fun ok hr=>(Rows.single (d:=kS) (cs:=[.string g.Part.Dir]) (x:=g.Part.Dir) rfl)) fun z w a H E=>bk hm fun p hm=>cO (i:=1) E H (wn rfl) rfl rfl rfl rfl rfl rfl (fA m0) U33 Z5 rfl p rfl fun A w a H E=>pr 1 E rfl fun a E=>wpList_nil<|bH<|aA<|wp_region_lit<|pn 2 E rfl fun a E=>have H:=H.drop 0;⟨b,Nat.lt_succ_self b,X4 ⟨E.to rfl,H,(Y2 f),hm⟩⟩
   ·refine wp_exit<|aL<|aL<|cH<|aA<|sp 1 E rfl fun a E=>bk hm fun q hm=>xc2 E rfl (cf_ 151) (AG (ix:=0) H rfl q)<|?_
    rintro _ w ⟨rfl,H⟩ a E
    refine xp 1 E rfl fun a E=>bk hm fun s hm=>xc2 E rfl (cf_ 152) (AH (ix:=0) H rfl s) fun B w H a E=>pn 1 E rfl fun a E=>wp_ret<|o1 E rfl<|?_
    cases hm
    exact ⟨_,rfl,H.reads f⟩

end Go.Cb
