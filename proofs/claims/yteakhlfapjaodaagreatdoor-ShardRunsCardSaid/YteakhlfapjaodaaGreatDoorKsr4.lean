/- Functions of the program, walked: each comes to its plain function. -/
import Derived.Test.YteakhlfapjaodaaGreatDoorKsr3
set_option linter.unusedVariables false
set_option linter.unusedSimpArgs false
set_option maxRecDepth 20000
set_option maxHeartbeats 1000000
namespace Go.Cb
open Go.Proofs Go.RowKit
variable {w:World} {Fo:List Ob} {rs:List Rp}

def jF(rec_1:cP→Bool→Int→Option aF)(b:Int)(c:cP)(d:Bool):Option aF:=
  rec_1 c d (IntKind.i64.wrap (b+1))
def jG(rec_1:cP→Bool→Int→Option aF)(b:Int)(x1:aF)(g:ByteArray)(c:cP)(d:Bool):Option aF:=
  (idx x1.Turns b).bind fun f=>if (!(sEq f.Dir g))=true then ((idx x1.Turns b).bind fun e=>(ck (c.length+([e]:List aJ).length ≤ LIM)).bind fun i=>jF rec_1 b (c ++ ([e]:List aJ)) d) else (jF rec_1 b c d)
def jH(rec_1:cP→Bool→Int→Option aF)(d:Int)(x1:aF)(c:ByteArray)(b:cP)(e:Int)(f:Bool)(g:Bool):Option aF:=
  if g=true then ((ck (b.length+([(⟨c,e⟩:aJ)]:List aJ).length ≤ LIM)).bind fun i=>jG rec_1 d x1 c (b ++ ([(⟨c,e⟩:aJ)]:List aJ)) true) else (jG rec_1 d x1 c b f)
def jI(x1:aF)(b:cP):Option aF:=
  some ((⟨x1.Nodes,b⟩:aF))
def dG(x1:aF)(c:ByteArray)(f:Int):Nat→cP→Bool→Int→Option aF
  | 0,_,_,_=>none
  | g+1,b,d,e=>
    if (decide (e < (x1.Turns.length:Int)))=true then (if (!d)=true then ((idx x1.Turns e).bind fun i=>jH (dG x1 c f g) e x1 c b f d (!(sLt i.Dir c))) else (jH (dG x1 c f g) e x1 c b f d false)) else (if (!d)=true then ((ck (b.length+([(⟨c,f⟩:aJ)]:List aJ).length ≤ LIM)).bind fun j=>jI x1 (b ++ ([(⟨c,f⟩:aJ)]:List aJ))) else (jI x1 b))
def mQ(x1:aF)(c:ByteArray)(b:Int):Option aF:=
  dG x1 c b (((x1.Turns.length:Int) - 0:Int).toNat+1) [] (b == 0) 0
theorem D4{x1:aF}{p y:Value}{b:ByteArray}{c:Int}(H:Sep w (Fo) rs)(M:rSl aB p x1.Nodes ∈ rs)(A:rSl aC y x1.Turns ∈ rs){r:aF}(hm:mQ x1 b c=some r) :
    Cf 148 [.agg #[p,y],.string b,.int .i64 c] w fun v w'=>∃ V W,.agg #[V,W]=v∧Sep w' (Fo) (rSl aB V r.Nodes::rSl aC W r.Turns::rs):=by
 unfold mQ at hm
 refine ent Tryz.func148 rfl Tryz.ntmps148 rfl rfl fun a E=>sq<|bx E H rfl fun k w a H E=>al2 E H rfl lT fun l w a H E=>xp 1 E rfl fun a E=>nx<|pn 3 E rfl fun a E=>wp_seq<|sq<|pn 1 E rfl fun a E=>wp_block<|bD (fun n a w=>∃ q s t g,Jn 64 a w [(1,.string b),(2,.int .i64 c),(3,pt k 0),(6,pt l 0),(7,q),(8,.bool t),(9,.int .i64 g)] (Blk k 25 [p,y]::Blk l 25 [nS,nS]::Row 89 aC q s::Fo) rs (dG x1 b c n s t g=some r)) (((x1.Turns.length:Int) - 0:Int).toNat+1) ?_ ?_
 ·exact have H:=H.nilRow 89 aC;have H:=H.frs [0,1,2] rfl;X5 ⟨E.to rfl,H,Y0,hm⟩
 ·clear E H hm
  rintro n a w ⟨q,s,t,g,b0,E,H,j,hm⟩
  cases n with
  | zero=>exact (aZ hm rfl).elim
  | succ n=>
   unfold dG at hm
   refine wp_seq<|sp 2 E rfl fun a E=>lb2 E H 0 U23 rfl fun a E=>lS E H (j _ A) U23 rfl fun a E=>pn 1 E rfl fun a E=>wif E hm rfl (fun hm=>?_) fun hm=>?_
   ·refine wp_skip<|aA<|aK (fun a w=>∃ B C D,Jn 64 a w [(1,.string b),(2,.int .i64 c),(3,pt k 0),(6,pt l 0),(7,B),(8,.bool D),(9,.int .i64 g)] (Blk k 25 [p,y]::Blk l 25 [nS,nS]::Row 89 aC B C::Fo) rs (jF (dG x1 b c n) g C D=some r)) ?_ ?_
    ·refine wp_block<|aK (fun a w=>∃ F G I,Jn 64 a w [(1,.string b),(2,.int .i64 c),(3,pt k 0),(6,pt l 0),(7,F),(8,.bool I),(9,.int .i64 g)] (Blk k 25 [p,y]::Blk l 25 [nS,nS]::Row 89 aC F G::Fo) rs (jG (dG x1 b c n) g x1 b G I=some r)) ?_ ?_
     ·refine aK (fun a w=>∃ J,Jn 64 a w [(1,.string b),(2,.int .i64 c),(3,pt k 0),(6,pt l 0),(7,q),(8,.bool t),(9,.int .i64 g),(30,.bool J)] (Blk k 25 [p,y]::Blk l 25 [nS,nS]::Row 89 aC q s::Fo) rs (jH (dG x1 b c n) g x1 b s c t J=some r)) ?_ ?_
      ·refine wp_region_lit<|pr 3 E rfl fun a E=>cs hm (fun f hm=>?_) fun f hm=>?_
       ·exact pk 1 E (kc 21 rfl f) rfl fun a E=>gl 21 E H 0 f U23 rfl fun a E=>pk 1 E (kc 21 rfl f) rfl fun a E=>bd hm fun X O hm=>cN E H (ws' (d:=21) E rfl rfl rfl rfl f) rfl rfl rfl rfl rfl (j _ A) U23 iS O fun q46 a H E=>have H:=H.derive1 m0 (rAt kS (q46.add 0) X.Dir) (fun ok h=>zZ h);pk 1 E (kc 21 rfl f) rfl fun a E=>gv 21 E f rfl (pJ E H rfl rfl m0 U9 rfl) fun a E=>pk 3 E (kc 21 rfl f) rfl fun a E=>nt<|⟨_,_,E.to rfl,H,(Y2 j),hm⟩
       ·exact pk 9 E (kc 21 rfl f) rfl fun a E=>nt<|⟨_,_,E.to rfl,H,j,hm⟩
      ·clear E H hm
       rintro a w ⟨J,b1,E,H,K,hm⟩
       unfold jH at hm
       refine wif E hm rfl (fun hm=>?_) fun hm=>?_
       ·exact sp 3 E rfl fun a E=>sv2 E rfl (bP E rfl (E.evs rfl) (v:=.agg #[.string b,.int .i64 c]) (by kernel_rfl)) fun a E=>iV (e:=89) (d:=aC) (cs:=[.string b,.int .i64 c]) (xs:=[(⟨b,c⟩:aJ)]) E H (wn rfl) rfl rfl rfl (E.evs rfl) (by kernel_rfl) rfl (fun ok hr=>(Rows.single (d:=aC) (cs:=[.string b,.int .i64 c]) (x:=(⟨b,c⟩:aJ)) oD)) fun b5 w a H E=>bk hm fun P hm=>cO (i:=2) E H (wn rfl) rfl rfl rfl rfl rfl rfl (fA m0) U23 Dm rfl P rfl fun b6 w a H E=>pn 1 E rfl fun a E=>wp_region_lit<|pn 1 E rfl fun a E=>X4 ⟨E.to rfl,H,(Y1 K),hm⟩
       ·exact wp_skip<|aA<|X4 ⟨E.to rfl,H,K,hm⟩
     ·clear E H hm
      rintro a w ⟨F,G,I,b2,E,H,o,hm⟩
      unfold jG at hm
      refine sp 1 E rfl fun a E=>lb2 E H 0 U23 rfl fun a E=>pr 1 E rfl fun a E=>bd hm fun Y Q hm=>cN E H (wn rfl) rfl rfl rfl rfl rfl (o _ A) U23 iS Q fun q28 a H E=>have H:=H.derive1 m0 (rAt kS (q28.add 0) Y.Dir) (fun ok h=>zZ h);pr 1 E rfl fun a E=>sv2 E rfl (pJ E H rfl rfl m0 U9 rfl) fun a E=>pn 2 E rfl fun a E=>wif E hm rfl (fun hm=>?_) fun hm=>?_
      ·exact wp_region_lit<|pr 2 E rfl fun a E=>lb2 E H 0 U23 rfl fun a E=>pr 1 E rfl fun a E=>bd hm fun m R hm=>cN E H (wn rfl) rfl rfl rfl rfl rfl (t2 (o _ A)) U23 iS R fun q31 a H E=>ldf dT E H rfl rfl rfl rfl rfl m0 U89 rfl iS fun a E=>iV (e:=89) (d:=aC) (cs:=[.string m.Dir,.int .i64 m.Next]) (xs:=[m]) E H (wn rfl) rfl rfl rfl (E.evs rfl) (by kernel_rfl) rfl (fun ok hr=>(Rows.single (d:=aC) (cs:=[.string m.Dir,.int .i64 m.Next]) (x:=m) oD)) fun b7 w a H E=>bk hm fun S hm=>cO (i:=2) E H (wn rfl) rfl rfl rfl rfl rfl rfl (fA m0) U23 Dm rfl S rfl fun b8 w a H E=>pr 1 E rfl fun a E=>wpList_nil<|bH<|aA<|X4 ⟨E.to rfl,H,(Y4 o),hm⟩
      ·exact wp_skip<|bH<|aA<|X4 ⟨E.to rfl,H,(Y2 o),hm⟩
    ·clear E H hm
     rintro a w ⟨B,C,D,b3,E,H,T,hm⟩
     unfold jF at hm
     exact wp_region_lit<|pn 3 E rfl fun a E=>⟨n,Nat.lt_succ_self n,X5 ⟨E.to rfl,H,T,hm⟩⟩
   ·refine wp_exit<|aL<|aL<|cH<|aA<|aK (fun a w=>∃ L u,Jn 64 a w [(3,pt k 0),(6,pt l 0),(7,L)] (Blk k 25 [p,y]::Blk l 25 [nS,nS]::Row 89 aC L u::Fo) rs (jI x1 u=some r)) ?_ ?_
    ·refine sq<|pn 2 E rfl fun a E=>wif E hm rfl (fun hm=>?_) fun hm=>?_
     ·exact wp_region_lit<|pr 3 E rfl fun a E=>sv2 E rfl (bP E rfl (E.evs rfl) (v:=.agg #[.string b,.int .i64 c]) (by kernel_rfl)) fun a E=>iV (e:=89) (d:=aC) (cs:=[.string b,.int .i64 c]) (xs:=[(⟨b,c⟩:aJ)]) E H (wn rfl) rfl rfl rfl (E.evs rfl) (by kernel_rfl) rfl (fun ok hr=>(Rows.single (d:=aC) (cs:=[.string b,.int .i64 c]) (x:=(⟨b,c⟩:aJ)) oD)) fun b9 w a H E=>bk hm fun U hm=>cO (i:=2) E H (wn rfl) rfl rfl rfl rfl rfl rfl (fA m0) U23 Dm rfl U rfl fun c0 w a H E=>pn 1 E rfl fun a E=>X3 ⟨E.to rfl,H,(Y1 j),hm⟩
     ·exact wp_skip<|aA<|X3 ⟨E.to rfl,H,j,hm⟩
    ·clear E H hm
     rintro a w ⟨L,u,b4,E,H,z,hm⟩
     unfold jI at hm
     refine sp 2 E rfl fun a E=>?_
     obtain ⟨q51,N,rfl⟩:=H.rowform (i:=2) rfl
     refine ss 0 E H rfl Z6 rfl fun w H=>nx<|ln 0 [p,(.slice q51 u.length N)] E H U25 rfl bK fun a E=>?_
     obtain ⟨q53,Z,rfl⟩:=H.slform (z _ M)
     refine ss 1 E H rfl bK rfl fun w H=>nt<|wp_ret<|oB 1 [(.slice q53 x1.Nodes.length Z),(.slice q51 u.length N)] E H U25 rfl bK<|have H:=H.thaw (i:=2) rfl;have H:=H.drs [0,0];?_
     cases hm
     exact ⟨_,_,rfl,H.reads (aE (t1 (z _ M)) (aE m0 (fun r hr=>(t1 (z r hr)))))⟩

def pY(b:ByteArray×Bool)(c:aQ)(d:cD)(e:cP):Option vN:=
  (kA d (⟨b.1,c.Data,0,0,c.Owner⟩:aD)).bind fun f=>some ((⟨f,e⟩:aF),(⟨0,b.1,(ByteArray.mk #[]),0,[]⟩:bA))
def mR(b:ByteArray×Bool)(d:aQ)(x1:aF)(e:ByteArray×Bool)(f:Int)(g:Bool):Option vN:=
  if g=true then (some (x1,(⟨66,(ByteArray.mk #[]),(ByteArray.mk #[]),0,[]⟩:bA))) else ((oX x1.Nodes b.1).bind fun i=>if i.2=true then (some (x1,(⟨61,(ByteArray.mk #[]),(ByteArray.mk #[]),0,[]⟩:bA))) else (if d.Turns=true then ((mQ x1 e.1 (IntKind.i64.wrap (f+1))).bind fun c=>pY b d c.Nodes c.Turns) else (pY b d x1.Nodes x1.Turns)))
def sS(x1:aF)(c:aQ):Option vN:=
  (hF c.Path).bind fun b=>(vA x1 b.1).bind fun d=>(qT (⟨0,c.Path,(ByteArray.mk #[]),0,0,c.Turns⟩:dH) d).bind fun e=>if (!b.2)=true then (mR e c x1 b d true) else (mR e c x1 b d (!e.2))
theorem Ej{x1:aF}{j k:Value}{c:aQ}(H:Sep w (Fo) rs)(e:rSl aB j x1.Nodes ∈ rs)(f:rSl aC k x1.Turns ∈ rs){r:aF×bA}(hm:sS x1 c=some r) :
    Cf 91 [.agg #[j,k],.agg (bE c).toArray] w fun v w'=>∃ N O P,.tuple #[.agg #[N,O],.agg (pL r.2 P).toArray]=v∧Sep w' (Fo) (rSl aB N r.1.Nodes::rSl aC O r.1.Turns::rSl kS P r.2.Names::rs):=by
 unfold sS at hm
 refine ent Tryz.func91 rfl Tryz.ntmps91 rfl rfl fun a E=>sq<|bx E H rfl fun u w a H E=>bx E H rfl fun x w a H E=>al2 E H rfl lT fun y w a H E=>al2 E H rfl Q8 fun m w a H E=>xp 1 E rfl fun a E=>lb2 E H 2 U9 rfl fun a E=>bd hm fun z D hm=>xk2 E rfl (cf_ 145) (sZ H D) fun w H a E=>pr 5 E rfl fun a E=>nx<|ln 3 [j,k] E H U25 rfl bK fun a E=>pr 1 E rfl fun a E=>bd hm fun A F hm=>xk2 E rfl (cf_ 146) (Cw H f F) fun w H a E=>pr 1 E rfl fun a E=>xp 1 E rfl fun a E=>lb2 E H 2 U9 rfl fun a E=>pr 1 E rfl fun a E=>lb2 E H 2 U4 rfl fun a E=>sv2 E rfl (bP E rfl (E.evs rfl) (v:=.agg #[.int .i64 0,.string c.Path,.string (ByteArray.mk #[]),.int .i64 0,.int .i64 0,.bool c.Turns]) (by kernel_rfl)) fun a E=>pr 1 E rfl fun a E=>bd hm fun d G hm=>xk2 E rfl (cf_ 147) (Be (x1:=(⟨0,c.Path,(ByteArray.mk #[]),0,0,c.Turns⟩:dH)) H G) fun w H a E=>pn 5 E rfl fun a E=>wp_seq<|aK (fun a w=>∃ p,Jn 70 a w [(2,pt u 0),(3,pt x 0),(4,pt y 0),(5,pt m 0),(6,.string z.1),(8,.int .i64 A),(9,.string d.1),(37,.bool p)] (Blk u 25 [j,k]::Blk x 97 (bE c)::Blk y 25 [nS,nS]::Blk m 93 gV::Fo) rs (mR d c x1 z A p=some r)) ?_ ?_
 ·refine wp_region_lit<|pr 3 E rfl fun a E=>cs hm (fun l hm=>?_) fun l hm=>?_
  ·exact pk 3 E (kc 34 rfl l) rfl fun a E=>nt<|have H:=H.frs [0,1,2,3] rfl;⟨_,_,E.to rfl,H,Y0,hm⟩
  ·exact pk 3 E (kc 34 rfl l) rfl fun a E=>nt<|have H:=H.frs [0,1,2,3] rfl;⟨_,_,E.to rfl,H,Y0,hm⟩
 ·clear E H hm
  rintro a w ⟨p,R,E,H,b,hm⟩
  unfold mR at hm
  refine wif E hm rfl (fun hm=>?_) fun hm=>?_
  ·refine sq<|ln 0 [j,k] E H U25 rfl bK fun a E=>sv2 E rfl (bP E rfl (E.evs rfl) (v:=.agg #[.int .i64 66,.string (ByteArray.mk #[]),.string (ByteArray.mk #[]),.int .i64 0,nS]) (by kernel_rfl)) fun a E=>zY (i:=2) E H (wn rfl) rfl rfl rfl rfl rfl rfl bK rfl (bQ H (b _ e) (b _ f)) fun w H=>ss 3 E H rfl eH rfl fun w H=>nt<|wp_ret<|aG<|kN E rfl (eJ (i:=2) (us:=[j,k]) H rfl rfl rfl U25 rfl bK) (eJ (i:=3) (us:=[.int .i64 66,.string (ByteArray.mk #[]),.string (ByteArray.mk #[]),.int .i64 0,nS]) H rfl rfl rfl U93 rfl eH)<|have H:=H.nilSl kS;have H:=H.drs [0,0,0,0];?_
   cases hm
   exact X3 ⟨rfl,H.reads (aE (t1 (b _ e)) (aE (t1 (b _ f)) (aE m0 (fun r hr=>(t1 (b r hr))))))⟩
  ·refine wp_skip<|aA<|sp 1 E rfl fun a E=>lb2 E H 0 U22 rfl fun a E=>pr 1 E rfl fun a E=>bd hm fun S I hm=>xk2 E rfl (cf_ 93) (I6 H (b _ e) I) fun w H a E=>pr 3 E rfl fun a E=>al2 E H rfl Dn fun T w a H E=>ss 0 E H rfl cJ rfl fun w H=>pn 1 E rfl fun a E=>wp_seq<|sq<|pn 1 E rfl fun a E=>wif E hm rfl (fun hm=>?_) fun hm=>?_
   ·refine sq<|ln 1 [j,k] E H U25 rfl bK fun a E=>sv2 E rfl (bP E rfl (E.evs rfl) (v:=.agg #[.int .i64 61,.string (ByteArray.mk #[]),.string (ByteArray.mk #[]),.int .i64 0,nS]) (by kernel_rfl)) fun a E=>zY (i:=3) E H (wn rfl) rfl rfl rfl rfl rfl rfl bK rfl (bQ H (b _ e) (b _ f)) fun w H=>ss 4 E H rfl eH rfl fun w H=>nt<|wp_ret<|aG<|kN E rfl (eJ (i:=3) (us:=[j,k]) H rfl rfl rfl U25 rfl bK) (eJ (i:=4) (us:=[.int .i64 61,.string (ByteArray.mk #[]),.string (ByteArray.mk #[]),.int .i64 0,nS]) H rfl rfl rfl U93 rfl eH)<|have H:=H.nilSl kS;have H:=H.drs [0,0,0,0,0];?_
    cases hm
    exact X3 ⟨rfl,H.reads (aE (t1 (b _ e)) (aE (t1 (b _ f)) (aE m0 (fun r hr=>(t1 (b r hr))))))⟩
   ·refine wp_skip<|aA<|aK (fun a w=>∃ q n s o g,Env 70 a [(2,pt u 0),(3,pt x 0),(4,pt y 0),(5,pt m 0),(9,.string d.1)]∧Sep w (Blk u 25 [q,n]::Blk x 97 (bE c)::Blk y 25 [nS,nS]::Blk m 93 gV::Fo) g∧(∀ r,r ∈ rs→r ∈ g)∧rSl aB q s ∈ g∧rSl aC n o ∈ g∧pY d c s o=some r) ?_ ?_
    ·refine sp 1 E rfl fun a E=>lb2 E H 2 U4 rfl fun a E=>nt<|wif E hm rfl (fun hm=>?_) fun hm=>?_
     ·refine wp_region_lit<|ln 1 [j,k] E H U25 rfl bK fun a E=>pr 3 E rfl fun a E=>bd hm fun U J hm=>xc2 E rfl (cf_ 148) (D4 H (b _ e) (b _ f) J)<|?_
      rintro _ w ⟨V,W,rfl,H⟩ a E
      exact ss 1 E H rfl bK (bQ H m0 mm1) fun w H=>nt<|have H:=H.drop 0;X5 ⟨E.to rfl,H,(Y2 b),m0,mm1,hm⟩
     ·exact wp_skip<|aA<|have H:=H.drop 0;X5 ⟨E.to rfl,H,b,(b _ e),(b _ f),hm⟩
    ·clear E H hm
     rintro a w ⟨q,n,s,o,g,E,H,K,L,t,hm⟩
     unfold pY at hm
     refine sp 1 E rfl fun a E=>lb2 E H 0 U22 rfl fun a E=>pr 2 E rfl fun a E=>lb2 E H 1 U9 rfl fun a E=>pr 1 E rfl fun a E=>lb2 E H 1 U2 rfl fun a E=>sv2 E rfl (bP E rfl (E.evs rfl) (v:=.agg #[.string d.1,.string c.Data,.int .i64 0,.int .i64 0,.int .i64 c.Owner]) (by kernel_rfl)) fun a E=>bd hm fun B M hm=>xc2 E rfl (cf_ 95) (K3 (x3:=(⟨d.1,c.Data,0,0,c.Owner⟩:aD)) H L M)<|?_
     rintro _ w ⟨X,rfl,H⟩ a E
     refine pr 1 E rfl fun a E=>?_
     obtain ⟨q34,C,rfl⟩:=H.rowform (i:=0) rfl
     refine ss 1 E H rfl Bz rfl fun w H=>nx<|ln 1 [(.slice q34 B.length C),n] E H U25 rfl bK fun a E=>pr 1 E rfl fun a E=>sv2 E rfl (bP E rfl (E.evs rfl) (v:=.agg #[.int .i64 0,.string d.1,.string (ByteArray.mk #[]),.int .i64 0,nS]) (by kernel_rfl)) fun a E=>?_
     obtain ⟨q36,Q,rfl⟩:=H.slform t
     refine ss 3 E H rfl bK rfl fun w H=>ss 4 E H rfl eH rfl fun w H=>nt<|wp_ret<|kN E rfl (eJ (i:=3) (us:=[(.slice q34 B.length C),(.slice q36 o.length Q)]) H rfl rfl rfl U25 rfl bK) (eJ (i:=4) (us:=[.int .i64 0,.string d.1,.string (ByteArray.mk #[]),.int .i64 0,nS]) H rfl rfl rfl U93 rfl eH)<|have H:=H.thaw (i:=0) rfl;have H:=H.nilSl kS;have H:=H.drs [0,0,0,0];?_
     cases hm
     exact X3 ⟨rfl,H.reads (aE mm1 (aE (t2 t) (aE m0 (fun r hr=>(t2 (K r hr))))))⟩

def mB(rec_1:cD→Int→Option aF)(b:Int)(c:cD):Option aF:=
  rec_1 c (IntKind.i64.wrap (b+1))
def eX(x1:aF)(e:ByteArray):Nat→cD→Int→Option aF
  | 0,_,_=>none
  | f+1,c,b=>
    if (decide (b < (x1.Nodes.length:Int)))=true then ((idx x1.Nodes b).bind fun g=>if (!(sEq g.Path e))=true then ((idx x1.Nodes b).bind fun d=>(ck (c.length+([d]:List aD).length ≤ LIM)).bind fun i=>mB (eX x1 e f) b (c ++ ([d]:List aD))) else (mB (eX x1 e f) b c)) else (some ((⟨c,x1.Turns⟩:aF)))
def pA(x1:aF)(b:ByteArray):Option aF:=
  eX x1 b (((x1.Nodes.length:Int) - 0:Int).toNat+1) [] 0
theorem B4{x1:aF}{p l:Value}{k:ByteArray}(H:Sep w (Fo) rs)(m:rSl aB p x1.Nodes ∈ rs)(t:rSl aC l x1.Turns ∈ rs){r:aF}(hm:pA x1 k=some r) :
    Cf 94 [.agg #[p,l],.string k] w fun v w'=>∃ D F,.agg #[D,F]=v∧Sep w' (Fo) (rSl aB D r.Nodes::rSl aC F r.Turns::rs):=by
 unfold pA at hm
 refine ent Tryz.func94 rfl Tryz.ntmps94 rfl rfl fun a E=>sq<|bx E H rfl fun q w a H E=>al2 E H rfl lT fun s w a H E=>nx<|pn 1 E rfl fun a E=>wp_seq<|sq<|pn 1 E rfl fun a E=>wp_block<|bD (fun j a w=>∃ y f g,Jn 33 a w [(1,.string k),(2,pt q 0),(4,pt s 0),(5,y),(6,.int .i64 g)] (Blk q 25 [p,l]::Blk s 25 [nS,nS]::Row 107 aB y f::Fo) rs (eX x1 k j f g=some r)) (((x1.Nodes.length:Int) - 0:Int).toNat+1) ?_ ?_
 ·exact have H:=H.nilRow 107 aB;have H:=H.frs [0,1,2] rfl;X4 ⟨E.to rfl,H,Y0,hm⟩
 ·clear E H hm
  rintro j a w ⟨y,f,g,J,E,H,c,hm⟩
  cases j with
  | zero=>exact (aZ hm rfl).elim
  | succ j=>
   unfold eX at hm
   refine wp_seq<|sp 2 E rfl fun a E=>lb2 E H 0 U22 rfl fun a E=>lS E H (c _ m) U22 rfl fun a E=>pn 1 E rfl fun a E=>wif E hm rfl (fun hm=>?_) fun hm=>?_
   ·refine wp_skip<|aA<|aK (fun a w=>∃ n o,Jn 33 a w [(1,.string k),(2,pt q 0),(4,pt s 0),(5,n),(6,.int .i64 g)] (Blk q 25 [p,l]::Blk s 25 [nS,nS]::Row 107 aB n o::Fo) rs (mB (eX x1 k j) g o=some r)) ?_ ?_
    ·refine wp_block<|sp 1 E rfl fun a E=>lb2 E H 0 U22 rfl fun a E=>pr 1 E rfl fun a E=>bd hm fun G z hm=>cN E H (wn rfl) rfl rfl rfl rfl rfl (c _ m) U22 cJ z fun q20 a H E=>have H:=H.derive1 m0 (rAt kS (q20.add 0) G.Path) (fun ok h=>E8 h);pr 1 E rfl fun a E=>sv2 E rfl (pJ E H rfl rfl m0 U9 rfl) fun a E=>pn 2 E rfl fun a E=>wif E hm rfl (fun hm=>?_) fun hm=>?_
     ·exact wp_region_lit<|pr 2 E rfl fun a E=>lb2 E H 0 U22 rfl fun a E=>pr 1 E rfl fun a E=>bd hm fun b A hm=>cN E H (wn rfl) rfl rfl rfl rfl rfl (t2 (c _ m)) U22 cJ A fun q23 a H E=>ldf bX E H rfl rfl rfl rfl rfl m0 pF rfl cJ fun a E=>iV (e:=107) (d:=aB) (cs:=[.string b.Path,.string b.Data,.int .i64 b.Version,.int .i64 b.Turn,.int .i64 b.Owner]) (xs:=[b]) E H (wn rfl) rfl rfl rfl (E.evs rfl) (by kernel_rfl) rfl (fun ok hr=>(Rows.single (d:=aB) (cs:=[.string b.Path,.string b.Data,.int .i64 b.Version,.int .i64 b.Turn,.int .i64 b.Owner]) (x:=b) mE)) fun L w a H E=>bk hm fun B hm=>cO (i:=2) E H (wn rfl) rfl rfl rfl rfl rfl rfl (fA m0) U22 I1 rfl B rfl fun M w a H E=>pr 1 E rfl fun a E=>wpList_nil<|bH<|aA<|X3 ⟨E.to rfl,H,(Y4 c),hm⟩
     ·exact wp_skip<|bH<|aA<|X3 ⟨E.to rfl,H,(Y2 c),hm⟩
    ·clear E H hm
     rintro a w ⟨n,o,K,E,H,C,hm⟩
     unfold mB at hm
     exact wp_region_lit<|pn 3 E rfl fun a E=>⟨j,Nat.lt_succ_self j,X4 ⟨E.to rfl,H,C,hm⟩⟩
   ·refine wp_exit<|aL<|aL<|cH<|aA<|sp 2 E rfl fun a E=>?_
    obtain ⟨q28,u,rfl⟩:=H.rowform (i:=2) rfl
    refine ss 0 E H rfl Bz rfl fun w H=>nx<|ln 0 [(.slice q28 f.length u),l] E H U25 rfl bK fun a E=>?_
    obtain ⟨q30,I,rfl⟩:=H.slform (c _ t)
    refine ss 1 E H rfl bK rfl fun w H=>nt<|wp_ret<|oB 1 [(.slice q28 f.length u),(.slice q30 x1.Turns.length I)] E H U25 rfl bK<|have H:=H.thaw (i:=2) rfl;have H:=H.drs [0,0];?_
    cases hm
    exact ⟨_,_,rfl,H.reads (aE m0 (aE (t1 (c _ t)) (fun r hr=>(t1 (c r hr)))))⟩

def kK(rec_1:cR→Int→cD→cP→Option vN)(x20:Int)(b:cR)(c:cD)(d:cP):Option vN:=
  rec_1 b (IntKind.i64.wrap (x20+1)) c d
def eN(b:cD)(f:aQ):Nat→cR→Int→cD→cP→Option vN
  | 0,_,_,_,_=>none
  | k+1,c,x20,d,e=>
    if (decide (x20 < (b.length:Int)))=true then (if (f.Kind == 9)=true then ((idx b x20).bind fun l=>(mA l.Path).bind fun g=>(ck (c.length+([g]:List ByteArray).length ≤ LIM)).bind fun p=>kK (eN b f k) x20 (c ++ ([g]:List ByteArray)) d e) else ((idx b x20).bind fun m=>if (m.Owner == f.Owner)=true then ((idx b x20).bind fun n=>(mA n.Path).bind fun i=>(ck (c.length+([i]:List ByteArray).length ≤ LIM)).bind fun q=>(idx b x20).bind fun o=>(pA (⟨d,e⟩:aF) o.Path).bind fun j=>kK (eN b f k) x20 (c ++ ([i]:List ByteArray)) j.Nodes j.Turns) else (kK (eN b f k) x20 c d e))) else (some ((⟨d,e⟩:aF),(⟨0,(ByteArray.mk #[]),(ByteArray.mk #[]),0,c⟩:bA)))
def xL(x1:aF)(c:aQ):Option vN:=
  (nY x1.Nodes c.Path).bind fun b=>if (c.Kind == 4)=true then (if (decide ((b.length:Int) > 0))=true then (some (x1,(⟨64,(ByteArray.mk #[]),(ByteArray.mk #[]),0,[]⟩:bA))) else ((mQ x1 c.Path 0).bind fun d=>some (d,(⟨0,(ByteArray.mk #[]),(ByteArray.mk #[]),0,[]⟩:bA)))) else (eN b c (((b.length:Int) - 0:Int).toNat+1) [] 0 x1.Nodes x1.Turns)
theorem Gl{x1:aF}{J K:Value}{I:aQ}(H:Sep w (Fo) rs)(n:rSl aB J x1.Nodes ∈ rs)(z:rSl aC K x1.Turns ∈ rs){r:aF×bA}(hm:xL x1 I=some r) :
    Cf 92 [.agg #[J,K],.agg (bE I).toArray] w fun v w'=>∃ c0 c1 c2,.tuple #[.agg #[c0,c1],.agg (pL r.2 c2).toArray]=v∧Sep w' (Fo) (rSl aB c0 r.1.Nodes::rSl aC c1 r.1.Turns::rSl kS c2 r.2.Names::rs):=by
 unfold xL at hm
 refine ent Tryz.func92 rfl Tryz.ntmps92 rfl rfl fun a E=>sq<|bx E H rfl fun W w a H E=>bx E H rfl fun X w a H E=>al2 E H rfl lT fun Y w a H E=>al2 E H rfl Q8 fun A w a H E=>xp 1 E rfl fun a E=>lb2 E H 3 U22 rfl fun a E=>pr 1 E rfl fun a E=>lb2 E H 2 U9 rfl fun a E=>bd hm fun o b0 hm=>xc2 E rfl (cf_ 149) (S8 H n b0)<|?_
 rintro _ w ⟨B,rfl,H⟩ a E
 refine pr 1 E rfl fun a E=>nx<|pn 1 E rfl fun a E=>wp_seq<|sp 1 E rfl fun a E=>lb2 E H 3 U3 rfl fun a E=>pr 1 E rfl fun a E=>nt<|wif E hm rfl (fun hm=>?_) fun hm=>?_
 ·refine wp_seq<|sp 1 E rfl fun a E=>sv2 E rfl (iJ (i:=0) E H rfl rfl rfl U22) fun a E=>pn 1 E rfl fun a E=>wif E hm rfl (fun hm=>?_) fun hm=>?_
  ·refine sq<|ln 4 [J,K] E H U25 rfl bK fun a E=>sv2 E rfl (bP E rfl (E.evs rfl) (v:=.agg #[.int .i64 64,.string (ByteArray.mk #[]),.string (ByteArray.mk #[]),.int .i64 0,nS]) (by kernel_rfl)) fun a E=>ss 2 E H rfl bK (bQ H n z) fun w H=>ss 1 E H rfl eH rfl fun w H=>nt<|wp_ret<|aG<|aG<|kN E rfl (eJ (i:=2) (us:=[J,K]) H rfl rfl rfl U25 rfl bK) (eJ (i:=1) (us:=[.int .i64 64,.string (ByteArray.mk #[]),.string (ByteArray.mk #[]),.int .i64 0,nS]) H rfl rfl rfl U93 rfl eH)<|have H:=H.nilSl kS;have H:=H.drs [0,0,0,0,0];?_
   cases hm
   exact X3 ⟨rfl,H.reads (aE (t1 n) (aE (t1 z) (aE m0 (fun r hr=>(t1 hr)))))⟩
  ·refine wp_skip<|aA<|sq<|ln 4 [J,K] E H U25 rfl bK fun a E=>pr 1 E rfl fun a E=>lb2 E H 3 U9 rfl fun a E=>bd hm fun c5 b1 hm=>xc2 E rfl (cf_ 148) (D4 H n z b1)<|?_
   rintro _ w ⟨c3,c4,rfl,H⟩ a E
   refine sv2 E rfl (bP E rfl (E.evs rfl) (v:=.agg gV.toArray) (by kernel_rfl)) fun a E=>ss 2 E H rfl bK (bQ H m0 mm1) fun w H=>ss 1 E H rfl eH rfl fun w H=>nt<|wp_ret<|aG<|kN E rfl (eJ (i:=2) (us:=[c3,c4]) H rfl rfl rfl U25 rfl bK) (eJ (i:=1) (us:=gV) H rfl rfl rfl U93 rfl eH)<|have H:=H.nilSl kS;have H:=H.drs [0,0,0,0,0];?_
   cases hm
   exact X3 ⟨rfl,H.rdx [1,2,0] rfl (fun r hr=>(t3 hr))⟩
 ·refine wp_skip<|aA<|wp_seq<|sq<|pn 1 E rfl fun a E=>wp_block<|bD (fun q a w=>∃ L j l p x20 C D b,Env 72 a [(2,pt W 0),(3,pt X 0),(4,pt Y 0),(5,pt A 0),(6,B),(7,L),(8,.int .i64 x20)]∧Sep w (Blk W 25 [j,l]::Blk X 97 (bE I)::Blk Y 25 [nS,nS]::Blk A 93 gV::Row 107 aB B o::Row 9 kS L p::Fo) b∧(∀ r,r ∈ rs→r ∈ b)∧rSl aB j C ∈ b∧rSl aC l D ∈ b∧eN o I q p x20 C D=some r) (((o.length:Int) - 0:Int).toNat+1) ?_ ?_
  ·exact have H:=H.nilRow 9 kS;have H:=H.frs [0,1,2,3,4,5] rfl;X8 ⟨E.to rfl,H,Y0,n,z,hm⟩
  ·clear E H hm
   rintro q a w ⟨L,j,l,p,x20,C,D,b,E,H,m,c,f,hm⟩
   cases q with
   | zero=>exact (aZ hm rfl).elim
   | succ q=>
    unfold eN at hm
    refine wp_seq<|sp 2 E rfl fun a E=>sv2 E rfl (iJ (i:=4) E H rfl rfl rfl U22) fun a E=>pn 1 E rfl fun a E=>wif E hm rfl (fun hm=>?_) fun hm=>?_
    ·refine wp_skip<|aA<|aK (fun a w=>∃ M N O P Q R g,Env 72 a [(2,pt W 0),(3,pt X 0),(4,pt Y 0),(5,pt A 0),(6,B),(7,M),(8,.int .i64 x20)]∧Sep w (Blk W 25 [N,O]::Blk X 97 (bE I)::Blk Y 25 [nS,nS]::Blk A 93 gV::Row 107 aB B o::Row 9 kS M P::Fo) g∧(∀ r,r ∈ rs→r ∈ g)∧rSl aB N Q ∈ g∧rSl aC O R ∈ g∧kK (eN o I q) x20 P Q R=some r) ?_ ?_
     ·refine wp_block<|sp 1 E rfl fun a E=>lb2 E H 1 U3 rfl fun a E=>pn 1 E rfl fun a E=>wif E hm rfl (fun hm=>?_) fun hm=>?_
      ·refine wp_region_lit<|pr 3 E rfl fun a E=>bd hm fun c6 s hm=>?_
       obtain ⟨c7,c8,S⟩:=H.rowformNE (i:=4) rfl s
       exact sv2 E rfl (cX (d:=aB) E S rfl rfl rfl rfl U22 cJ s) fun a E=>pr 1 E rfl fun a E=>sv2 E rfl (mW (d:=aB) (i:=4) (k:=0) E H bX S rfl rfl rfl s rfl U9 rfl) fun a E=>bd hm fun F b2 hm=>xk2 E rfl (cf_ 150) (zT H b2) fun w H a E=>iV (e:=9) (d:=kS) (cs:=[.string F]) (xs:=[F]) E H (wn rfl) rfl rfl rfl (E.evs rfl) (by kernel_rfl) rfl (fun ok hr=>(Rows.single (d:=kS) (cs:=[.string F]) (x:=F) rfl)) fun c9 w a H E=>bk hm fun b3 hm=>cO (i:=5) E H (wn rfl) rfl rfl rfl rfl rfl rfl (fA m0) U33 Z5 rfl b3 rfl fun d0 w a H E=>pr 1 E rfl fun a E=>wpList_nil<|bH<|aA<|X7 ⟨E.to rfl,H,(Y1 m),(t1 c),(t1 f),hm⟩
      ·refine wp_seq<|dz [0,0,0,0,0,0,0,0] [1,4] H fun w W0 hI H=>fn 2 E rfl fun a E=>bd hm fun d1 t hm=>?_
       obtain ⟨d2,d3,T⟩:=H.rowformNE (i:=4) rfl t
       refine fv E rfl (fun w hW=>cX (d:=aB) E T rfl rfl rfl rfl U22 cJ t) fun a E=>fn 1 E rfl fun a E=>fv E rfl (fun w hW=>L9 (d:=aB) (k:=4) E bX T t mm1 rfl rfl rfl U2 rfl hW) fun a E=>fn 1 E rfl fun a E=>fb2 E m0 U2 rfl fun a E=>fn 1 E rfl fun a E=>aY<|?_
       clear hI
       refine aA<|wif E hm rfl (fun hm=>?_) fun hm=>?_
       ·refine sp 3 E rfl fun a E=>bd hm fun d4 u hm=>?_
        obtain ⟨d5,d6,U⟩:=H.rowformNE (i:=4) rfl u
        refine sv2 E rfl (cX (d:=aB) E U rfl rfl rfl rfl U22 cJ u) fun a E=>pr 1 E rfl fun a E=>sv2 E rfl (mW (d:=aB) (i:=4) (k:=0) E H bX U rfl rfl rfl u rfl U9 rfl) fun a E=>bd hm fun G b4 hm=>xk2 E rfl (cf_ 150) (zT H b4) fun w H a E=>iV (e:=9) (d:=kS) (cs:=[.string G]) (xs:=[G]) E H (wn rfl) rfl rfl rfl (E.evs rfl) (by kernel_rfl) rfl (fun ok hr=>(Rows.single (d:=kS) (cs:=[.string G]) (x:=G) rfl)) fun d7 w a H E=>bk hm fun b5 hm=>cO (i:=5) E H (wn rfl) rfl rfl rfl rfl rfl rfl (fA m0) U33 Z5 rfl b5 rfl fun d8 w a H E=>pr 1 E rfl fun a E=>nt<|dz [0,0,0,0,0,0,1,2] [0,4] H fun w W0 hI H=>fbn E [j,l] rfl (wn rfl) rfl rfl rfl rfl m0 rfl U25 rfl bK fun a E=>fn 2 E rfl fun a E=>bd hm fun d9 y hm=>?_
        obtain ⟨e0,e1,V⟩:=H.rowformNE (i:=4) rfl y
        refine fv E rfl (fun w hW=>cX (d:=aB) E V rfl rfl rfl rfl U22 cJ y) fun a E=>fn 1 E rfl fun a E=>fv E rfl (fun w hW=>L9 (d:=aB) (k:=0) E bX V y mm1 rfl rfl rfl U9 rfl hW) fun a E=>bI rfl<|bd hm fun e2 b6 hm=>xc2 E rfl (cf_ 94) (B4 (x1:=(⟨C,D⟩:aF)) H (t1 c) (t1 f) b6)<|?_
        rintro _ w ⟨e3,e4,rfl,H⟩ a E
        refine nt<|⟨sx H [0,4] rfl,bL rfl<|ss 0 E H rfl bK (bQ H m0 mm1) fun w H=>nt<|aY<|?_⟩
        clear hI
        exact bH<|aA<|X7 ⟨E.to rfl,H,(Y3 m),m0,mm1,hm⟩
       ·exact wp_skip<|bH<|aA<|X7 ⟨E.to rfl,H,m,c,f,hm⟩
     ·clear E H hm
      rintro a w ⟨M,N,O,P,Q,R,g,E,H,b7,b8,b9,hm⟩
      unfold kK at hm
      exact wp_region_lit<|pn 3 E rfl fun a E=>⟨q,Nat.lt_succ_self q,X8 ⟨E.to rfl,H,b7,b8,b9,hm⟩⟩
    ·refine wp_exit<|aL<|aL<|cH<|aA<|sq<|ln 0 [j,l] E H U25 rfl bK fun a E=>pr 1 E rfl fun a E=>?_
     obtain ⟨q75,Z,rfl⟩:=H.rowform (i:=5) rfl
     refine sv2 E rfl (bP E rfl (E.evs rfl) (v:=.agg #[.int .i64 0,.string (ByteArray.mk #[]),.string (ByteArray.mk #[]),.int .i64 0,(.slice q75 p.length Z)]) (by kernel_rfl)) fun a E=>ss 2 E H rfl bK (bQ H c f) fun w H=>ss 3 E H rfl eH rfl fun w H=>nt<|wp_ret<|kN E rfl (eJ (i:=2) (us:=[j,l]) H rfl rfl rfl U25 rfl bK) (eJ (i:=3) (us:=[.int .i64 0,.string (ByteArray.mk #[]),.string (ByteArray.mk #[]),.int .i64 0,(.slice q75 p.length Z)]) H rfl rfl rfl U93 rfl eH)<|have H:=H.thaw (i:=5) rfl;have H:=H.drs [0,0,0,0,0];?_
     cases hm
     exact X3 ⟨rfl,H.reads (aE (t1 c) (aE (t1 f) (aE m0 (fun r hr=>(t1 (m r hr))))))⟩

def qV(x1:aF):Option vN:=
  some (x1,(⟨0,(ByteArray.mk #[]),(ByteArray.mk #[]),0,[]⟩:bA))
def nH(x1:aF)(c:aQ)(b:aD×Bool)(d:Bool):Option vN:=
  if d=true then (some (x1,(⟨63,(ByteArray.mk #[]),(ByteArray.mk #[]),0,[]⟩:bA))) else (if (c.Kind == 1)=true then (if (b.1.Owner != 0)=true then (some (x1,(⟨65,(ByteArray.mk #[]),(ByteArray.mk #[]),0,[]⟩:bA))) else (qV x1)) else (if (c.Kind == 3)=true then ((pA x1 c.Path).bind fun e=>some (e,(⟨0,(ByteArray.mk #[]),(ByteArray.mk #[]),0,[]⟩:bA))) else (if (c.Kind == 5)=true then (if (decide (b.1.Version ≥ 281474976710656))=true then (some (x1,(⟨2,(ByteArray.mk #[]),(ByteArray.mk #[]),0,[]⟩:bA))) else ((kA x1.Nodes (⟨b.1.Path,c.Data,IntKind.i64.wrap (b.1.Version+1),b.1.Turn,b.1.Owner⟩:aD)).bind fun f=>some ((⟨f,x1.Turns⟩:aF),(⟨0,(ByteArray.mk #[]),(ByteArray.mk #[]),IntKind.i64.wrap (b.1.Version+1),[]⟩:bA)))) else (if (c.Kind == 6)=true then (some (x1,(⟨0,(ByteArray.mk #[]),(ByteArray.mk #[]),b.1.Version,[]⟩:bA))) else (if (c.Kind == 7)=true then (some (x1,(⟨0,(ByteArray.mk #[]),b.1.Data,b.1.Version,[]⟩:bA))) else (qV x1))))))
def nI(x1:aF)(c:aQ)(b:aD×Bool)(d:Bool):Option vN:=
  if d=true then (if (decide (c.Version ≥ 0))=true then (nH x1 c b (c.Version != b.1.Version)) else (nH x1 c b false)) else (nH x1 c b false)
def nJ(x1:aF)(b:aQ)(e:Bool):Option vN:=
  if e=true then ((xL x1 b).bind fun d=>some (d.1,d.2)) else ((oX x1.Nodes b.Path).bind fun c=>if (!c.2)=true then (some (x1,(⟨62,(ByteArray.mk #[]),(ByteArray.mk #[]),0,[]⟩:bA))) else (if (b.Kind == 3)=true then (nI x1 b c true) else (if (b.Kind == 5)=true then (nI x1 b c true) else (nI x1 b c (b.Kind == 6)))))
def nK(x1:aF)(b:aQ)(d:Bool):Option vN:=
  if d=true then (some ((⟨[],[]⟩:aF),(⟨1,(ByteArray.mk #[]),(ByteArray.mk #[]),0,[]⟩:bA))) else (if (b.Kind == 2)=true then ((sS x1 b).bind fun c=>some (c.1,c.2)) else (if (b.Kind == 4)=true then (nJ x1 b true) else (if (b.Kind == 9)=true then (nJ x1 b true) else (nJ x1 b (b.Kind == 10)))))
def mC(x1:aF)(b:aQ):Option vN:=
  (uB x1).bind fun c=>if (!c)=true then (nK x1 b true) else ((sR b).bind fun d=>nK x1 b (!d))
theorem tR{x1:aF}{g f:Value}{l:aQ}(H:Sep w (Fo) rs)(c:rSl aB g x1.Nodes ∈ rs)(d:rSl aC f x1.Turns ∈ rs){r:aF×bA}(hm:mC x1 l=some r) :
    Cf 41 [.agg #[g,f],.agg (bE l).toArray] w fun v w'=>∃ S T U,.tuple #[.agg #[S,T],.agg (pL r.2 U).toArray]=v∧Sep w' (Fo) (rSl aB S r.1.Nodes::rSl aC T r.1.Turns::rSl kS U r.2.Names::rs):=by
 unfold mC at hm
 refine ent Tryz.func41 rfl Tryz.ntmps41 rfl rfl fun a E=>sq<|bx E H rfl fun y w a H E=>bx E H rfl fun A w a H E=>al2 E H rfl lT fun z w a H E=>al2 E H rfl Q8 fun k w a H E=>nt<|wp_seq<|aK (fun a w=>∃ D,Jn 140 a w [(2,pt y 0),(3,pt A 0),(4,pt z 0),(5,pt k 0),(16,.bool D)] (Blk y 25 [g,f]::Blk A 97 (bE l)::Blk z 25 [nS,nS]::Blk k 93 gV::Fo) rs (nK x1 l D=some r)) ?_ ?_
 ·refine wp_region_lit<|ln 3 [g,f] E H U25 rfl bK fun a E=>bd hm fun c1 L hm=>xk2 E rfl (cf_ 28) (Bg H c d L) fun w H a E=>pr 2 E rfl fun a E=>cs hm (fun o hm=>?_) fun o hm=>?_
  ·exact pk 4 E (kc 12 rfl o) rfl fun a E=>nt<|have H:=H.frs [0,1,2,3] rfl;⟨_,_,E.to rfl,H,Y0,hm⟩
  ·refine gv 12 E o rfl (B8 (i:=2) (us:=(bE l)) E H rfl rfl rfl rfl U97 rfl hU) fun a E=>bd hm fun c2 M hm=>gc 12 E o rfl (cf_ 90) (Ei H M)<|?_
   rintro _ w ⟨rfl,H⟩ a E
   exact pk 2 E (kc 12 rfl o) rfl fun a E=>nt<|have H:=H.frs [0,1,2,3] rfl;⟨_,_,E.to rfl,H,Y0,hm⟩
 ·clear E H hm
  rintro a w ⟨D,b6,E,H,m,hm⟩
  unfold nK at hm
  refine wif E hm rfl (fun hm=>?_) fun hm=>?_
  ·refine sq<|sv2 E rfl (bP E rfl (E.evs rfl) (v:=.agg #[nS,nS]) (by kernel_rfl)) fun a E=>sv2 E rfl (bP E rfl (E.evs rfl) (v:=.agg #[.int .i64 1,.string (ByteArray.mk #[]),.string (ByteArray.mk #[]),.int .i64 0,nS]) (by kernel_rfl)) fun a E=>ss 2 E H rfl bK rfl fun w H=>ss 3 E H rfl eH rfl fun w H=>nt<|wp_ret<|aG<|kN E rfl (eJ (i:=2) (us:=[nS,nS]) H rfl rfl rfl U25 rfl bK) (eJ (i:=3) (us:=[.int .i64 1,.string (ByteArray.mk #[]),.string (ByteArray.mk #[]),.int .i64 0,nS]) H rfl rfl rfl U93 rfl eH)<|have H:=H.nilSl aB;have H:=H.nilSl aC;have H:=H.nilSl kS;have H:=H.drs [0,0,0,0];?_
   cases hm
   exact X3 ⟨rfl,H.rdx [2,1,0] rfl (fun r hr=>(t3 (m r hr)))⟩
  ·refine wp_skip<|aA<|wp_seq<|sp 1 E rfl fun a E=>lb2 E H 1 U3 rfl fun a E=>pn 1 E rfl fun a E=>wif E hm rfl (fun hm=>?_) fun hm=>?_
   ·refine sq<|ln 0 [g,f] E H U25 rfl bK fun a E=>ln 1 (bE l) E H U97 rfl hU fun a E=>bd hm fun V N hm=>xc2 E rfl (cf_ 91) (Ej H (m _ c) (m _ d) N)<|?_
    rintro _ w ⟨W,X,Y,rfl,H⟩ a E
    refine pr 2 E rfl fun a E=>ss 2 E H rfl bK (bQ H m0 mm1) fun w H=>ss 3 E H rfl eH (mG H mm2) fun w H=>nt<|wp_ret<|aG<|kN E rfl (eJ (i:=2) (us:=[W,X]) H rfl rfl rfl U25 rfl bK) (eJ (i:=3) (us:=(pL V.2 Y)) H rfl rfl rfl U93 rfl eH)<|have H:=H.drs [0,0,0,0];?_
    cases hm
    exact X3 ⟨rfl,H.rdx [0,1,2] rfl (fun r hr=>(t3 (m r hr)))⟩
   ·refine wp_skip<|aA<|wp_seq<|aK (fun a w=>∃ F,Jn 140 a w [(2,pt y 0),(3,pt A 0),(4,pt z 0),(5,pt k 0),(39,.bool F)] (Blk y 25 [g,f]::Blk A 97 (bE l)::Blk z 25 [nS,nS]::Blk k 93 gV::Fo) rs (nJ x1 l F=some r)) ?_ ?_
    ·refine wp_region_lit<|pr 1 E rfl fun a E=>lb2 E H 1 U3 rfl fun a E=>pr 2 E rfl fun a E=>cs hm (fun p hm=>?_) fun p hm=>?_
     ·exact pk 9 E (kc 30 rfl p) rfl fun a E=>nt<|⟨_,_,E.to rfl,H,m,hm⟩
     ·refine pk 1 E (kc 30 rfl p) rfl fun a E=>gl 30 E H 1 p U3 rfl fun a E=>pk 3 E (kc 30 rfl p) rfl fun a E=>cs hm (fun q hm=>?_) fun q hm=>?_
      ·exact pk 4 E (kc 35 rfl q) rfl fun a E=>nt<|⟨_,_,E.to rfl,H,m,hm⟩
      ·exact pk 1 E (kc 35 rfl q) rfl fun a E=>gl 35 E H 1 q U3 rfl fun a E=>pk 2 E (kc 35 rfl q) rfl fun a E=>nt<|⟨_,_,E.to rfl,H,m,hm⟩
    ·clear E H hm
     rintro a w ⟨F,b7,E,H,j,hm⟩
     unfold nJ at hm
     refine wif E hm rfl (fun hm=>?_) fun hm=>?_
     ·refine sq<|ln 0 [g,f] E H U25 rfl bK fun a E=>ln 1 (bE l) E H U97 rfl hU fun a E=>bd hm fun Z O hm=>xc2 E rfl (cf_ 92) (Gl H (j _ c) (j _ d) O)<|?_
      rintro _ w ⟨b0,b1,b2,rfl,H⟩ a E
      refine pr 2 E rfl fun a E=>ss 2 E H rfl bK (bQ H m0 mm1) fun w H=>ss 3 E H rfl eH (mG H mm2) fun w H=>nt<|wp_ret<|aG<|kN E rfl (eJ (i:=2) (us:=[b0,b1]) H rfl rfl rfl U25 rfl bK) (eJ (i:=3) (us:=(pL Z.2 b2)) H rfl rfl rfl U93 rfl eH)<|have H:=H.drs [0,0,0,0];?_
      cases hm
      exact X3 ⟨rfl,H.rdx [0,1,2] rfl (fun r hr=>(t3 (j r hr)))⟩
     ·refine wp_skip<|aA<|sp 1 E rfl fun a E=>lb2 E H 0 U22 rfl fun a E=>pr 1 E rfl fun a E=>lb2 E H 1 U9 rfl fun a E=>bd hm fun e P hm=>xk2 E rfl (cf_ 93) (I6 H (j _ c) P) fun w H a E=>pr 3 E rfl fun a E=>al2 E H rfl Dn fun C w a H E=>ss 0 E H rfl cJ rfl fun w H=>pn 1 E rfl fun a E=>wp_seq<|sq<|pn 2 E rfl fun a E=>wif E hm rfl (fun hm=>?_) fun hm=>?_
      ·refine sq<|ln 1 [g,f] E H U25 rfl bK fun a E=>sv2 E rfl (bP E rfl (E.evs rfl) (v:=.agg #[.int .i64 62,.string (ByteArray.mk #[]),.string (ByteArray.mk #[]),.int .i64 0,nS]) (by kernel_rfl)) fun a E=>zY (i:=3) E H (wn rfl) rfl rfl rfl rfl rfl rfl bK rfl (bQ H (j _ c) (j _ d)) fun w H=>ss 4 E H rfl eH rfl fun w H=>nt<|wp_ret<|aG<|kN E rfl (eJ (i:=3) (us:=[g,f]) H rfl rfl rfl U25 rfl bK) (eJ (i:=4) (us:=[.int .i64 62,.string (ByteArray.mk #[]),.string (ByteArray.mk #[]),.int .i64 0,nS]) H rfl rfl rfl U93 rfl eH)<|have H:=H.nilSl kS;have H:=H.drs [0,0,0,0,0];?_
       cases hm
       exact X3 ⟨rfl,H.reads (aE (t1 (j _ c)) (aE (t1 (j _ d)) (aE m0 (fun r hr=>(t1 (j r hr))))))⟩
      ·refine wp_skip<|aA<|aK (fun a w=>∃ G,Jn 140 a w [(2,pt y 0),(3,pt A 0),(4,pt z 0),(5,pt k 0),(6,pt C 0),(8,.bool G)] (Blk y 25 [g,f]::Blk A 97 (bE l)::Blk z 25 [nS,nS]::Blk k 93 gV::Blk C 107 (dS e.1)::Fo) rs (nI x1 l e G=some r)) ?_ ?_
       ·refine wp_region_lit<|pr 1 E rfl fun a E=>lb2 E H 2 U3 rfl fun a E=>pr 2 E rfl fun a E=>cs hm (fun s hm=>?_) fun s hm=>?_
        ·exact pk 10 E (kc 60 rfl s) rfl fun a E=>nt<|have H:=H.frs [0,4,4,4,4] rfl;⟨_,_,E.to rfl,H,j,hm⟩
        ·refine pk 1 E (kc 60 rfl s) rfl fun a E=>gl 60 E H 2 s U3 rfl fun a E=>pk 3 E (kc 60 rfl s) rfl fun a E=>cs hm (fun t hm=>?_) fun t hm=>?_
         ·exact pk 5 E (kc 65 rfl t) rfl fun a E=>nt<|have H:=H.frs [0,4,4,4,4] rfl;⟨_,_,E.to rfl,H,j,hm⟩
         ·exact pk 1 E (kc 65 rfl t) rfl fun a E=>gl 65 E H 2 t U3 rfl fun a E=>pk 3 E (kc 65 rfl t) rfl fun a E=>nt<|have H:=H.frs [0,4,4,4,4] rfl;⟨_,_,E.to rfl,H,j,hm⟩
       ·clear E H hm
        rintro a w ⟨G,b8,E,H,B,hm⟩
        unfold nI at hm
        refine wp_seq<|aK (fun a w=>∃ I,Jn 140 a w [(2,pt y 0),(3,pt A 0),(4,pt z 0),(5,pt k 0),(6,pt C 0),(82,.bool I)] (Blk y 25 [g,f]::Blk A 97 (bE l)::Blk z 25 [nS,nS]::Blk k 93 gV::Blk C 107 (dS e.1)::Fo) rs (nH x1 l e I=some r)) ?_ ?_
        ·refine wp_region_lit<|pr 2 E rfl fun a E=>cs hm (fun u hm=>?_) fun u hm=>?_
         ·refine pk 1 E (kc 71 rfl u) rfl fun a E=>gl 71 E H 1 u U2 rfl fun a E=>pk 3 E (kc 71 rfl u) rfl fun a E=>cs hm (fun n hm=>?_) fun n hm=>?_
          ·exact pk 1 E (kc 76 rfl n) rfl fun a E=>gl 76 E H 1 n U2 rfl fun a E=>pk 1 E (kc 76 rfl n) rfl fun a E=>gl 76 E H 4 n U2 rfl fun a E=>pk 2 E (kc 76 rfl n) rfl fun a E=>nt<|⟨_,_,E.to rfl,H,B,hm⟩
          ·exact pk 6 E (kc 76 rfl n) rfl fun a E=>nt<|⟨_,_,E.to rfl,H,B,hm⟩
         ·exact pk 11 E (kc 71 rfl u) rfl fun a E=>nt<|⟨_,_,E.to rfl,H,B,hm⟩
        ·clear E H hm
         rintro a w ⟨I,b9,E,H,b,hm⟩
         unfold nH at hm
         refine wif E hm rfl (fun hm=>?_) fun hm=>?_
         ·refine sq<|ln 0 [g,f] E H U25 rfl bK fun a E=>sv2 E rfl (bP E rfl (E.evs rfl) (v:=.agg #[.int .i64 63,.string (ByteArray.mk #[]),.string (ByteArray.mk #[]),.int .i64 0,nS]) (by kernel_rfl)) fun a E=>zY (i:=2) E H (wn rfl) rfl rfl rfl rfl rfl rfl bK rfl (bQ H (b _ c) (b _ d)) fun w H=>ss 3 E H rfl eH rfl fun w H=>nt<|wp_ret<|aG<|kN E rfl (eJ (i:=2) (us:=[g,f]) H rfl rfl rfl U25 rfl bK) (eJ (i:=3) (us:=[.int .i64 63,.string (ByteArray.mk #[]),.string (ByteArray.mk #[]),.int .i64 0,nS]) H rfl rfl rfl U93 rfl eH)<|have H:=H.nilSl kS;have H:=H.drs [0,0,0,0,0];?_
          cases hm
          exact X3 ⟨rfl,H.reads (aE (t1 (b _ c)) (aE (t1 (b _ d)) (aE m0 (fun r hr=>(t1 (b r hr))))))⟩
         ·refine wp_skip<|aA<|aK (fun a w=>Jn 140 a w [(2,pt y 0),(4,pt z 0),(5,pt k 0)] (Blk y 25 [g,f]::Blk z 25 [nS,nS]::Blk k 93 gV::Fo) rs (qV x1=some r)) ?_ ?_
          ·refine sp 1 E rfl fun a E=>lb2 E H 1 U3 rfl fun a E=>nt<|wp_block<|sq<|pn 2 E rfl fun a E=>wif E hm rfl (fun hm=>?_) fun hm=>?_
           ·refine sp 1 E rfl fun a E=>lb2 E H 4 U2 rfl fun a E=>pn 1 E rfl fun a E=>wif E hm rfl (fun hm=>?_) fun hm=>?_
            ·refine sq<|ln 0 [g,f] E H U25 rfl bK fun a E=>sv2 E rfl (bP E rfl (E.evs rfl) (v:=.agg #[.int .i64 65,.string (ByteArray.mk #[]),.string (ByteArray.mk #[]),.int .i64 0,nS]) (by kernel_rfl)) fun a E=>zY (i:=2) E H (wn rfl) rfl rfl rfl rfl rfl rfl bK rfl (bQ H (b _ c) (b _ d)) fun w H=>ss 3 E H rfl eH rfl fun w H=>nt<|wp_ret<|bF<|aG<|kN E rfl (eJ (i:=2) (us:=[g,f]) H rfl rfl rfl U25 rfl bK) (eJ (i:=3) (us:=[.int .i64 65,.string (ByteArray.mk #[]),.string (ByteArray.mk #[]),.int .i64 0,nS]) H rfl rfl rfl U93 rfl eH)<|have H:=H.nilSl kS;have H:=H.drs [0,0,0,0,0];?_
             cases hm
             exact X3 ⟨rfl,H.reads (aE (t1 (b _ c)) (aE (t1 (b _ d)) (aE m0 (fun r hr=>(t1 (b r hr))))))⟩
            ·exact wp_skip<|bH<|aA<|have H:=H.drs [1,3];⟨_,E.to rfl,H,b,hm⟩
           ·refine sq<|pn 2 E rfl fun a E=>wif E hm rfl (fun hm=>?_) fun hm=>?_
            ·refine sq<|ln 0 [g,f] E H U25 rfl bK fun a E=>pr 1 E rfl fun a E=>lb2 E H 1 U9 rfl fun a E=>bd hm fun c3 Q hm=>xc2 E rfl (cf_ 94) (B4 H (b _ c) (b _ d) Q)<|?_
             rintro _ w ⟨b3,b4,rfl,H⟩ a E
             refine sv2 E rfl (bP E rfl (E.evs rfl) (v:=.agg gV.toArray) (by kernel_rfl)) fun a E=>ss 2 E H rfl bK (bQ H m0 mm1) fun w H=>ss 3 E H rfl eH rfl fun w H=>nt<|wp_ret<|bF<|aG<|kN E rfl (eJ (i:=2) (us:=[b3,b4]) H rfl rfl rfl U25 rfl bK) (eJ (i:=3) (us:=gV) H rfl rfl rfl U93 rfl eH)<|have H:=H.nilSl kS;have H:=H.drs [0,0,0,0,0];?_
             cases hm
             exact X3 ⟨rfl,H.rdx [1,2,0] rfl (fun r hr=>(t3 (b r hr)))⟩
            ·refine sq<|pn 2 E rfl fun a E=>wif E hm rfl (fun hm=>?_) fun hm=>?_
             ·refine wp_seq<|sp 1 E rfl fun a E=>lb2 E H 4 U2 rfl fun a E=>pn 1 E rfl fun a E=>wif E hm rfl (fun hm=>?_) fun hm=>?_
              ·refine sq<|ln 0 [g,f] E H U25 rfl bK fun a E=>sv2 E rfl (bP E rfl (E.evs rfl) (v:=.agg #[.int .i64 2,.string (ByteArray.mk #[]),.string (ByteArray.mk #[]),.int .i64 0,nS]) (by kernel_rfl)) fun a E=>zY (i:=2) E H (wn rfl) rfl rfl rfl rfl rfl rfl bK rfl (bQ H (b _ c) (b _ d)) fun w H=>ss 3 E H rfl eH rfl fun w H=>nt<|wp_ret<|aG<|bF<|aG<|kN E rfl (eJ (i:=2) (us:=[g,f]) H rfl rfl rfl U25 rfl bK) (eJ (i:=3) (us:=[.int .i64 2,.string (ByteArray.mk #[]),.string (ByteArray.mk #[]),.int .i64 0,nS]) H rfl rfl rfl U93 rfl eH)<|have H:=H.nilSl kS;have H:=H.drs [0,0,0,0,0];?_
               cases hm
               exact X3 ⟨rfl,H.reads (aE (t1 (b _ c)) (aE (t1 (b _ d)) (aE m0 (fun r hr=>(t1 (b r hr))))))⟩
              ·refine wp_skip<|aA<|sp 1 E rfl fun a E=>lb2 E H 1 U9 rfl fun a E=>pr 1 E rfl fun a E=>ss 4 E H rfl sz9 rfl fun w H=>xp 1 E rfl fun a E=>lb2 E H 4 U2 rfl fun a E=>pr 2 E rfl fun a E=>ss 4 E H rfl sz2 rfl fun w H=>xp 1 E rfl fun a E=>lb2 E H 0 U22 rfl fun a E=>ln 4 [.string e.1.Path,.string l.Data,.int .i64 (IntKind.i64.wrap (e.1.Version+1)),.int .i64 e.1.Turn,.int .i64 e.1.Owner] E H pF rfl cJ fun a E=>bd hm fun J R hm=>xc2 E rfl (cf_ 95) (K3 (x3:=(⟨e.1.Path,l.Data,IntKind.i64.wrap (e.1.Version+1),e.1.Turn,e.1.Owner⟩:aD)) H (b _ c) R)<|?_
               rintro _ w ⟨c4,rfl,H⟩ a E
               refine pr 1 E rfl fun a E=>?_
               obtain ⟨q45,K,rfl⟩:=H.rowform (i:=0) rfl
               refine ss 1 E H rfl Bz rfl fun w H=>nt<|wp_seq<|dz [0,0,0,0,1,2] [1,5] H fun w W0 hI H=>fbn E [(.slice q45 J.length K),f] rfl (wn rfl) rfl rfl rfl rfl m0 rfl U25 rfl bK fun a E=>fn 1 E rfl fun a E=>fb2 E mm1 U2 rfl fun a E=>fv E rfl (fun w hW=>(bP E rfl (E.evs rfl) (v:=.agg #[.int .i64 0,.string (ByteArray.mk #[]),.string (ByteArray.mk #[]),.int .i64 (IntKind.i64.wrap (e.1.Version+1)),nS]) (by kernel_rfl))) fun a E=>bI rfl<|?_
               obtain ⟨q47,b5,rfl⟩:=H.slform (b _ d)
               refine ss 3 E H rfl bK rfl fun w H=>nt<|⟨sx H [1,5] rfl,bL rfl<|ss 4 E H rfl eH rfl fun w H=>nt<|aY<|?_⟩
               clear hI
               refine aA<|wp_ret<|bF<|aG<|kN E rfl (eJ (i:=3) (us:=[(.slice q45 J.length K),(.slice q47 x1.Turns.length b5)]) H rfl rfl rfl U25 rfl bK) (eJ (i:=4) (us:=[.int .i64 0,.string (ByteArray.mk #[]),.string (ByteArray.mk #[]),.int .i64 (IntKind.i64.wrap (e.1.Version+1)),nS]) H rfl rfl rfl U93 rfl eH)<|have H:=H.thaw (i:=0) rfl;have H:=H.nilSl kS;have H:=H.drs [0,0,0,0,0];?_
               cases hm
               exact X3 ⟨rfl,H.reads (aE mm1 (aE (t2 (b _ d)) (aE m0 (fun r hr=>(t2 (b r hr))))))⟩
             ·refine sq<|pn 2 E rfl fun a E=>wif E hm rfl (fun hm=>?_) fun hm=>?_
              ·refine wp_seq<|dz [0,0,0,0,1,2] [0,4] H fun w W0 hI H=>fbn E [g,f] rfl (wn rfl) rfl rfl rfl rfl m0 rfl U25 rfl bK fun a E=>fn 1 E rfl fun a E=>fb2 E mm1 U2 rfl fun a E=>fv E rfl (fun w hW=>(bP E rfl (E.evs rfl) (v:=.agg #[.int .i64 0,.string (ByteArray.mk #[]),.string (ByteArray.mk #[]),.int .i64 e.1.Version,nS]) (by kernel_rfl))) fun a E=>bI rfl<|zY (i:=2) E H (wn rfl) rfl rfl rfl rfl rfl rfl bK rfl (bQ H (b _ c) (b _ d)) fun w H=>nt<|⟨sx H [0,4] rfl,bL rfl<|ss 3 E H rfl eH rfl fun w H=>nt<|aY<|?_⟩
               clear hI
               refine aA<|wp_ret<|bF<|aG<|kN E rfl (eJ (i:=2) (us:=[g,f]) H rfl rfl rfl U25 rfl bK) (eJ (i:=3) (us:=[.int .i64 0,.string (ByteArray.mk #[]),.string (ByteArray.mk #[]),.int .i64 e.1.Version,nS]) H rfl rfl rfl U93 rfl eH)<|have H:=H.nilSl kS;have H:=H.drs [0,0,0,0,0];?_
               cases hm
               exact X3 ⟨rfl,H.reads (aE (t1 (b _ c)) (aE (t1 (b _ d)) (aE m0 (fun r hr=>(t1 (b r hr))))))⟩
              ·refine sq<|pn 2 E rfl fun a E=>wif E hm rfl (fun hm=>?_) fun hm=>?_
               ·refine wp_seq<|dz [0,0,0,0,0,0,1,2] [0,4] H fun w W0 hI H=>fbn E [g,f] rfl (wn rfl) rfl rfl rfl rfl m0 rfl U25 rfl bK fun a E=>fn 1 E rfl fun a E=>fb2 E mm1 U9 rfl fun a E=>fn 1 E rfl fun a E=>fb2 E mm1 U2 rfl fun a E=>fv E rfl (fun w hW=>(bP E rfl (E.evs rfl) (v:=.agg #[.int .i64 0,.string (ByteArray.mk #[]),.string e.1.Data,.int .i64 e.1.Version,nS]) (by kernel_rfl))) fun a E=>bI rfl<|zY (i:=2) E H (wn rfl) rfl rfl rfl rfl rfl rfl bK rfl (bQ H (b _ c) (b _ d)) fun w H=>nt<|⟨sx H [0,4] rfl,bL rfl<|ss 3 E H rfl eH rfl fun w H=>nt<|aY<|?_⟩
                clear hI
                refine aA<|wp_ret<|bF<|aG<|kN E rfl (eJ (i:=2) (us:=[g,f]) H rfl rfl rfl U25 rfl bK) (eJ (i:=3) (us:=[.int .i64 0,.string (ByteArray.mk #[]),.string e.1.Data,.int .i64 e.1.Version,nS]) H rfl rfl rfl U93 rfl eH)<|have H:=H.nilSl kS;have H:=H.drs [0,0,0,0,0];?_
                cases hm
                exact X3 ⟨rfl,H.reads (aE (t1 (b _ c)) (aE (t1 (b _ d)) (aE m0 (fun r hr=>(t1 (b r hr))))))⟩
               ·exact wp_skip<|bH<|aA<|have H:=H.drs [1,3];⟨_,E.to rfl,H,b,hm⟩
          ·clear E H hm
           rintro a w ⟨c0,E,H,x,hm⟩
           unfold qV at hm
           refine sq<|ln 0 [g,f] E H U25 rfl bK fun a E=>sv2 E rfl (bP E rfl (E.evs rfl) (v:=.agg gV.toArray) (by kernel_rfl)) fun a E=>zY (i:=1) E H (wn rfl) rfl rfl rfl rfl rfl rfl bK rfl (bQ H (x _ c) (x _ d)) fun w H=>ss 2 E H rfl eH rfl fun w H=>nt<|wp_ret<|kN E rfl (eJ (i:=1) (us:=[g,f]) H rfl rfl rfl U25 rfl bK) (eJ (i:=2) (us:=gV) H rfl rfl rfl U93 rfl eH)<|have H:=H.nilSl kS;have H:=H.drs [0,0,0];?_
           cases hm
           exact X3 ⟨rfl,H.reads (aE (t1 (x _ c)) (aE (t1 (x _ d)) (aE m0 (fun r hr=>(t1 (x r hr))))))⟩

def iC(c:List bA)(d:List bA):Nat→Int→Option Bool
  | 0,_=>none
  | i+1,b=>
    if (decide (b < (c.length:Int)))=true then ((idx c b).bind fun e=>(idx d b).bind fun f=>(oZ e f).bind fun g=>if (!g)=true then (some (false)) else (iC c d i (IntKind.i64.wrap (b+1)))) else (some (true))
def nZ(b:List bA)(c:List bA):Option Bool:=
  if ((b.length:Int) != (c.length:Int))=true then (some (false)) else (iC b c (((b.length:Int) - 0:Int).toNat+1) 0)
theorem S9{o p:Value}{m q:List bA}(H:Sep w (Fo) rs)(i:rSl aU o m ∈ rs)(n:rSl aU p q ∈ rs){r:Bool}(hm:nZ m q=some r) :
    Cf 16 [o,p] w fun v w'=>.bool r=v∧Sep w' (Fo) (rs):=by
 unfold nZ at hm
 refine ent Tryz.func16 rfl Tryz.ntmps16 rfl rfl fun a E=>sq<|pn 1 E rfl fun a E=>wp_seq<|sp 1 E rfl fun a E=>lS E H i U40 rfl fun a E=>pr 1 E rfl fun a E=>lS E H n U40 rfl fun a E=>pn 1 E rfl fun a E=>wif E hm rfl (fun hm=>?_) fun hm=>?_
 ·refine sq<|pn 1 E rfl fun a E=>wp_ret<|aG<|o1 E rfl<|?_
  cases hm
  exact ⟨rfl,H.reads Y0⟩
 ·refine wp_skip<|aA<|wp_seq<|sq<|pn 1 E rfl fun a E=>wp_block<|bD (fun g a w=>∃ s,Jn 27 a w [(0,o),(1,p),(5,.int .i64 s)] (Fo) rs (iC m q g s=some r)) (((m.length:Int) - 0:Int).toNat+1) ?_ ?_
  ·exact ⟨_,_,E.to rfl,H,Y0,hm⟩
  ·clear E H hm
   rintro g a w ⟨s,K,E,H,b,hm⟩
   cases g with
   | zero=>exact (aZ hm rfl).elim
   | succ g=>
    unfold iC at hm
    refine wp_seq<|sp 2 E rfl fun a E=>lS E H (b _ i) U40 rfl fun a E=>pn 1 E rfl fun a E=>wif E hm rfl (fun hm=>?_) fun hm=>?_
    ·refine wp_skip<|aA<|wp_seq<|wp_block<|wp_seq<|?_
     obtain ⟨L,H⟩:=H.raw (b _ i)
     obtain ⟨M,H⟩:=H.raw (t1 (b _ n))
     refine dw [(0,0),(1,0),(2,0),(3,0),(4,0),(5,0),(6,0),(7,0),(8,1),(9,0)] [] [1,0] H (by kernel_rfl) (fun _ _ _ h=>False.elim h.2) fun w W0 hI H=>fn 2 E rfl fun a E=>bd hm fun e t hm=>?_
     obtain ⟨q14,N,u,j⟩:=gK (P:=Tryz.prog) (k:=.i64) hI (gD (.head _)) U40 eH t
     refine fv E rfl (fun w hW=>jQ E rfl rfl rfl (u w)) fun a E=>?_
     obtain ⟨_,x⟩:=Qf hI j
     obtain ⟨I,y,-⟩:=s7 x
     have c:=j
     rw [y] at c
     have z:=Td c (fun _ _ h=>J9 h)
     refine fv E rfl (fun w hW=>pE E rfl rfl (Te (cs:=[.int .i64 e.Err,.string e.Path,.string e.Data,.int .i64 e.Version,I]) (DR.ir c) U93 rfl eH w hW)) fun a E=>fn 2 E rfl fun a E=>bd hm fun f A hm=>?_
     obtain ⟨q25,O,B,l⟩:=gK (P:=Tryz.prog) (k:=.i64) hI (gD (.tail _ (.head _))) U40 eH A
     refine fv E rfl (fun w hW=>jQ E rfl rfl rfl (B w)) fun a E=>?_
     obtain ⟨_,C⟩:=Qf hI l
     obtain ⟨J,D,-⟩:=s7 C
     have d:=l
     rw [D] at d
     have F:=Td d (fun _ _ h=>J9 h)
     refine fv E rfl (fun w hW=>pE E rfl rfl (Te (cs:=[.int .i64 f.Err,.string f.Path,.string f.Data,.int .i64 f.Version,J]) (DR.ir d) U93 rfl eH w hW)) fun a E=>have H:=H.dr (aE mm1 (aE m0 (bG))) z;have H:=H.dr (aE mm2 (aE mm1 (bG))) F;bI rfl<|bd hm fun Q G hm=>xk2 E rfl (cf_ 58) (W5 H mm1 m0 G) fun w H a E=>nt<|⟨⟨_,_,H,(bC),(aE mm3 (aE mm2 (bG)))⟩,fn 1 E rfl fun a E=>aY<|?_⟩
     clear hI
     refine aA<|wif E hm rfl (fun hm=>?_) fun hm=>?_
     ·refine sq<|pn 1 E rfl fun a E=>wp_ret<|bF<|aG<|aG<|bF<|aG<|o1 E rfl<|?_
      cases hm
      exact ⟨rfl,H.reads (Y4 b)⟩
     ·exact wp_skip<|bH<|aA<|wp_region_lit<|pn 3 E rfl fun a E=>⟨g,Nat.lt_succ_self g,_,_,E.to rfl,H,(Y4 b),hm⟩
    ·refine wp_exit<|aL<|aL<|cH<|aA<|sq<|pn 1 E rfl fun a E=>wp_ret<|o1 E rfl<|?_
     cases hm
     exact ⟨rfl,H.reads b⟩

def jX(x1:aF)(c:Int):Option Bool:=
  if (decide (c ≥ 3000))=true then (some (true)) else ((qU x1.Nodes).bind fun b=>some (b))
def fV(x1:aF):Nat→Int→Int→Option Bool
  | 0,_,_=>none
  | e+1,b,c=>
    if (decide (c < (x1.Turns.length:Int)))=true then (if (decide (b < 3000))=true then ((idx x1.Turns c).bind fun d=>fV x1 e (IntKind.i64.wrap (b+(min (d.Dir.size:Int) 3000))) (IntKind.i64.wrap (c+1))) else (jX x1 b)) else (jX x1 b)
def kM(x1:aF):Option Bool:=
  fV x1 3002 (x1.Turns.length:Int) 0
theorem E3{x1:aF}{k l:Value}(H:Sep w (Fo) rs)(q:rSl aB k x1.Nodes ∈ rs)(f:rSl aC l x1.Turns ∈ rs){r:Bool}(hm:kM x1=some r) :
    Cf 10 [.agg #[k,l]] w fun v w'=>.bool r=v∧Sep w' (Fo) (rs):=by
 unfold kM at hm
 refine ent Tryz.func10 rfl Tryz.ntmps10 rfl rfl fun a E=>sq<|bx E H rfl fun m w a H E=>pr 1 E rfl fun a E=>xp 1 E rfl fun a E=>lb2 E H 0 U23 rfl fun a E=>lS E H f U23 rfl fun a E=>pr 1 E rfl fun a E=>nt<|aK (fun a w=>∃ n,Jn 36 a w [(1,pt m 0),(3,.int .i64 n)] (Blk m 25 [k,l]::Fo) rs (jX x1 n=some r)) ?_ ?_
 ·refine sq<|pn 1 E rfl fun a E=>wp_block<|bD (fun e a w=>∃ g i,Jn 36 a w [(1,pt m 0),(3,.int .i64 g),(4,.int .i64 i)] (Blk m 25 [k,l]::Fo) rs (fV x1 e g i=some r)) (3002) ?_ ?_
  ·exact X3 ⟨E.to rfl,H,Y0,hm⟩
  ·clear E H hm
   rintro e a w ⟨g,i,u,E,H,c,hm⟩
   cases e with
   | zero=>exact (aZ hm rfl).elim
   | succ e=>
    unfold fV at hm
    refine wp_seq<|sp 2 E rfl fun a E=>lb2 E H 0 U23 rfl fun a E=>lS E H (c _ f) U23 rfl fun a E=>pr 2 E rfl fun a E=>cs hm (fun d hm=>?_) fun d hm=>?_
    ·refine pk 3 E (kc 13 rfl d) rfl fun a E=>nt<|wif E hm rfl (fun hm=>?_) fun hm=>?_
     ·exact wp_skip<|aA<|wp_seq<|wp_block<|wp_region_lit<|pr 2 E rfl fun a E=>lb2 E H 0 U23 rfl fun a E=>pr 1 E rfl fun a E=>bd hm fun s o hm=>cN E H (wn rfl) rfl rfl rfl rfl rfl (c _ f) U23 iS o fun q20 a H E=>have H:=H.derive1 m0 (rAt kS (q20.add 0) s.Dir) (fun ok h=>zZ h);pr 1 E rfl fun a E=>sv2 E rfl (pJ E H rfl rfl m0 U9 rfl) fun a E=>pr 1 E rfl fun a E=>sv2 E rfl (Lw (t:=0) E rfl rfl rfl) fun a E=>pr 2 E rfl fun a E=>wpList_nil<|bH<|aA<|wp_region_lit<|pn 3 E rfl fun a E=>⟨e,Nat.lt_succ_self e,X3 ⟨E.to rfl,H,(Y2 c),hm⟩⟩
     ·exact wp_exit<|aL<|aL<|cH<|aA<|⟨_,_,E.to rfl,H,c,hm⟩
    ·exact pk 3 E (kc 13 rfl d) rfl fun a E=>nt<|wp_cond_false (E.eval rfl)<|wp_exit<|aL<|aL<|cH<|aA<|⟨_,_,E.to rfl,H,c,hm⟩
 ·clear E H hm
  rintro a w ⟨n,x,E,H,j,hm⟩
  unfold jX at hm
  refine sp 3 E rfl fun a E=>cs hm (fun b hm=>?_) fun b hm=>?_
  ·refine pk 5 E (kc 31 rfl b) rfl fun a E=>nt<|wp_ret<|o1 E rfl<|have H:=H.drop 0;?_
   cases hm
   exact ⟨rfl,H.reads j⟩
  ·refine pk 1 E (kc 31 rfl b) rfl fun a E=>gl 31 E H 0 b U22 rfl fun a E=>bd hm fun y p hm=>gc 31 E b rfl (cf_ 39) (Bf H (j _ q) p)<|?_
   rintro _ w ⟨rfl,H⟩ a E
   refine pk 2 E (kc 31 rfl b) rfl fun a E=>nt<|wp_ret<|o1 E rfl<|have H:=H.drop 0;?_
   cases hm
   exact ⟨rfl,H.reads j⟩

def mT(x1:aQ):Option Bool:=
  if (decide ((x1.Dir.size:Int) > 3000))=true then (some (true)) else (if (decide ((x1.Path.size:Int) > 3000))=true then (some (true)) else (some (decide ((x1.Data.size:Int) > 3000))))
theorem O3{x1:aQ}(H:Sep w (Fo) rs){r:Bool}(hm:mT x1=some r) :
    Cf 89 [.agg (bE x1).toArray] w fun v w'=>.bool r=v∧Sep w' (Fo) (rs):=by
 unfold mT at hm
 refine ent Tryz.func89 rfl Tryz.ntmps89 rfl rfl fun a E=>sq<|bx E H rfl fun d w a H E=>pr 1 E rfl fun a E=>xp 1 E rfl fun a E=>lb2 E H 0 U9 rfl fun a E=>pr 3 E rfl fun a E=>cs hm (fun b hm=>?_) fun b hm=>?_
 ·refine pk 12 E (kc 7 rfl b) rfl fun a E=>nt<|wp_ret<|o1 E rfl<|have H:=H.drop 0;?_
  cases hm
  exact ⟨rfl,H.reads Y0⟩
 ·refine pk 1 E (kc 7 rfl b) rfl fun a E=>gl 7 E H 0 b U9 rfl fun a E=>pk 4 E (kc 7 rfl b) rfl fun a E=>cs hm (fun c hm=>?_) fun c hm=>?_
  ·refine pk 6 E (kc 13 rfl c) rfl fun a E=>nt<|wp_ret<|o1 E rfl<|have H:=H.drop 0;?_
   cases hm
   exact ⟨rfl,H.reads Y0⟩
  ·refine pk 1 E (kc 13 rfl c) rfl fun a E=>gl 13 E H 0 c U9 rfl fun a E=>pk 4 E (kc 13 rfl c) rfl fun a E=>nt<|wp_ret<|o1 E rfl<|have H:=H.drop 0;?_
   cases hm
   exact ⟨rfl,H.reads Y0⟩

def fX(b:List bV):Nat→Int→Option Bool
  | 0,_=>none
  | e+1,c=>
    if (decide (c < (b.length:Int)))=true then ((idx b c).bind fun f=>(mT f.Part).bind fun d=>if d=true then (some (true)) else (fX b e (IntKind.i64.wrap (c+1)))) else (some (false))
def kX(b:List bV):Option Bool:=
  if (decide ((b.length:Int) > 60))=true then (some (true)) else (fX b (((b.length:Int) - 0:Int).toNat+1) 0)
theorem L3{f:Value}{e:List bV}(H:Sep w (Fo) rs)(d:rSl bN f e ∈ rs){r:Bool}(hm:kX e=some r) :
    Cf 40 [f] w fun v w'=>.bool r=v∧Sep w' (Fo) (rs):=by
 unfold kX at hm
 refine ent Tryz.func40 rfl Tryz.ntmps40 rfl rfl fun a E=>sq<|pn 1 E rfl fun a E=>wp_seq<|sp 1 E rfl fun a E=>lS E H d U26 rfl fun a E=>pr 1 E rfl fun a E=>nt<|wif E hm rfl (fun hm=>?_) fun hm=>?_
 ·refine sq<|pn 1 E rfl fun a E=>wp_ret<|aG<|o1 E rfl<|?_
  cases hm
  exact ⟨rfl,H.reads Y0⟩
 ·refine wp_skip<|aA<|wp_seq<|sq<|pn 1 E rfl fun a E=>wp_block<|bD (fun c a w=>∃ g,Jn 19 a w [(0,f),(3,.int .i64 g)] (Fo) rs (fX e c g=some r)) (((e.length:Int) - 0:Int).toNat+1) ?_ ?_
  ·exact ⟨_,_,E.to rfl,H,Y0,hm⟩
  ·clear E H hm
   rintro c a w ⟨g,l,E,H,b,hm⟩
   cases c with
   | zero=>exact (aZ hm rfl).elim
   | succ c=>
    unfold fX at hm
    refine wp_seq<|sp 2 E rfl fun a E=>lS E H (b _ d) U26 rfl fun a E=>pn 1 E rfl fun a E=>wif E hm rfl (fun hm=>?_) fun hm=>?_
    ·refine wp_skip<|aA<|wp_seq<|wp_block<|sp 2 E rfl fun a E=>bd hm fun k j hm=>cN E H (wn rfl) rfl rfl rfl rfl rfl (b _ d) U26 C5 j fun q9 a H E=>have H:=H.derive1 m0 (rAt cB (q9.add 1) k.Part) (fun ok h=>Hp h);pr 1 E rfl fun a E=>ldf P2 E H rfl rfl rfl rfl rfl m0 U97 rfl hU fun a E=>bd hm fun m i hm=>xk2 E rfl (cf_ 89) (O3 H i) fun w H a E=>nt<|wif E hm rfl (fun hm=>?_) fun hm=>?_
     ·refine sq<|pn 1 E rfl fun a E=>wp_ret<|bF<|aG<|aG<|bF<|aG<|o1 E rfl<|?_
      cases hm
      exact ⟨rfl,H.reads (Y2 b)⟩
     ·exact wp_skip<|bH<|aA<|wp_region_lit<|pn 3 E rfl fun a E=>⟨c,Nat.lt_succ_self c,_,_,E.to rfl,H,(Y2 b),hm⟩
    ·refine wp_exit<|aL<|aL<|cH<|aA<|sq<|pn 1 E rfl fun a E=>wp_ret<|o1 E rfl<|?_
     cases hm
     exact ⟨rfl,H.reads b⟩

def iQ(x1:aF)(e:aF):Nat→Int→Option Bool
  | 0,_=>none
  | f+1,b=>
    if (decide (b < (x1.Turns.length:Int)))=true then ((idx x1.Turns b).bind fun c=>(idx e.Turns b).bind fun d=>if (!((sEq c.Dir d.Dir) && (c.Next == d.Next)))=true then (some (false)) else (iQ x1 e f (IntKind.i64.wrap (b+1)))) else (some (true))
def pB(x1:aF)(c:aF)(b:Bool):Option Bool:=
  if b=true then (some (false)) else (iQ x1 c (((x1.Turns.length:Int) - 0:Int).toNat+1) 0)
def jC(x1:aF)(b:aF):Option Bool:=
  (sA x1.Nodes b.Nodes).bind fun c=>if (!c)=true then (pB x1 b true) else (pB x1 b ((x1.Turns.length:Int) != (b.Turns.length:Int)))
theorem zU{x1 j:aF}{q s t u:Value}(H:Sep w (Fo) rs)(F:rSl aB q x1.Nodes ∈ rs)(l:rSl aC s x1.Turns ∈ rs)(G:rSl aB t j.Nodes ∈ rs)(m:rSl aC u j.Turns ∈ rs){r:Bool}(hm:jC x1 j=some r) :
    Cf 14 [.agg #[q,s],.agg #[t,u]] w fun v w'=>.bool r=v∧Sep w' (Fo) (rs):=by
 unfold jC at hm
 refine ent Tryz.func14 rfl Tryz.ntmps14 rfl rfl fun a E=>sq<|bx E H rfl fun d w a H E=>bx E H rfl fun e w a H E=>pn 1 E rfl fun a E=>wp_seq<|aK (fun a w=>∃ n,Jn 39 a w [(2,pt d 0),(3,pt e 0),(20,.bool n)] (Blk d 25 [q,s]::Blk e 25 [t,u]::Fo) rs (pB x1 j n=some r)) ?_ ?_
 ·refine wp_region_lit<|pr 1 E rfl fun a E=>lb2 E H 1 U22 rfl fun a E=>pr 1 E rfl fun a E=>lb2 E H 0 U22 rfl fun a E=>bd hm fun K x hm=>xk2 E rfl (cf_ 55) (Cu H F G x) fun w H a E=>pr 2 E rfl fun a E=>cs hm (fun b hm=>?_) fun b hm=>?_
  ·exact pk 8 E (kc 12 rfl b) rfl fun a E=>nt<|have H:=H.frs [0,1] rfl;⟨_,_,E.to rfl,H,Y0,hm⟩
  ·exact pk 1 E (kc 12 rfl b) rfl fun a E=>gl 12 E H 1 b U23 rfl fun a E=>gv 12 E b rfl (uN E H rfl rfl l U23) fun a E=>pk 1 E (kc 12 rfl b) rfl fun a E=>gl 12 E H 0 b U23 rfl fun a E=>gv 12 E b rfl (uN E H rfl rfl m U23) fun a E=>pk 2 E (kc 12 rfl b) rfl fun a E=>nt<|have H:=H.frs [0,1] rfl;⟨_,_,E.to rfl,H,Y0,hm⟩
 ·clear E H hm
  rintro a w ⟨n,I,E,H,o,hm⟩
  unfold pB at hm
  refine wif E hm rfl (fun hm=>?_) fun hm=>?_
  ·refine sq<|pn 1 E rfl fun a E=>wp_ret<|aG<|o1 E rfl<|have H:=H.drs [0,0];?_
   cases hm
   exact ⟨rfl,H.reads o⟩
  ·refine wp_skip<|aA<|wp_seq<|sq<|pn 1 E rfl fun a E=>wp_block<|bD (fun i a w=>∃ p,Jn 39 a w [(2,pt d 0),(3,pt e 0),(5,.int .i64 p)] (Blk d 25 [q,s]::Blk e 25 [t,u]::Fo) rs (iQ x1 j i p=some r)) (((x1.Turns.length:Int) - 0:Int).toNat+1) ?_ ?_
   ·exact ⟨_,_,E.to rfl,H,o,hm⟩
   ·clear E H hm
    rintro i a w ⟨p,J,E,H,c,hm⟩
    cases i with
    | zero=>exact (aZ hm rfl).elim
    | succ i=>
     unfold iQ at hm
     refine wp_seq<|sp 2 E rfl fun a E=>lb2 E H 0 U23 rfl fun a E=>lS E H (c _ l) U23 rfl fun a E=>pn 1 E rfl fun a E=>wif E hm rfl (fun hm=>?_) fun hm=>?_
     ·refine wp_skip<|aA<|wp_seq<|wp_block<|wp_seq<|?_
      obtain ⟨L,H⟩:=H.raw (c _ l)
      obtain ⟨M,H⟩:=H.raw (t1 (c _ m))
      refine dw [(0,0),(1,0),(2,0),(3,0),(4,0),(5,0),(6,0),(7,0),(8,0),(9,0),(10,0)] [0,1] [1,0] H (by kernel_rfl) (fun _ _ _ h=>False.elim h.2) fun w W0 hI H=>fn 1 E rfl fun a E=>fb2 E m0 U23 rfl fun a E=>fn 1 E rfl fun a E=>bd hm fun f y hm=>?_
      obtain ⟨q23,N,z,A⟩:=gK (P:=Tryz.prog) (k:=.i64) hI (gD (.head _)) U23 iS y
      refine fv E rfl (fun w hW=>jQ E rfl rfl rfl (z w)) fun a E=>fv E rfl (fun w hW=>pE E rfl rfl (v8 (cs:=[.string f.Dir,.int .i64 f.Next]) (DR.ir (C3 A)) (fun _ _ _ h=>uQ h) U89 rfl iS w hW)) fun a E=>fn 1 E rfl fun a E=>fb2 E mm1 U23 rfl fun a E=>fn 1 E rfl fun a E=>bd hm fun g B hm=>?_
      obtain ⟨q29,O,C,D⟩:=gK (P:=Tryz.prog) (k:=.i64) hI (gD (.tail _ (.head _))) U23 iS B
      refine fv E rfl (fun w hW=>jQ E rfl rfl rfl (C w)) fun a E=>fv E rfl (fun w hW=>pE E rfl rfl (v8 (cs:=[.string g.Dir,.int .i64 g.Next]) (DR.ir (C3 D)) (fun _ _ _ h=>uQ h) U89 rfl iS w hW)) fun a E=>fv E rfl (fun w hW=>(zG E rfl rfl rfl (v:=.bool (!((sEq f.Dir g.Dir) && (f.Next == g.Next)))) (Tf GV (Ki U89 GU (L7 (by rfl) (by kernel_rfl) (by kernel_rfl) (Bp U9) (Mu (by rfl) (by kernel_rfl) (by kernel_rfl) (Gx U2))))))) fun a E=>aY<|?_
      clear hI
      refine aA<|wif E hm rfl (fun hm=>?_) fun hm=>?_
      ·refine sq<|pn 1 E rfl fun a E=>wp_ret<|bF<|aG<|aG<|bF<|aG<|o1 E rfl<|have H:=H.drs [0,0];?_
       cases hm
       exact ⟨rfl,H.reads (Y2 c)⟩
      ·exact wp_skip<|bH<|aA<|wp_region_lit<|pn 3 E rfl fun a E=>⟨i,Nat.lt_succ_self i,_,_,E.to rfl,H,(Y2 c),hm⟩
     ·refine wp_exit<|aL<|aL<|cH<|aA<|sq<|pn 1 E rfl fun a E=>wp_ret<|o1 E rfl<|have H:=H.drs [0,0];?_
      cases hm
      exact ⟨rfl,H.reads c⟩

def tA(rec_1:x5→Int→cD→cP→Option Do)(x1:aF)(c:Int)(d:x5)(j:cD)(k:cP)(b:Int)(e:ByteArray)(f:ByteArray)(g:Int)(i:cR):Option Do:=
  if (b != 0)=true then (some (x1,[],b,c)) else ((ck (d.length+([(⟨b,e,f,g,i⟩:bA)]:List bA).length ≤ LIM)).bind fun l=>rec_1 (d ++ ([(⟨b,e,f,g,i⟩:bA)]:List bA)) (IntKind.i64.wrap (c+1)) j k)
def hG(x1:aF)(g:List bV):Nat→x5→Int→cD→cP→Option Do
  | 0,_,_,_,_=>none
  | j+1,d,c,e,f=>
    if (decide (c < (g.length:Int)))=true then ((idx g c).bind fun i=>(mC (⟨e,f⟩:aF) i.Part).bind fun b=>tA (hG x1 g j) x1 c d b.1.Nodes b.1.Turns b.2.Err b.2.Path b.2.Data b.2.Version b.2.Names) else (some ((⟨e,f⟩:aF),d,0,0))
def vV(x1:aF)(b:List bV):Option Do:=
  hG x1 b (((b.length:Int) - 0:Int).toNat+1) [] 0 x1.Nodes x1.Turns
theorem Ek{x1:aF}{G I S:Value}{J:List bV}(H:Sep w (Fo) rs)(L:rSl aB G x1.Nodes ∈ rs)(M:rSl aC I x1.Turns ∈ rs)(b2:rSl bN S J ∈ rs){r:aF×x5×Int×Int}(hm:vV x1 J=some r) :
    Cf 12 [.agg #[G,I],S] w fun v w'=>∃ c0 c1 c2,.tuple #[.agg #[c0,c1],c2,.int .i64 r.2.2.1,.int .i64 r.2.2.2]=v∧Sep w' (Row 93 aU c2 r.2.1::Fo) (rSl aB c0 r.1.Nodes::rSl aC c1 r.1.Turns::rs):=by
 unfold vV at hm
 refine ent Tryz.func12 rfl Tryz.ntmps12 rfl rfl fun a E=>sq<|bx E H rfl fun b1 w a H E=>al2 E H rfl lT fun N w a H E=>pr 3 E rfl fun a E=>nx<|ln 1 [G,I] E H U25 rfl bK fun a E=>al2 E H rfl lT fun B w a H E=>ss 0 E H rfl bK (bQ H L M) fun w H=>nx<|pn 1 E rfl fun a E=>wp_seq<|sq<|pn 1 E rfl fun a E=>wp_block<|bD (fun K a w=>∃ C g j D F n o u,Env 44 a [(1,S),(2,pt b1 0),(4,pt N 0),(8,pt B 0),(9,C),(10,.int .i64 F)]∧Sep w (Blk b1 25 [G,I]::Blk N 25 [nS,nS]::Blk B 25 [g,j]::Row 93 aU C D::Fo) u∧(∀ r,r ∈ rs→r ∈ u)∧rSl aB g n ∈ u∧rSl aC j o ∈ u∧hG x1 J K D F n o=some r) (((J.length:Int) - 0:Int).toNat+1) ?_ ?_
 ·exact have H:=H.nilRow 93 aU;have H:=H.frs [0,1,2,3] rfl;X8 ⟨E.to rfl,H,Y0,L,M,hm⟩
 ·clear E H hm
  rintro K a w ⟨C,g,j,D,F,n,o,u,E,H,b,c,f,hm⟩
  cases K with
  | zero=>exact (aZ hm rfl).elim
  | succ K=>
   unfold hG at hm
   refine wp_seq<|sp 2 E rfl fun a E=>lS E H (b _ b2) U26 rfl fun a E=>pn 1 E rfl fun a E=>wif E hm rfl (fun hm=>?_) fun hm=>?_
   ·refine wp_skip<|aA<|wp_seq<|wp_block<|aK (fun a w=>∃ T U O Q R V X p q s t y l,Env 44 a [(1,S),(2,pt b1 0),(4,pt N 0),(8,pt B 0),(9,C),(10,.int .i64 F),(11,pt T 0),(12,pt U 0)]∧Sep w (Blk b1 25 [G,I]::Blk N 25 [nS,nS]::Blk B 25 [g,j]::Row 93 aU C D::Blk T 25 [O,Q]::Blk U 93 [.int .i64 p,.string q,.string s,.int .i64 t,R]::Fo) l∧(∀ r,r ∈ rs→r ∈ l)∧rSl aB O V ∈ l∧rSl aC Q X ∈ l∧rSl kS R y ∈ l∧tA (hG x1 J K) x1 F D V X p q s t y=some r) ?_ ?_
    ·refine bd hm fun z b5 hm=>bd hm fun e8 A hm=>?_
     obtain ⟨b3,H⟩:=H.raw (b _ b2)
     have hI:dZ [Blk B 25 [g,j]] [Ri bN S J b3] { w with drawn:=w.drawn+1 }:=⟨_,_,H.kept (Kp.drawn _ w _),(aM mm2 (bC)),(aE m0 (bG))⟩
     refine wV _ (.go 0 0 (.go 1 0 (.go 2 0 (.go 3 0 (.go 4 0 (.go 5 0 (.alt3 6 (.go 7 0 (.go 8 0 (.go 9 0 (.alt 10 (.go 11 1 (.go 12 1 (.go 13 2 .nil))) 11 (.go 10 1 (.go 12 1 (.go 13 2 .nil))))))) 10 (.alt 6 (.go 7 0 (.go 8 0 (.go 9 0 (.go 11 1 (.go 12 1 (.go 13 2 .nil)))))) 11 (.go 6 1 (.go 7 0 (.go 8 0 (.go 9 0 (.go 12 1 (.go 13 2 .nil))))))) 11 (.alt 6 (.go 7 0 (.go 8 0 (.go 9 0 (.go 10 1 (.go 12 1 (.go 13 2 .nil)))))) 10 (.go 6 1 (.go 7 0 (.go 8 0 (.go 9 0 (.go 12 1 (.go 13 2 .nil)))))))))))))) [13] xZ (by kernel_rfl) (fun _ _ _ h=>False.elim h.2) hI<|have H:=H.kept (Kp.drawn _ w (w.drawn+1));?_
     generalize ({ w with drawn:=w.drawn+1 }:World)=w at H hI ⊢
     replace hI:∃ W,dZ [Blk B 25 [g,j]] [Ri bN S J b3] W:=⟨_,hI⟩
     obtain ⟨W0,hI⟩:=hI
     refine ov E rfl (fun w hW=>pE E rfl rfl (Bn (us:=[g,j]) m0 rfl U25 rfl bK w hW)) fun a E=>om E rfl fun a E=>om E rfl fun a E=>?_
     obtain ⟨q93,e9,b6,b7⟩:=gK (P:=Tryz.prog) (k:=.i64) hI (gD (.head _)) U26 C5 b5
     refine ov E rfl (fun w hW=>jQ E rfl rfl rfl (b6 w)) fun a E=>?_
     have b8:=rO b7 (fun _ _ _ h=>Hq h)
     refine ov E rfl (fun w hW=>yC E rfl rfl (Ty _ _)) fun a E=>ov E rfl (fun w hW=>pE E rfl rfl (v8 (cs:=[.int .i64 z.Part.Kind,.string z.Part.Dir,.string z.Part.Path,.string z.Part.Data,.int .i64 z.Part.Version,.int .i64 z.Part.Owner,.bool z.Part.Turns]) (DR.ir (C3 b8)) (fun _ _ _ h=>C4 h) U97 rfl hU w hW)) fun a E=>Qg rfl rfl rfl ?_ ?_ ?_
     ·refine xc2 E rfl (cf_ 41) (tR (x1:=(⟨n,o⟩:aF)) H (t1 c) (t1 f) A)<|?_
      rintro _ w ⟨c3,c4,c5,rfl,H⟩ a E
      refine nt<|⟨⟨_,_,H,(aM mm2 (bC)),(aE mm3 (bG))⟩,om E rfl fun a E=>ox E rfl fun a E=>ox E rfl fun a E=>uO rfl rfl ?_ ?_⟩
      ·refine al2 E H rfl lT fun c6 w a H E=>nt<|⟨⟨_,_,H,(aM mm3 (bC)),(aE mm3 (bG))⟩,dK rfl<|al2 E H rfl Q8 fun c7 w a H E=>nt<|⟨⟨_,_,H,(aM mm4 (bC)),(aE mm3 (bG))⟩,dK rfl<|ss 1 E H rfl bK (bQ H m0 mm1) fun w H=>nt<|⟨⟨_,_,H,(aM mm4 (bC)),(aE mm3 (bG))⟩,eL rfl<|ss 0 E H rfl eH (mG H mm2) fun w H=>nt<|iK<|?_⟩⟩⟩
       clear hI
       exact aA<|have H:=H.frs [0,1,5,5,5,5] rfl;X13 ⟨E.to rfl,H,(Y4 b),m0,mm1,mm2,hm⟩
      ·refine al2 E H rfl Q8 fun c8 w a H E=>nt<|⟨⟨_,_,H,(aM mm3 (bC)),(aE mm3 (bG))⟩,dK rfl<|al2 E H rfl lT fun c9 w a H E=>nt<|⟨⟨_,_,H,(aM mm4 (bC)),(aE mm3 (bG))⟩,dK rfl<|ss 0 E H rfl bK (bQ H m0 mm1) fun w H=>nt<|⟨⟨_,_,H,(aM mm4 (bC)),(aE mm3 (bG))⟩,eL rfl<|ss 1 E H rfl eH (mG H mm2) fun w H=>nt<|iK<|?_⟩⟩⟩
       clear hI
       exact aA<|have H:=H.frs [1,1,5,5,5,5] rfl;X13 ⟨E.to rfl,H,(Y4 b),m0,mm1,mm2,hm⟩
     ·refine al2 E H rfl lT fun d0 w a H E=>nt<|⟨⟨_,_,H,(aM mm3 (bC)),(aE m0 (bG))⟩,uO rfl rfl ?_ ?_⟩
      ·refine xc2 E rfl (cf_ 41) (tR (x1:=(⟨n,o⟩:aF)) H (t1 c) (t1 f) A)<|?_
       rintro _ w ⟨d1,d2,d3,rfl,H⟩ a E
       refine nt<|⟨⟨_,_,H,(aM mm3 (bC)),(aE mm3 (bG))⟩,om E rfl fun a E=>ox E rfl fun a E=>ox E rfl fun a E=>dK rfl<|al2 E H rfl Q8 fun d4 w a H E=>nt<|⟨⟨_,_,H,(aM mm4 (bC)),(aE mm3 (bG))⟩,dK rfl<|ss 1 E H rfl bK (bQ H m0 mm1) fun w H=>nt<|⟨⟨_,_,H,(aM mm4 (bC)),(aE mm3 (bG))⟩,eL rfl<|ss 0 E H rfl eH (mG H mm2) fun w H=>nt<|iK<|?_⟩⟩⟩
       clear hI
       exact aA<|have H:=H.frs [0,1,5,5,5,5] rfl;X13 ⟨E.to rfl,H,(Y4 b),m0,mm1,mm2,hm⟩
      ·refine al2 E H rfl Q8 fun d5 w a H E=>nt<|⟨⟨_,_,H,(aM mm4 (bC)),(aE m0 (bG))⟩,dK rfl<|xc2 E rfl (cf_ 41) (tR (x1:=(⟨n,o⟩:aF)) H (t1 c) (t1 f) A)<|?_⟩
       rintro _ w ⟨d6,d7,d8,rfl,H⟩ a E
       refine nt<|⟨⟨_,_,H,(aM mm4 (bC)),(aE mm3 (bG))⟩,om E rfl fun a E=>ox E rfl fun a E=>ox E rfl fun a E=>dK rfl<|ss 1 E H rfl bK (bQ H m0 mm1) fun w H=>nt<|⟨⟨_,_,H,(aM mm4 (bC)),(aE mm3 (bG))⟩,eL rfl<|ss 0 E H rfl eH (mG H mm2) fun w H=>nt<|iK<|?_⟩⟩
       clear hI
       exact aA<|have H:=H.frs [0,1,5,5,5,5] rfl;X13 ⟨E.to rfl,H,(Y4 b),m0,mm1,mm2,hm⟩
     ·refine al2 E H rfl Q8 fun d9 w a H E=>nt<|⟨⟨_,_,H,(aM mm3 (bC)),(aE m0 (bG))⟩,uO rfl rfl ?_ ?_⟩
      ·refine xc2 E rfl (cf_ 41) (tR (x1:=(⟨n,o⟩:aF)) H (t1 c) (t1 f) A)<|?_
       rintro _ w ⟨e0,e1,e2,rfl,H⟩ a E
       refine nt<|⟨⟨_,_,H,(aM mm3 (bC)),(aE mm3 (bG))⟩,om E rfl fun a E=>ox E rfl fun a E=>ox E rfl fun a E=>dK rfl<|al2 E H rfl lT fun e3 w a H E=>nt<|⟨⟨_,_,H,(aM mm4 (bC)),(aE mm3 (bG))⟩,dK rfl<|ss 0 E H rfl bK (bQ H m0 mm1) fun w H=>nt<|⟨⟨_,_,H,(aM mm4 (bC)),(aE mm3 (bG))⟩,eL rfl<|ss 1 E H rfl eH (mG H mm2) fun w H=>nt<|iK<|?_⟩⟩⟩
       clear hI
       exact aA<|have H:=H.frs [1,1,5,5,5,5] rfl;X13 ⟨E.to rfl,H,(Y4 b),m0,mm1,mm2,hm⟩
      ·refine al2 E H rfl lT fun e4 w a H E=>nt<|⟨⟨_,_,H,(aM mm4 (bC)),(aE m0 (bG))⟩,dK rfl<|xc2 E rfl (cf_ 41) (tR (x1:=(⟨n,o⟩:aF)) H (t1 c) (t1 f) A)<|?_⟩
       rintro _ w ⟨e5,e6,e7,rfl,H⟩ a E
       refine nt<|⟨⟨_,_,H,(aM mm4 (bC)),(aE mm3 (bG))⟩,om E rfl fun a E=>ox E rfl fun a E=>ox E rfl fun a E=>dK rfl<|ss 0 E H rfl bK (bQ H m0 mm1) fun w H=>nt<|⟨⟨_,_,H,(aM mm4 (bC)),(aE mm3 (bG))⟩,eL rfl<|ss 1 E H rfl eH (mG H mm2) fun w H=>nt<|iK<|?_⟩⟩
       clear hI
       exact aA<|have H:=H.frs [1,1,5,5,5,5] rfl;X13 ⟨E.to rfl,H,(Y4 b),m0,mm1,mm2,hm⟩
    ·clear E H hm
     rintro a w ⟨T,U,O,Q,R,V,X,p,q,s,t,y,l,E,H,m,Y,Z,b0,hm⟩
     unfold tA at hm
     refine wp_seq<|sp 1 E rfl fun a E=>lb2 E H 5 U41 rfl fun a E=>pn 1 E rfl fun a E=>wif E hm rfl (fun hm=>?_) fun hm=>?_
     ·refine wp_seq<|dz [0,0,0,0,1,1,1,2] [0,5] H fun w W0 hI H=>fbn E [G,I] rfl (wn rfl) rfl rfl rfl rfl m0 rfl U25 rfl bK fun a E=>fn 1 E rfl fun a E=>fb2 E mm1 U41 rfl fun a E=>fn 1 E rfl fun a E=>bI rfl<|zY (i:=1) E H (wn rfl) rfl rfl rfl rfl rfl rfl bK rfl (bQ H (m _ L) (m _ M)) fun w H=>nt<|⟨sx H [0,5] rfl,bI rfl<|pn 1 E rfl fun a E=>⟨sx H [0,5] rfl,bI rfl<|pn 1 E rfl fun a E=>⟨sx H [0,5] rfl,bL rfl<|pn 1 E rfl fun a E=>aY<|?_⟩⟩⟩
      clear hI
      refine aA<|wp_ret<|aG<|bF<|aG<|aG<|bF<|aG<|Lz E rfl (eJ (i:=1) (us:=[G,I]) H rfl rfl rfl U25 rfl bK) (rvT rfl) (rvT rfl) (rvT rfl)<|have H:=H.nilRow 93 aU;have H:=H.drs [1,1,1,1,1,1];?_
      cases hm
      exact X3 ⟨rfl,H.reads (aE (m _ L) (aE (m _ M) (m)))⟩
     ·refine wp_skip<|aA<|sq<|ln 4 [O,Q] E H U25 rfl bK fun a E=>ss 2 E H rfl bK (bQ H Y Z) fun w H=>nt<|wp_region_lit<|pr 1 E rfl fun a E=>ln 5 [.int .i64 p,.string q,.string s,.int .i64 t,R] E H U93 rfl eH fun a E=>?_
      obtain ⟨q42,b4,rfl⟩:=H.slform b0
      exact iV (e:=93) (d:=aU) (cs:=[.int .i64 p,.string q,.string s,.int .i64 t,(.slice q42 y.length b4)]) (xs:=[(⟨p,q,s,t,y⟩:bA)]) E H (wn rfl) rfl rfl rfl (E.evs rfl) (by kernel_rfl) rfl (fun ok hr=>(Rows.single (d:=aU) (cs:=[.int .i64 p,.string q,.string s,.int .i64 t,(.slice q42 y.length b4)]) (x:=(⟨p,q,s,t,y⟩:bA)) (P1 (hr _ b0)))) fun f0 w a H E=>bk hm fun b9 hm=>cO (i:=3) E H (wn rfl) rfl rfl rfl rfl rfl rfl (fA m0) U40 Yg rfl b9 rfl fun f1 w a H E=>pr 1 E rfl fun a E=>wpList_nil<|bH<|aA<|wp_region_lit<|pr 3 E rfl fun a E=>nt<|have H:=H.drs [4,4];⟨K,Nat.lt_succ_self K,X8 ⟨E.to rfl,H,(Y1 m),(t1 Y),(t1 Z),hm⟩⟩
   ·refine wp_exit<|aL<|aL<|cH<|aA<|sq<|ln 2 [g,j] E H U25 rfl bK fun a E=>pr 1 E rfl fun a E=>ss 1 E H rfl bK (bQ H c f) fun w H=>pn 3 E rfl fun a E=>wp_ret<|Lz E rfl (eJ (i:=1) (us:=[g,j]) H rfl rfl rfl U25 rfl bK) (rvT rfl) (rvT rfl) (rvT rfl)<|have H:=H.drs [0,0,0];?_
    cases hm
    exact X3 ⟨rfl,H.reads (aE c (aE f (b)))⟩

def oA(x1:aS)(b:Int):Option Bool:=
  if (decide (b ≥ 3000))=true then (some (true)) else (if (decide ((x1.Prefix.size:Int) > 3000))=true then (some (true)) else (if (decide ((x1.Watch.Path.size:Int) > 3000))=true then (some (true)) else ((kX x1.Pieces).bind fun c=>if c=true then (some (true)) else ((kM x1.Store).bind fun d=>some (d)))))
def oC(x1:aS):Nat→Int→Int→Option Bool
  | 0,_,_=>none
  | e+1,b,c=>
    if (decide (c < (x1.Gone.length:Int)))=true then (if (decide (b < 3000))=true then ((idx x1.Gone c).bind fun d=>oC x1 e (IntKind.i64.wrap (b+(min (d.size:Int) 3000))) (IntKind.i64.wrap (c+1))) else (oA x1 b)) else (oA x1 b)
def qW(x1:aS):Option Bool:=
  oC x1 ((3000 - (x1.Gone.length:Int):Int).toNat+1) (x1.Gone.length:Int) 0
theorem Bh{x1:aS}{u m n x:Value}(H:Sep w (Fo) rs)(B:rSl bN u x1.Pieces ∈ rs)(C:rSl aB m x1.Store.Nodes ∈ rs)(D:rSl aC n x1.Store.Turns ∈ rs)(o:rSl kS x x1.Gone ∈ rs){r:Bool}(hm:qW x1=some r) :
    Cf 11 [.agg (aX x1 u m n x).toArray] w fun v w'=>.bool r=v∧Sep w' (Fo) (rs):=by
 unfold qW at hm
 refine ent Tryz.func11 rfl Tryz.ntmps11 rfl rfl fun a E=>sq<|bx E H rfl fun k w a H E=>pr 1 E rfl fun a E=>xp 1 E rfl fun a E=>lb2 E H 0 U33 rfl fun a E=>lS E H o U33 rfl fun a E=>pr 1 E rfl fun a E=>nt<|aK (fun a w=>∃ p,Jn 53 a w [(1,pt k 0),(3,.int .i64 p)] (Blk k 37 (aX x1 u m n x)::Fo) rs (oA x1 p=some r)) ?_ ?_
 ·refine sq<|pn 1 E rfl fun a E=>wp_block<|bD (fun l a w=>∃ q s,Jn 53 a w [(1,pt k 0),(3,.int .i64 q),(4,.int .i64 s)] (Blk k 37 (aX x1 u m n x)::Fo) rs (oC x1 l q s=some r)) ((3000 - (x1.Gone.length:Int):Int).toNat+1) ?_ ?_
  ·exact X3 ⟨E.to rfl,H,Y0,hm⟩
  ·clear E H hm
   rintro l a w ⟨q,s,F,E,H,e,hm⟩
   cases l with
   | zero=>exact (aZ hm rfl).elim
   | succ l=>
    unfold oC at hm
    refine wp_seq<|sp 2 E rfl fun a E=>lb2 E H 0 U33 rfl fun a E=>lS E H (e _ o) U33 rfl fun a E=>pr 2 E rfl fun a E=>cs hm (fun j hm=>?_) fun j hm=>?_
    ·refine pk 3 E (kc 13 rfl j) rfl fun a E=>nt<|wif E hm rfl (fun hm=>?_) fun hm=>?_
     ·exact wp_skip<|aA<|wp_seq<|wp_block<|wp_region_lit<|pr 2 E rfl fun a E=>lb2 E H 0 U33 rfl fun a E=>pr 1 E rfl fun a E=>bd hm fun I y hm=>cN E H (wn rfl) rfl rfl rfl rfl rfl (e _ o) U33 sz9 y fun q29 a H E=>sv2 E rfl (pJ E H rfl rfl m0 U9 rfl) fun a E=>pr 1 E rfl fun a E=>sv2 E rfl (Lw (t:=0) E rfl rfl rfl) fun a E=>pr 2 E rfl fun a E=>wpList_nil<|bH<|aA<|wp_region_lit<|pn 3 E rfl fun a E=>⟨l,Nat.lt_succ_self l,X3 ⟨E.to rfl,H,(Y1 e),hm⟩⟩
     ·exact wp_exit<|aL<|aL<|cH<|aA<|⟨_,_,E.to rfl,H,e,hm⟩
    ·exact pk 3 E (kc 13 rfl j) rfl fun a E=>nt<|wp_cond_false (E.eval rfl)<|wp_exit<|aL<|aL<|cH<|aA<|⟨_,_,E.to rfl,H,e,hm⟩
 ·clear E H hm
  rintro a w ⟨p,G,E,H,b,hm⟩
  unfold oA at hm
  refine sp 3 E rfl fun a E=>cs hm (fun f hm=>?_) fun f hm=>?_
  ·refine pk 23 E (kc 30 rfl f) rfl fun a E=>nt<|wp_ret<|o1 E rfl<|have H:=H.drop 0;?_
   cases hm
   exact ⟨rfl,H.reads b⟩
  ·refine pk 1 E (kc 30 rfl f) rfl fun a E=>gl 30 E H 0 f U9 rfl fun a E=>pk 4 E (kc 30 rfl f) rfl fun a E=>cs hm (fun g hm=>?_) fun g hm=>?_
   ·refine pk 17 E (kc 36 rfl g) rfl fun a E=>nt<|wp_ret<|o1 E rfl<|have H:=H.drop 0;?_
    cases hm
    exact ⟨rfl,H.reads b⟩
   ·refine pk 2 E (kc 36 rfl g) rfl fun a E=>gl 36 E H 0 g U9 rfl fun a E=>pk 4 E (kc 36 rfl g) rfl fun a E=>cs hm (fun c hm=>?_) fun c hm=>?_
    ·refine pk 10 E (kc 43 rfl c) rfl fun a E=>nt<|wp_ret<|o1 E rfl<|have H:=H.drop 0;?_
     cases hm
     exact ⟨rfl,H.reads b⟩
    ·refine pk 1 E (kc 43 rfl c) rfl fun a E=>gl 43 E H 0 c U26 rfl fun a E=>bd hm fun J z hm=>gc 43 E c rfl (cf_ 40) (L3 H (b _ B) z)<|?_
     rintro _ w ⟨rfl,H⟩ a E
     refine pk 2 E (kc 43 rfl c) rfl fun a E=>cs hm (fun d hm=>?_) fun d hm=>?_
     ·refine pk 5 E (kc 48 rfl d) rfl fun a E=>nt<|wp_ret<|o1 E rfl<|have H:=H.drop 0;?_
      cases hm
      exact ⟨rfl,H.reads b⟩
     ·refine pk 1 E (kc 48 rfl d) rfl fun a E=>gv 48 E d rfl (B8 (i:=0) (us:=[m,n]) E H rfl rfl rfl rfl U25 rfl bK) fun a E=>bd hm fun K A hm=>gc 48 E d rfl (cf_ 10) (E3 H (b _ C) (b _ D) A)<|?_
      rintro _ w ⟨rfl,H⟩ a E
      refine pk 2 E (kc 48 rfl d) rfl fun a E=>nt<|wp_ret<|o1 E rfl<|have H:=H.drop 0;?_
      cases hm
      exact ⟨rfl,H.reads b⟩

def dN(d:Bool)(c:aF×x5×Int×Int)(b:aW×cD×cP×xA×mH×oF×iA×x6×Z8×x6)(x1:aF)(e:Bool):Option Bool:=
  if e=true then (some (d)) else (if (c.2.2.1 != 0)=true then (if d=true then (if (b.1.Err == c.2.2.1)=true then (if (b.1.At == c.2.2.2)=true then ((iG b.2.1 b.2.2.1).bind fun f=>(jC f x1).bind fun g=>some (g)) else (some (false))) else (some (false))) else (some (false))) else (if d=true then (if (b.1.Err == 0)=true then ((nZ b.1.Results c.2.1).bind fun i=>if i=true then ((iG b.2.1 b.2.2.1).bind fun j=>(jC j c.1).bind fun k=>some (k)) else (some (false))) else (some (false))) else (some (false))))
def gS(c:Bool)(x1:aF)(g:List bV)(d:cD×cP×xA)(k:Int)(i:Bool):Option Bool:=
  if i=true then (some (c)) else ((vV x1 g).bind fun e=>(dW d.1 d.2.1 d.2.2 ([]:List aO) ([]:List aP) ([]:List aH) [] [] [] (⟨1,k,0,0,false,g,(ByteArray.mk #[]),0,0,(⟨[],[]⟩:aF),[],(⟨0,0,(ByteArray.mk #[]),false⟩:aP)⟩:aS)).bind fun b=>if (b.1.Err == 1)=true then (if ((b.1.Results.length:Int) == 0)=true then ((iG b.2.1 b.2.2.1).bind fun j=>(jC j x1).bind fun f=>dN c e b x1 f) else (dN c e b x1 false)) else (dN c e b x1 false))
def mU(x1:aF)(d:List bV)(e:Int):Option Bool:=
  zR.bind fun b=>(yA x1 ([(⟨(ByteArray.mk #[47]),0,1⟩:aI)]:List aI)).bind fun i=>Fi i (some (b)) fun c=>(kM x1).bind fun f=>if f=true then (gS b x1 d c e true) else ((qW (⟨1,e,0,0,false,d,(ByteArray.mk #[]),0,0,(⟨[],[]⟩:aF),[],(⟨0,0,(ByteArray.mk #[]),false⟩:aP)⟩:aS)).bind fun g=>gS b x1 d c e g)
theorem O4{x1:aF}{A B d5:Value}{q:List bV}{y:Int}(H:Sep w (Fo) rs)(C:rSl aB A x1.Nodes ∈ rs)(D:rSl aC B x1.Turns ∈ rs)(F:rSl bN d5 q ∈ rs)(P:y7 Tryz.prog ∈ rs){r:Bool}(hm:mU x1 q y=some r) :
    Cf 3 [.agg #[A,B],d5,.int .i64 y] w fun v w'=>.bool r=v∧Sep w' (Fo) (rs):=by
 unfold mU at hm
 refine ent Tryz.func3 rfl Tryz.ntmps3 rfl rfl fun a E=>sq<|bx E H rfl fun I w a H E=>pr 1 E rfl fun a E=>nx<|bd hm fun J b9 hm=>xk2 E rfl (cf_ 8) (Cr H P b9) fun w H a E=>pr 1 E rfl fun a E=>nx<|ln 0 [A,B] E H U25 rfl bK fun a E=>sv2 E rfl (bP E rfl (E.evs rfl) (v:=.agg #[.string (ByteArray.mk #[47]),.int .i64 0,.int .i64 1]) (by kernel_rfl)) fun a E=>gU (e:=31) (d:=aR) (cs:=[.string (ByteArray.mk #[47]),.int .i64 0,.int .i64 1]) (xs:=[(⟨(ByteArray.mk #[47]),0,1⟩:aI)]) E H (wn rfl) rfl rfl rfl (E.evs rfl) (by kernel_rfl) rfl rfl (fun ok hr=>(Rows.single (d:=aR) (cs:=[.string (ByteArray.mk #[47]),.int .i64 0,.int .i64 1]) (x:=(⟨(ByteArray.mk #[47]),0,1⟩:aI)) wA)) fun f0 w a H E=>have H:=H.thaw (i:=0) rfl;bd hm fun f1 c0 hm=>xc2 E rfl (cf_ 9) (S1 H (t1 C) (t1 D) m0 c0)<|?_
 rintro _ w (⟨rfl,rfl,H⟩ | ⟨K,rfl,L,Z,b0,b1,M,N,O,rfl,H⟩) a E
 ·replace hm:=Hc hm
  refine pr 1 E rfl fun a E=>xp 2 E rfl fun a E=>?_
  obtain ⟨q25,d6,rfl⟩:=H.slform (t1 F)
  refine sv2 E rfl (bP E rfl (E.evs rfl) (v:=.agg #[.int .i64 1,.int .i64 y,.int .i64 0,.int .i64 0,.bool false,(.slice q25 q.length d6),.string (ByteArray.mk #[]),.int .i64 0,.int .i64 0,nS,nS,nS,.int .i64 0,.int .i64 0,.string (ByteArray.mk #[]),.bool false]) (by kernel_rfl)) fun a E=>al2 E H rfl EK fun f2 w a H E=>ss 0 E H rfl M5 rfl fun w H=>nt<|wp_seq<|sp 1 E rfl fun a E=>sv2 E rfl (zG E rfl rfl rfl (v:=.bool true) (by kernel_rfl)) fun a E=>pr 8 E rfl fun a E=>nt<|wp_cond_true (E.eval rfl)<|sq<|pn 2 E rfl fun a E=>wp_ret<|aG<|o1 E rfl<|have H:=H.drs [0,0];?_
  cases hm
  exact ⟨rfl,H.reads (Y1 Y0)⟩
 ·replace hm:=Hd hm
  refine pr 1 E rfl fun a E=>xp 2 E rfl fun a E=>?_
  obtain ⟨q28,G,rfl⟩:=H.slform (t4 F)
  refine sv2 E rfl (bP E rfl (E.evs rfl) (v:=.agg #[.int .i64 1,.int .i64 y,.int .i64 0,.int .i64 0,.bool false,(.slice q28 q.length G),.string (ByteArray.mk #[]),.int .i64 0,.int .i64 0,nS,nS,nS,.int .i64 0,.int .i64 0,.string (ByteArray.mk #[]),.bool false]) (by kernel_rfl)) fun a E=>al2 E H rfl EK fun b2 w a H E=>ss 0 E H rfl M5 rfl fun w H=>nt<|wp_seq<|aK (fun a w=>∃ Q n,Env 100 a [(1,(.slice q28 q.length G)),(3,pt I 0),(7,.bool J),(8,pt L 0),(9,pt b2 0),(32,.bool Q)]∧Sep w (Blk I 25 [A,B]::Blk L 87 [Z,b0,b1,nS,nS,nS,.map (some M),.map (some N),.map (some O)]::Blk b2 37 [.int .i64 1,.int .i64 y,.int .i64 0,.int .i64 0,.bool false,(.slice q28 q.length G),.string (ByteArray.mk #[]),.int .i64 0,.int .i64 0,nS,nS,nS,.int .i64 0,.int .i64 0,.string (ByteArray.mk #[]),.bool false]::cG Tryz.prog 2 (kyI .i64) bY true M []::cG Tryz.prog 2 (kyI .i64) cY true N []::cG Tryz.prog 2 (kyI .i64) bY true O []::Fo) n∧(∀ r,r ∈ rs→r ∈ n)∧rSl aB Z K.1 ∈ n∧rSl aC b0 K.2.1 ∈ n∧rSl aR b1 K.2.2 ∈ n∧gS J x1 q K y Q=some r) ?_ ?_
  ·refine wp_region_lit<|pr 1 E rfl fun a E=>sv2 E rfl (zG E rfl rfl rfl (v:=.bool false) (by kernel_rfl)) fun a E=>pr 1 E rfl fun a E=>bT E (ws E rfl rfl rfl rfl) rfl rfl (B8 (i:=5) (us:=[A,B]) E H rfl rfl rfl rfl U25 rfl bK) fun a E=>bd hm fun e6 W hm=>bM E (ws E rfl rfl rfl rfl) rfl rfl (Mn E rfl rfl ((cf_ 10) _)) (E3 H (t4 C) (t4 D) W)<|?_
   rintro _ w ⟨rfl,H⟩ a E
   refine pr 2 E rfl fun a E=>cs hm (fun m hm=>?_) fun m hm=>?_
   ·exact pk 3 E (kc 29 rfl m) rfl fun a E=>nt<|have H:=H.frs [4,4,4,3,4,5] rfl;⟨_,_,E.to rfl,H,(Y4 Y0),m0,mm1,mm2,hm⟩
   ·refine gv 29 E m rfl (B8 (i:=0) (us:=[.int .i64 1,.int .i64 y,.int .i64 0,.int .i64 0,.bool false,(.slice q28 q.length G),.string (ByteArray.mk #[]),.int .i64 0,.int .i64 0,nS,nS,nS,.int .i64 0,.int .i64 0,.string (ByteArray.mk #[]),.bool false]) E H rfl rfl rfl rfl U37 rfl M5) fun a E=>have H:=H.nilSl aB;have H:=H.nilSl aC;have H:=H.nilSl kS;bd hm fun e7 X hm=>gc 29 E m rfl (cf_ 11) (Bh (x1:=(⟨1,y,0,0,false,q,(ByteArray.mk #[]),0,0,(⟨[],[]⟩:aF),[],(⟨0,0,(ByteArray.mk #[]),false⟩:aP)⟩:aS)) H (t7 F) mm2 mm1 m0 X)<|?_
    rintro _ w ⟨rfl,H⟩ a E
    exact pk 1 E (kc 29 rfl m) rfl fun a E=>nt<|have H:=H.frs [4,4,4,3,4,5] rfl;⟨_,_,E.to rfl,H,(Y7 Y0),mm3,mm4,mm5,hm⟩
  ·clear E H hm
   rintro a w ⟨Q,n,E,H,b,c1,c2,c3,hm⟩
   unfold gS at hm
   refine wif E hm rfl (fun hm=>?_) fun hm=>?_
   ·refine sq<|pn 2 E rfl fun a E=>wp_ret<|aG<|o1 E rfl<|have H:=H.drs [0,0,0,0,0,0];?_
    cases hm
    exact ⟨rfl,H.reads b⟩
   ·refine wp_skip<|aA<|sq<|ln 0 [A,B] E H U25 rfl bK fun a E=>pr 1 E rfl fun a E=>bd hm fun z c4 hm=>xc2 E rfl (cf_ 12) (Ek H (b _ C) (b _ D) (b _ F) c4)<|?_
    rintro _ w ⟨R,S,b3,rfl,H⟩ a E
    refine pr 5 E rfl fun a E=>al2 E H rfl lT fun b4 w a H E=>ss 0 E H rfl bK (bQ H m0 mm1) fun w H=>pr 3 E rfl fun a E=>xp 1 E rfl fun a E=>ln 4 [.int .i64 1,.int .i64 y,.int .i64 0,.int .i64 0,.bool false,(.slice q28 q.length G),.string (ByteArray.mk #[]),.int .i64 0,.int .i64 0,nS,nS,nS,.int .i64 0,.int .i64 0,.string (ByteArray.mk #[]),.bool false] E H U37 rfl M5 fun a E=>have H:=H.nilSl aB;have H:=H.nilSl aC;have H:=H.nilSl kS;have H:=H.nilSl aV;have H:=H.nilSl bB;have H:=H.nilSl aN;have H:=H.frs [4,3,3,3,7,7,7,7] rfl;bd hm fun p c5 hm=>xc2 E rfl (cf_ 13) (lY (x20:=(⟨1,y,0,0,false,q,(ByteArray.mk #[]),0,0,(⟨[],[]⟩:aF),[],(⟨0,0,(ByteArray.mk #[]),false⟩:aP)⟩:aS)) H (t8 c1) (t8 c2) (t8 c3) mm2 mm1 m0 (t8 (b _ F)) mm5 mm4 mm3 (t8 (b _ P)) c5)<|?_
    rintro _ w ⟨b5,d7,d8,d9,e0,e1,b6,b7,e2,e3,e4,e5,rfl,H⟩ a E
    refine al2 E H rfl tI fun b8 w a H E=>ss 0 E H rfl cV (bR H m0 mm1 mm2 mm3 mm4 mm5) fun w H=>nt<|wp_seq<|aK (fun a w=>∃ T l,Env 100 a [(3,pt I 0),(7,.bool J),(8,pt L 0),(10,pt b4 0),(11,b3),(12,.int .i64 z.2.2.1),(13,.int .i64 z.2.2.2),(14,pt b8 0),(59,.bool T)]∧Sep w (Blk I 25 [A,B]::Blk L 87 [b6,b7,e2,e3,e4,e5,.map (some M),.map (some N),.map (some O)]::Blk b4 25 [R,S]::Row 93 aU b3 z.2.1::Blk b8 48 (bJ p.1 b5 d7 d8 d9 e0 e1)::cG Tryz.prog 2 (kyI .i64) bY true M p.2.2.2.2.2.2.2.1::cG Tryz.prog 2 (kyI .i64) cY true N p.2.2.2.2.2.2.2.2.1::cG Tryz.prog 2 (kyI .i64) bY true O p.2.2.2.2.2.2.2.2.2::Fo) l∧(∀ r,r ∈ rs→r ∈ l)∧rSl aB b6 p.2.1 ∈ l∧rSl aC b7 p.2.2.1 ∈ l∧rSl aB R z.1.Nodes ∈ l∧rSl aC S z.1.Turns ∈ l∧rSl aU b5 p.1.Results ∈ l∧dN J z p x1 T=some r) ?_ ?_
    ·refine dw [(0,0),(1,0),(2,0),(3,0),(4,0),(5,0),(6,0),(7,0),(8,0),(9,0),(10,0),(12,0),(11,1),(13,1),(14,0)] [0,7] [0] H (by kernel_rfl) (fun _ _ _ h=>False.elim h.2) fun w W0 hI H=>fn 1 E rfl fun a E=>fb2 E m0 U41 rfl fun a E=>fn 2 E rfl fun a E=>cs hm (fun o hm=>?_) fun o hm=>?_
     ·refine fk 1 E (kc 48 rfl o) rfl fun a E=>fb E rfl (ws' (d:=48) E rfl rfl rfl rfl o) rfl rfl rfl rfl m0 rfl U40 rfl fun a E=>cZ E rfl (ws' (d:=48) E rfl rfl rfl rfl o) rfl rfl (fun w hW=>BU E rfl rfl (BT (DR.ir (gD (.head _))) U40 w hW)) fun a E=>fk 3 E (kc 48 rfl o) rfl fun a E=>cs hm (fun f hm=>?_) fun f hm=>?_
      ·refine fk 1 E (kc 54 rfl f) rfl fun a E=>fbn E [A,B] rfl (ws' (d:=54) E rfl rfl rfl rfl f) rfl rfl rfl rfl mm1 rfl U25 rfl bK fun a E=>bI rfl<|have H:=H.frs [8,8,8,8,8,8,8,7,8] rfl;bd hm fun f3 c6 hm=>gc 54 E f rfl (cf_ 15) (tZ H mm6 (t1 mm6) c6)<|?_
       rintro _ w ⟨f4,e8,rfl,H⟩ a E
       refine nt<|⟨⟨_,_,H,(aM mm1 (aM (t1 mm6) (bC))),(aE mm2 (bG))⟩,bI rfl<|bd hm fun e9 Y hm=>gc 54 E f rfl (cf_ 14) (zU H m0 mm1 (t6 (t8 (t8 (b _ C)))) (t6 (t8 (t8 (b _ D)))) Y)<|?_⟩
       rintro _ w ⟨rfl,H⟩ a E
       refine nt<|⟨⟨_,_,H,(aM mm1 (aM (t1 mm6) (bC))),(aE mm2 (bG))⟩,fk 1 E (kc 54 rfl f) rfl fun a E=>aY<|?_⟩
       clear hI
       exact aA<|have H:=H.drop 8;have H:=H.frs [4,4,4,4,6,6,6,7] rfl;⟨_,_,E.to rfl,H,(Y6 (Y8 (Y8 b))),(t2 mm6),(t3 mm6),(t6 (t8 mm6)),(t7 (t8 mm6)),mm2,hm⟩
      ·refine fk 2 E (kc 54 rfl f) rfl fun a E=>bI rfl<|pk 1 E (kc 54 rfl f) rfl fun a E=>nt<|⟨⟨_,_,H,(aM m0 (aM (t1 mm6) (bC))),(aE m0 (bG))⟩,bI rfl<|pk 1 E (kc 54 rfl f) rfl fun a E=>nt<|⟨⟨_,_,H,(aM m0 (aM (t1 mm6) (bC))),(aE m0 (bG))⟩,fk 1 E (kc 54 rfl f) rfl fun a E=>aY<|?_⟩⟩
       clear hI
       exact aA<|have H:=H.drop 8;have H:=H.frs [4,4,4,3,6,6,6,7] rfl;⟨_,_,E.to rfl,H,(Y4 (Y8 (Y8 b))),mm6,(t1 mm6),(t4 (t8 mm6)),(t5 (t8 mm6)),m0,hm⟩
     ·refine fk 8 E (kc 48 rfl o) rfl fun a E=>bI rfl<|pn 1 E rfl fun a E=>⟨⟨_,_,H,(aM m0 (aM (t1 mm6) (bC))),(aE m0 (bG))⟩,bI rfl<|pn 1 E rfl fun a E=>⟨⟨_,_,H,(aM m0 (aM (t1 mm6) (bC))),(aE m0 (bG))⟩,fn 1 E rfl fun a E=>aY<|?_⟩⟩
      clear hI
      exact aA<|have H:=H.drop 8;have H:=H.frs [4,4,4,3,6,6,6,7] rfl;⟨_,_,E.to rfl,H,(Y4 (Y8 (Y8 b))),mm6,(t1 mm6),(t4 (t8 mm6)),(t5 (t8 mm6)),m0,hm⟩
    ·clear E H hm
     rintro a w ⟨T,l,E,H,c,U,V,c7,c8,c9,hm⟩
     unfold dN at hm
     refine wif E hm rfl (fun hm=>?_) fun hm=>?_
     ·refine sq<|pn 2 E rfl fun a E=>wp_ret<|aG<|o1 E rfl<|have H:=H.drs [0,0,0,0,0,0,0,0];?_
      cases hm
      exact ⟨rfl,H.reads c⟩
     ·refine wp_skip<|aA<|wp_seq<|sq<|pn 2 E rfl fun a E=>wif E hm rfl (fun hm=>?_) fun hm=>?_
      ·refine wp_seq<|dw [(0,0),(1,0),(2,0),(3,0),(4,0),(5,0),(6,0),(7,0),(8,0),(9,0),(10,0),(11,0),(12,0),(13,0),(14,0),(16,0),(15,1),(17,1),(18,0),(19,2)] [0,4] [] H (by kernel_rfl) (fun _ _ _ h=>False.elim h.2) fun w W0 hI H=>fn 2 E rfl fun a E=>cs hm (fun s hm=>?_) fun s hm=>?_
       ·refine fk 1 E (kc 64 rfl s) rfl fun a E=>fb E rfl (ws' (d:=64) E rfl rfl rfl rfl s) rfl rfl rfl rfl mm1 rfl U41 rfl fun a E=>fk 4 E (kc 64 rfl s) rfl fun a E=>cs hm (fun t hm=>?_) fun t hm=>?_
        ·refine fk 1 E (kc 70 rfl t) rfl fun a E=>fb E rfl (ws' (d:=70) E rfl rfl rfl rfl t) rfl rfl rfl rfl mm1 rfl U3 rfl fun a E=>fk 4 E (kc 70 rfl t) rfl fun a E=>cs hm (fun g hm=>?_) fun g hm=>?_
         ·refine fk 1 E (kc 76 rfl g) rfl fun a E=>fbn E [A,B] rfl (ws' (d:=76) E rfl rfl rfl rfl g) rfl rfl rfl rfl m0 rfl U25 rfl bK fun a E=>bI rfl<|have H:=H.frs [7,7,7,7,7,7,6,7] rfl;bd hm fun f5 d0 hm=>gc 76 E g rfl (cf_ 15) (tZ H U V d0)<|?_
          rintro _ w ⟨f6,f7,rfl,H⟩ a E
          refine nt<|⟨sx H [1,4] rfl,bI rfl<|bd hm fun f8 d1 hm=>gc 76 E g rfl (cf_ 14) (zU H m0 mm1 (t2 (c _ C)) (t2 (c _ D)) d1)<|?_⟩
          rintro _ w ⟨rfl,H⟩ a E
          refine nt<|⟨sx H [1,4] rfl,fk 1 E (kc 76 rfl g) rfl fun a E=>bL rfl<|pn 1 E rfl fun a E=>aY<|?_⟩
          clear hI
          refine aA<|wp_ret<|aG<|o1 E rfl<|have H:=H.drs [0,0,0,0,0,0,0,0];?_
          cases hm
          exact ⟨rfl,H.reads (Y2 c)⟩
         ·refine fk 2 E (kc 76 rfl g) rfl fun a E=>bI rfl<|pk 1 E (kc 76 rfl g) rfl fun a E=>nt<|⟨sx H [0,4] rfl,bI rfl<|pk 1 E (kc 76 rfl g) rfl fun a E=>nt<|⟨sx H [0,4] rfl,fk 1 E (kc 76 rfl g) rfl fun a E=>bL rfl<|pn 1 E rfl fun a E=>aY<|?_⟩⟩
          clear hI
          refine aA<|wp_ret<|aG<|o1 E rfl<|have H:=H.drs [0,0,0,0,0,0,0,0];?_
          cases hm
          exact ⟨rfl,H.reads c⟩
        ·refine fk 8 E (kc 70 rfl t) rfl fun a E=>bI rfl<|pn 1 E rfl fun a E=>⟨sx H [0,4] rfl,bI rfl<|pn 1 E rfl fun a E=>⟨sx H [0,4] rfl,fn 1 E rfl fun a E=>bL rfl<|pn 1 E rfl fun a E=>aY<|?_⟩⟩
         clear hI
         refine aA<|wp_ret<|aG<|o1 E rfl<|have H:=H.drs [0,0,0,0,0,0,0,0];?_
         cases hm
         exact ⟨rfl,H.reads c⟩
       ·refine fk 14 E (kc 64 rfl s) rfl fun a E=>bI rfl<|pn 1 E rfl fun a E=>⟨sx H [0,4] rfl,bI rfl<|pn 1 E rfl fun a E=>⟨sx H [0,4] rfl,fn 1 E rfl fun a E=>bL rfl<|pn 1 E rfl fun a E=>aY<|?_⟩⟩
        clear hI
        refine aA<|wp_ret<|aG<|o1 E rfl<|have H:=H.drs [0,0,0,0,0,0,0,0];?_
        cases hm
        exact ⟨rfl,H.reads c⟩
      ·refine wp_skip<|aA<|wp_seq<|dw [(0,0),(1,0),(2,0),(3,0),(4,0),(5,0),(6,0),(7,0),(8,0),(9,0),(10,1),(11,0),(12,0),(13,0),(15,0),(14,1),(16,1),(17,0),(18,2)] [2,4] [] H (by kernel_rfl) (fun _ _ _ h=>False.elim h.2) fun w W0 hI H=>fn 2 E rfl fun a E=>cs hm (fun u hm=>?_) fun u hm=>?_
       ·refine fk 1 E (kc 83 rfl u) rfl fun a E=>fb E rfl (ws' (d:=83) E rfl rfl rfl rfl u) rfl rfl rfl rfl mm1 rfl U41 rfl fun a E=>fk 3 E (kc 83 rfl u) rfl fun a E=>cs hm (fun k hm=>?_) fun k hm=>?_
        ·refine fk 1 E (kc 88 rfl k) rfl fun a E=>fb E rfl (ws' (d:=88) E rfl rfl rfl rfl k) rfl rfl rfl rfl mm1 rfl U40 rfl fun a E=>fk 1 E (kc 88 rfl k) rfl fun a E=>bI rfl<|have H:=H.thaw (i:=3) rfl;bd hm fun f9 d2 hm=>gc 88 E k rfl (cf_ 16) (S9 H (t1 c9) m0 d2)<|?_
         rintro _ w ⟨rfl,H⟩ a E
         refine nt<|⟨sx H [2,3] rfl,fk 2 E (kc 88 rfl k) rfl fun a E=>cs hm (fun j hm=>?_) fun j hm=>?_⟩
         ·refine fk 1 E (kc 94 rfl j) rfl fun a E=>fbn E [R,S] rfl (ws' (d:=94) E rfl rfl rfl rfl j) rfl rfl rfl rfl m0 rfl U25 rfl bK fun a E=>bI rfl<|have H:=H.frs [6,6,6,6,6,5,6] rfl;bd hm fun g0 d3 hm=>gc 94 E j rfl (cf_ 15) (tZ H (t1 U) (t1 V) d3)<|?_
          rintro _ w ⟨g1,g2,rfl,H⟩ a E
          refine nt<|⟨sx H [2,3] rfl,bI rfl<|bd hm fun g3 d4 hm=>gc 94 E j rfl (cf_ 14) (zU H m0 mm1 (t3 c7) (t3 c8) d4)<|?_⟩
          rintro _ w ⟨rfl,H⟩ a E
          refine nt<|⟨sx H [2,3] rfl,fk 1 E (kc 94 rfl j) rfl fun a E=>bL rfl<|pn 1 E rfl fun a E=>aY<|?_⟩
          clear hI
          refine aA<|wp_ret<|o1 E rfl<|have H:=H.drs [0,0,0,0,0,0,0];?_
          cases hm
          exact ⟨rfl,H.reads (Y3 c)⟩
         ·refine fk 2 E (kc 94 rfl j) rfl fun a E=>bI rfl<|pk 1 E (kc 94 rfl j) rfl fun a E=>nt<|⟨sx H [2,3] rfl,bI rfl<|pk 1 E (kc 94 rfl j) rfl fun a E=>nt<|⟨sx H [2,3] rfl,fk 1 E (kc 94 rfl j) rfl fun a E=>bL rfl<|pn 1 E rfl fun a E=>aY<|?_⟩⟩
          clear hI
          refine aA<|wp_ret<|o1 E rfl<|have H:=H.drs [0,0,0,0,0,0,0];?_
          cases hm
          exact ⟨rfl,H.reads (Y1 c)⟩
        ·refine fk 3 E (kc 88 rfl k) rfl fun a E=>bI rfl<|pk 1 E (kc 88 rfl k) rfl fun a E=>nt<|⟨sx H [2,4] rfl,fk 4 E (kc 88 rfl k) rfl fun a E=>bI rfl<|pn 1 E rfl fun a E=>⟨sx H [2,4] rfl,bI rfl<|pn 1 E rfl fun a E=>⟨sx H [2,4] rfl,fn 1 E rfl fun a E=>bL rfl<|pn 1 E rfl fun a E=>aY<|?_⟩⟩⟩
         clear hI
         refine aA<|wp_ret<|o1 E rfl<|have H:=H.drs [0,0,0,0,0,0,0,0];?_
         cases hm
         exact ⟨rfl,H.reads c⟩
       ·refine fk 8 E (kc 83 rfl u) rfl fun a E=>bI rfl<|pn 1 E rfl fun a E=>⟨sx H [2,4] rfl,fn 4 E rfl fun a E=>bI rfl<|pn 1 E rfl fun a E=>⟨sx H [2,4] rfl,bI rfl<|pn 1 E rfl fun a E=>⟨sx H [2,4] rfl,fn 1 E rfl fun a E=>bL rfl<|pn 1 E rfl fun a E=>aY<|?_⟩⟩⟩
        clear hI
        refine aA<|wp_ret<|o1 E rfl<|have H:=H.drs [0,0,0,0,0,0,0,0];?_
        cases hm
        exact ⟨rfl,H.reads c⟩

end Go.Cb
