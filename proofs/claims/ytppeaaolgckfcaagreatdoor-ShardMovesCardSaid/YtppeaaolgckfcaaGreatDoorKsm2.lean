/- Functions of the program, walked: each comes to its plain function. -/
import Derived.Test.YtppeaaolgckfcaaGreatDoorKsm1
import Derived.Test.YtppeaaolgckfcaaGreatDoorExsm
set_option linter.unusedVariables false
set_option linter.unusedSimpArgs false
set_option maxRecDepth 20000
set_option maxHeartbeats 1000000
namespace Go.Cb
open Go.Proofs Go.RowKit Tryz
variable {w:WD} {Fo:List Ob} {rs:List Rp}

def E9(x1:Int):Option Int:=
  some (IntKind.i64.wrap (x1+1))
theorem Pb{x1:Int}(H:Sep w (Fo) rs){r:Int}(m:E9 x1=some r) :
    Cf 258 [i_ x1] w λv w'=>.int .i64 r=v/\Sep w' (Fo) (rs):=ent func258 z ntmps258 z z λa E=>sp 1 E z λa E=>nx<|pn 3 E z λa E=>wR<|o1 E z<|d_ m z (H.reads Y0)

def tH(b:aQ)(c:cN):Option Dq:=
  some (b.Next,c)
def pC(b:Int×Bool)(c:cN):Option Dq:=
  (idx c b.1).bind λf=>(E9 f.Next).bind λd=>(idx c b.1).bind λe=>(idx (c.set b.1.toNat ({ e with Next:=d }:aQ)) b.1).bind λg=>if (g.Next == 0)=true then ((ck (0 <= b.1/\b.1 < (c.set b.1.toNat ({ e with Next:=d }:aQ)).length/\IntKind.i64.wrap (b.1+1)=b.1+1)).bind λi=>tH f ((c.set b.1.toNat ({ e with Next:=d }:aQ)).eraseIdx b.1.toNat)) else (tH f (c.set b.1.toNat ({ e with Next:=d }:aQ)))
def xM(c:List aQ)(d:BY):Option Dq:=
  (cU c d).bind λb=>if (!b.2)=true then ((ck (0 <= b.1/\b.1 <= c.length/\c.length <= 1000000)).bind λe=>pC b (c.take b.1.toNat ++ (⟨d,0⟩:aQ)::c.drop b.1.toNat)) else (pC b c)
theorem Mc{s:Nat}{O j l n o p q:VL}{P:List aQ}{b:BY}(H:Sep w (Blk s 240 [j,O,l,n,o,p,q]::Row 71 aC O P::Fo) rs){r:Int×cN}(m:xM P b=some r) :
    Cf 253 [pt s 0,.string b,.func (.func 258) #[] #[]] w λv w'=>∃ Q,i_ r.1=v/\Sep w' (Blk s 240 [j,Q,l,n,o,p,q]::Row 71 aC Q r.2::Fo) (rs):=by
 refine ent func253 z ntmps253 z z λa E=>sp 1 E z λa E=>xp 4 E z λa E=>lb2 E H 0 U23 z λa E=>pr 1 E z λa E=>have H:=H.frs [0,1] z;bd m λG J m=>xk2 E z (cf_ 301) (iZ H J) λw H a E=>pn 5 E z λa E=>aN (λa w=>∃ t u,Jn 80 a w [(0,pt s 0),(2,.func (.func 258) #[] #[]),(7,i_ G.1)] (Blk s 240 [j,t,l,n,o,p,q]::Row 71 aC t u::Fo) rs (pC G u=some r)) ?_ ?_
 ·refine sq<|pn 2 E z λa E=>wif E m z (λm=>?_) λm=>wK<|aA<|have H:=H.frs [0,1] z;X3 ⟨E.to z,H,Y0,m⟩;refine wG<|pr 5 E z λa E=>lb2 E H 1 U23 z λa E=>pr 2 E z λa E=>sv2 E z (cP E z (E.evs z) (v:=.agg #[.string b,i_ 0]) (by kernel_rfl)) λa E=>pL (e:=71) (d:=aC) (cs:=[.string b,i_ 0]) (xs:=[(⟨b,0⟩:aQ)]) E H (wn z) z z z (E.evs z) (by kernel_rfl) z z (λok hr=>(Rows.single (d:=aC) (cs:=[.string b,i_ 0]) (x:=(⟨b,0⟩:aQ)) uX)) λV w a H E=>bk m λK m=>xc2 E z (cf_ 303) (Tn.insert_a (ix:=1) (iu:=0) H z z (by decide) K) λW w H a E=>pr 3 E z λa E=>?_;obtain ⟨q55,X,rfl⟩:=H.rowform (i:=1) z;exact ss 2 E H z Ei z λw H=>nt<|have H:=H.drop 0;have H:=H.frs [0,1] z;X3 ⟨E.to z,H,Y0,m⟩
 ·clear E H m;rintro a w ⟨t,u,T,E,H,y,m⟩;refine sp 4 E z λa E=>lb2 E H 0 U23 z λa E=>pr 1 E z λa E=>bd m λI c m=>?_;obtain ⟨Y,Z,A⟩:=H.rowformNE (i:=1) z c;refine sv2 E z (dS (d:=aC) E A z z z z U23 nU c) λa E=>pr 1 E z λa E=>sv2 E z (tV (d:=aC) (i:=1) (k:=1) E H eE A z z z c z U2 z) λa E=>pn 1 E z λa E=>aN (λa w=>∃ B C,Jn 80 a w [(9,i_ I.Next)] (Blk s 240 [j,B,l,n,o,p,q]::Row 71 aC B C::Fo) rs (tH I C=some r)) ?_ ?_
  ·refine wS<|dz [0,0,0,0,0,0,0,0,1,2,2,2] [0] H λw W0 hI H=>fn 4 E z λa E=>fb2 E m0 U23 z λa E=>fn 3 E z λa E=>bO z<|bd m λR L m=>bP E (wn z) z z (bT E z z z ((cf_ 258) _)) (Pb H L)<|op0 λw H a E=>nt<|⟨sx H [0] z,bJ z<|bd m λS f m=>?_⟩
   obtain ⟨b0,b1,D⟩:=H.rowformNE (i:=1) z f;refine sv2 E z (dS (d:=aC) E D z z z z U23 nU f) λa E=>nt<|bJ z<|pn 1 E z λa E=>bJ z<|Cw (d:=aC) (i:=1) (k:=1) (z':=({ S with Next:=R }:aQ)) E H eE (wn z) z D z z z z z z f z z sz2 λw H=>nt<|bF<|?_;clear hI;refine aA<|sp 4 E z λa E=>lb2 E H 0 U23 z λa E=>pr 1 E z λa E=>bd m λb2 g m=>?_;obtain ⟨b3,b4,F⟩:=H.rowformNE (i:=1) z g;refine sv2 E z (dS (d:=aC) E F z z z z U23 nU g) λa E=>pr 1 E z λa E=>sv2 E z (tV (d:=aC) (i:=1) (k:=1) E H eE F z z z g z U2 z) λa E=>pn 1 E z λa E=>wif E m z (λm=>?_) λm=>wK<|aA<|X3 ⟨E.to z,H,y,m⟩;refine wG<|pr 5 E z λa E=>lb2 E H 0 U23 z λa E=>pr 3 E z λa E=>bk m λM m=>xc2 E z (cf_ 304) (Tn.delete_c (ix:=1) H z M) λb5 w H a E=>pr 3 E z λa E=>?_;obtain ⟨q49,b6,rfl⟩:=H.rowform (i:=1) z;exact ss 0 E H z Ei z λw H=>nt<|X3 ⟨E.to z,H,y,m⟩
  ·clear E H m;rintro a w ⟨B,C,U,E,H,N,m⟩;refine sq<|pn 2 E z λa E=>wR<|o1 E z<|?_;cases m;exact ⟨_,z,H.reads N⟩

def xN(b:Int×Bool)(c:List aH)(d:BY)(e:bL)(i:Int)(j:BY)(k:Int)(f:List BY)(g:cN):Option IZ:=
  (ck (0 <= b.1/\b.1 <= c.length/\c.length <= 1000000)).bind λl=>some (c.take b.1.toNat ++ (⟨d,e.Data,0,0,e.Owner⟩:aH)::c.drop b.1.toNat,g,i,d,j,k,f)
def tI(f:List aH)(b:bL)(i:Int)(j:BY)(k:Int)(g:List BY)(l:BY×Bool)(c:BY)(d:cN):Option IZ:=
  (oM f c).bind λe=>if e.2=true then ((iM 61).bind λm=>some (f,d,m,(ByteArray.mk #[]),(ByteArray.mk #[]),0,[])) else (if b.Turns=true then ((xM d l.1).bind λn=>xN e f c b i j k g n.2) else (xN e f c b i j k g d))
def B5(g:List aH)(i:List aQ)(j:Int)(k:BY)(l:Int)(e:List BY)(b:bL):Option IZ:=
  (uZ b.Path).bind λc=>if b.Turns=true then ((xL i c.1).bind λd=>(D6 b.Path).bind λm=>(B3 m d.1).bind λf=>(L9 c.1 f.1).bind λn=>if (!f.2)=true then ((iM 66).bind λo=>some (g,d.2,o,(ByteArray.mk #[]),(ByteArray.mk #[]),0,[])) else (tI g b j k l e c n.1 d.2)) else (tI g b j k l e c b.Path i)
theorem Tc{j:Nat}{n S f t:VL}{o:List aH}{T:List aQ}{p q:Int}{s:BY}{g:List BY}{b:bL}(H:Sep w (Blk j 240 [n,S,i_ p,t,.string s,i_ q,f]::Row 80 aB n o::Row 71 aC S T::Row 9 kS f g::Fo) rs)(F:Z2 Tryz.prog ∈ rs){r:cT×cN×Int×BY×BY×Int×eC}(m:B5 o T p s q g b=some r) :
    Cf 185 [pt j 0,.agg (cI b).toArray] w λv w'=>∃ U V W,.tuple #[]=v/\Sep w' (Blk j 240 [U,V,i_ r.2.2.1,.string r.2.2.2.1,.string r.2.2.2.2.1,i_ r.2.2.2.2.2.1,W]::Row 80 aB U r.1::Row 71 aC V r.2.1::Row 9 kS W r.2.2.2.2.2.2::Fo) (rs):=by
 refine ent func185 z ntmps185 z z λa E=>sq<|bx E H z λl w a H E=>xp 1 E z λa E=>lb2 E H 0 U9 z λa E=>pr 1 E z λa E=>xp 1 E z λa E=>lb2 E H 0 U9 z λa E=>bd m λC G m=>xk2 E z (cf_ 135) (W4 H G) λw H a E=>pn 5 E z λa E=>aN (λa w=>∃ u c y,Jn 80 a w [(0,pt j 0),(3,pt l 0),(4,.string c),(5,.string C.1)] (Blk j 240 [n,u,i_ p,t,.string s,i_ q,f]::Blk l 144 (cI b)::Row 80 aB n o::Row 71 aC u y::Row 9 kS f g::Fo) rs (tI o b p s q g C c y=some r)) ?_ ?_
 ·refine sp 1 E z λa E=>lb2 E H 0 U4 z λa E=>nt<|wif E m z (λm=>?_) λm=>wK<|aA<|have H:=H.frs [4,4,4,3,4] z;X4 ⟨E.to z,H,Y0,m⟩;refine sp 2 E z λa E=>have H:=H.frs [4,3,2,4,4] z;bd m λZ I m=>xc2 E z (cf_ 253) (Mb H I)<|op1 λb0 w H a E=>pr 1 E z λa E=>xp 1 E z λa E=>lb2 E H 2 U9 z λa E=>bd m λb1 J m=>xk2 E z (cf_ 256) (Gi H J) λw H a E=>pr 1 E z λa E=>bd m λb2 K m=>xk2 E z (cf_ 255) (Sy H F K) λw H a E=>pr 5 E z λa E=>xp 2 E z λa E=>bd m λb3 L m=>xk2 E z (cf_ 176) (Pn H L) λw H a E=>pr 4 E z λa E=>nx<|pn 2 E z λa E=>wif E m z (λm=>?_) λm=>wK<|aA<|have H:=H.frs [4,2,4,4,4] z;X4 ⟨E.to z,H,Y0,m⟩;refine sp 1 E z λa E=>bd m λb4 M m=>xk2 E z (cf_ 252) (tA H M) λw H a E=>nt<|wR<|aJ<|Rl E z<|have H:=H.nilRow 9 kS;have H:=H.drs [3,4];have H:=H.frs [0,2,3,3] z;?_;cases m;exact X3 ⟨z,H.reads Y0⟩
 ·clear E H m;rintro a w ⟨u,c,y,X,E,H,k,m⟩;refine sp 2 E z λa E=>have H:=H.frs [4,4,3,4,4] z;bd m λD N m=>xk2 E z (cf_ 257) (V1 H N) λw H a E=>pn 5 E z λa E=>wS<|sq<|pn 1 E z λa E=>wif E m z (λm=>?_) λm=>?_
  ·refine sp 1 E z λa E=>bd m λb5 O m=>xk2 E z (cf_ 252) (tA H O) λw H a E=>nt<|wR<|aJ<|Rl E z<|have H:=H.nilRow 9 kS;have H:=H.drs [3,4];have H:=H.frs [0,3,3,3] z;?_;cases m;exact X3 ⟨z,H.reads k⟩
  ·refine wK<|aA<|aN (λa w=>∃ A B,Jn 80 a w [(0,pt j 0),(3,pt l 0),(4,.string c),(10,i_ D.1)] (Blk j 240 [n,A,i_ p,t,.string s,i_ q,f]::Blk l 144 (cI b)::Row 80 aB n o::Row 71 aC A B::Row 9 kS f g::Fo) rs (xN D o c b p s q g B=some r)) (sp 1 E z λa E=>lb2 E H 2 U4 z λa E=>nt<|wif E m z (λm=>wG<|pr 2 E z λa E=>have H:=H.frs [4,3,3,4,4] z;bd m λb6 P m=>xc2 E z (cf_ 253) (Mc H P)<|op1 λb7 w H a E=>nt<|have H:=H.frs [4,2,3,4,4] z;X3 ⟨E.to z,H,k,m⟩) λm=>wK<|aA<|have H:=H.frs [4,4,3,4,4] z;X3 ⟨E.to z,H,k,m⟩) ?_;clear E H m;rintro a w ⟨A,B,Y,E,H,Q,m⟩;refine wS<|dz [0,0,0,0,0,0,0,0,0,0,0,0,0,1,1,2,2,2,2] [0,1] H λw W0 hI H=>fn 5 E z λa E=>fb2 E m0 U22 z λa E=>fn 3 E z λa E=>fb2 E mm1 U9 z λa E=>fn 1 E z λa E=>fb2 E mm1 U2 z λa E=>fv E z (λw hW=>(cP E z (E.evs z) (v:=.agg #[.string c,.string b.Data,i_ 0,i_ 0,i_ b.Owner]) (by kernel_rfl))) λa E=>bO z<|pL (e:=80) (d:=aB) (cs:=[.string c,.string b.Data,i_ 0,i_ 0,i_ b.Owner]) (xs:=[(⟨c,b.Data,0,0,b.Owner⟩:aH)]) E H (wn z) z z z (E.evs z) (by kernel_rfl) z z (λok hr=>(Rows.single (d:=aB) (cs:=[.string c,.string b.Data,i_ 0,i_ 0,i_ b.Owner]) (x:=(⟨c,b.Data,0,0,b.Owner⟩:aH)) yK)) λb8 w a H E=>nt<|⟨sx H [1,2] z,bO z<|bk m λR m=>xc2 E z (cf_ 259) (insert_a (ix:=3) (iu:=0) H z z (by decide) R) λb9 w H a E=>nt<|⟨sx H [1,2] z,bJ z<|pn 1 E z λa E=>bJ z<|pn 1 E z λa E=>bJ z<|pn 1 E z λa E=>bJ z<|?_⟩⟩
   obtain ⟨q35,c0,rfl⟩:=H.rowform (i:=3) z;refine ss 1 E H z Lq z λw H=>nt<|bF<|?_;clear hI;refine aA<|wG<|pr 5 E z λa E=>ss 1 E H z sz9 z λw H=>wN<|yJ E z<|have H:=H.drs [0,1];?_;cases m;exact X3 ⟨z,H.reads Q⟩

def mM(x1:aG)(g:cT)(i:cN)(b:Int)(c:BY)(d:BY)(e:Int)(f:eC):Option (aG×dA):=
  if (b != 0)=true then (some (x1,(⟨b,c,d,e,f⟩:dA))) else (some ((⟨g,i⟩:aG),(⟨b,c,d,e,f⟩:dA)))
def P7(x1:aG)(x4:bL)(l:Bool):Option (aG×dA):=
  if l=true then (some ((⟨[],[]⟩:aG),(⟨1,(ByteArray.mk #[]),(ByteArray.mk #[]),0,[]⟩:dA))) else ((ck (x1.Nodes.length <= LIM)).bind λn=>(ck (x1.Turns.length <= LIM)).bind λo=>if (x4.Kind == 1)=true then ((yV x1.Nodes 0 (ByteArray.mk #[]) (ByteArray.mk #[]) 0 [] x4).bind λf=>mM x1 x1.Nodes x1.Turns f.1 f.2.1 f.2.2.1 f.2.2.2.1 f.2.2.2.2) else (if (x4.Kind == 2)=true then ((B5 x1.Nodes x1.Turns 0 (ByteArray.mk #[]) 0 [] x4).bind λb=>mM x1 b.1 b.2.1 b.2.2.1 b.2.2.2.1 b.2.2.2.2.1 b.2.2.2.2.2.1 b.2.2.2.2.2.2) else (if (x4.Kind == 3)=true then ((xK x1.Nodes 0 (ByteArray.mk #[]) (ByteArray.mk #[]) 0 [] x4).bind λc=>mM x1 c.1 x1.Turns c.2.1 c.2.2.1 c.2.2.2.1 c.2.2.2.2.1 c.2.2.2.2.2) else (if (x4.Kind == 4)=true then ((E7 x1.Nodes x1.Turns 0 (ByteArray.mk #[]) (ByteArray.mk #[]) 0 [] x4).bind λd=>mM x1 x1.Nodes d.1 d.2.1 d.2.2.1 d.2.2.2.1 d.2.2.2.2.1 d.2.2.2.2.2) else (if (x4.Kind == 5)=true then ((yT x1.Nodes 0 (ByteArray.mk #[]) (ByteArray.mk #[]) 0 [] x4).bind λe=>mM x1 e.1 x1.Turns e.2.1 e.2.2.1 e.2.2.2.1 e.2.2.2.2.1 e.2.2.2.2.2) else (if (x4.Kind == 6)=true then ((zS x1.Nodes 0 (ByteArray.mk #[]) (ByteArray.mk #[]) 0 [] x4).bind λg=>mM x1 x1.Nodes x1.Turns g.1 g.2.1 g.2.2.1 g.2.2.2.1 g.2.2.2.2) else (if (x4.Kind == 7)=true then ((zT x1.Nodes 0 (ByteArray.mk #[]) (ByteArray.mk #[]) 0 [] x4).bind λi=>mM x1 x1.Nodes x1.Turns i.1 i.2.1 i.2.2.1 i.2.2.2.1 i.2.2.2.2) else (if (x4.Kind == 8)=true then ((B4 x1.Nodes 0 (ByteArray.mk #[]) (ByteArray.mk #[]) 0 [] x4).bind λj=>mM x1 x1.Nodes x1.Turns j.1 j.2.1 j.2.2.1 j.2.2.2.1 j.2.2.2.2) else (if (x4.Kind == 9)=true then ((yW x1.Nodes [] x4).bind λm=>mM x1 x1.Nodes x1.Turns 0 (ByteArray.mk #[]) (ByteArray.mk #[]) 0 m) else (if (x4.Kind == 10)=true then ((yU x1.Nodes [] x4).bind λk=>mM x1 k.1 x1.Turns 0 (ByteArray.mk #[]) (ByteArray.mk #[]) 0 k.2) else none))))))))))
def Cz(x1:aG)(x4:bL):Option (aG×dA):=
  (sN x1).bind λb=>if (!b)=true then (P7 x1 x4 true) else ((S7 x4).bind λc=>P7 x1 x4 (!c))
theorem GE{x1:aG}{o p:VL}{x4:bL}(H:Sep w (Fo) rs)(q:rSl aB o x1.Nodes ∈ rs)(s:rSl aC p x1.Turns ∈ rs)(b8:Z2 Tryz.prog ∈ rs){r:aG×dA}(m:Cz x1 x4=some r) :
    Cf 125 [.agg #[o,p],.agg (cI x4).toArray] w λv w'=>∃ b9 c0 c1,.tuple #[.agg #[b9,c0],.agg (Ar r.2 c1).toArray]=v/\Sep w' (Fo) (rSl aB b9 r.1.Nodes::rSl aC c0 r.1.Turns::rSl kS c1 r.2.Names::rs):=by
 refine ent func125 z ntmps125 z z λa E=>sq<|bx E H z λP w a H E=>bx E H z λc2 w a H E=>al2 E H z dG λt w a H E=>al2 E H z LF λu w a H E=>nx<|sv2 E z (cP E z (E.evs z) (v:=.agg #[.nilFunc,.func (.func 184) #[] #[],.func (.func 185) #[] #[],.func (.func 186) #[] #[],.func (.func 187) #[] #[],.func (.func 188) #[] #[],.func (.func 189) #[] #[],.func (.func 190) #[] #[],.func (.func 191) #[] #[],.func (.func 192) #[] #[],.func (.func 193) #[] #[]]) (by kernel_rfl)) λa E=>al2 E H z UW λQ w a H E=>ss 0 E H z UX z λw H=>nt<|wS<|aN (λa w=>∃ C,Jn 54 a w [(2,pt P 0),(3,pt c2 0),(4,pt t 0),(5,pt u 0),(6,pt Q 0),(16,.bool C)] (Blk P 25 [o,p]::Blk c2 144 (cI x4)::Blk t 25 [nS,nS]::Blk u 154 Lm::Blk Q 238 [.nilFunc,.func (.func 184) #[] #[],.func (.func 185) #[] #[],.func (.func 186) #[] #[],.func (.func 187) #[] #[],.func (.func 188) #[] #[],.func (.func 189) #[] #[],.func (.func 190) #[] #[],.func (.func 191) #[] #[],.func (.func 192) #[] #[],.func (.func 193) #[] #[]]::Fo) rs (P7 x1 x4 C=some r)) (wG<|ln 4 [o,p] E H U25 z bN λa E=>bd m λc9 U m=>xk2 E z (cf_ 20) (Ax H q s U) λw H a E=>pr 2 E z λa E=>cs m (λd m=>pk 4 E (kc 12 z d) z λa E=>nt<|have H:=H.frs [0,1,2,3,4] z;⟨_,_,E.to z,H,Y0,m⟩) λd m=>gv 12 E d z (zN (i:=3) (us:=(cI x4)) E H z z z z sX z iX) λa E=>bd m λd0 V m=>gc 12 E d z (cf_ 89) (Sz H V)<|op0 λw H a E=>pk 2 E (kc 12 z d) z λa E=>nt<|have H:=H.frs [0,1,2,3,4] z;⟨_,_,E.to z,H,Y0,m⟩) ?_;clear E H m;rintro a w ⟨C,c7,E,H,b,m⟩;refine wif E m z (λm=>?_) λm=>?_
 ·refine sq<|sv2 E z (cP E z (E.evs z) (v:=.agg #[nS,nS]) (by kernel_rfl)) λa E=>sv2 E z (cP E z (E.evs z) (v:=.agg #[i_ 1,.string (ByteArray.mk #[]),.string (ByteArray.mk #[]),i_ 0,nS]) (by kernel_rfl)) λa E=>ss 2 E H z bN z λw H=>ss 3 E H z A9 z λw H=>nt<|wR<|aJ<|r8 E z (oO (i:=2) (us:=[nS,nS]) H z z z U25 z bN) (oO (i:=3) (us:=[i_ 1,.string (ByteArray.mk #[]),.string (ByteArray.mk #[]),i_ 0,nS]) H z z z Lr z A9)<|have H:=H.nilSl aB;have H:=H.nilSl aC;have H:=H.nilSl kS;have H:=H.drs [0,0,0,0,0];?_;cases m;exact X3 ⟨z,H.rdx [2,1,0] z (λr hr=>(t3 (b r hr)))⟩
 ·refine wK<|aA<|wS<|dw [(0,0),(1,0),(3,0),(4,0),(2,1),(5,1),(6,0),(7,0),(8,1),(9,2)] [0] [] H (by kernel_rfl) (λ_ _ _ h=>False.elim h.2) λw W0 hI H=>fn 1 E z λa E=>fb2 E m0 U22 z λa E=>fn 1 E z λa E=>fb2 E m0 U23 z λa E=>bO z<|bk m λW m=>xc2 E z (cf_ 37) (wJ H (b _ q) W) λd1 w H a E=>nt<|⟨sx H [1] z,bO z<|bk m λX m=>xc2 E z (cf_ 38) (wL H (b _ s) X) λd2 w H a E=>nt<|⟨sx H [2] z,?_⟩⟩
  obtain ⟨q22,R,rfl⟩:=H.rowform (i:=1) z;obtain ⟨q24,S,rfl⟩:=H.rowform (i:=0) z;refine fv E z (λw hW=>(cP E z (E.evs z) (v:=.agg #[(.slice q22 x1.Nodes.length R),(.slice q24 x1.Turns.length S)]) (by kernel_rfl))) λa E=>fv E z (λw hW=>(cP E z (E.evs z) (v:=.agg #[(.slice q22 x1.Nodes.length R),(.slice q24 x1.Turns.length S),i_ 0,.string (ByteArray.mk #[]),.string (ByteArray.mk #[]),i_ 0,nS]) (by kernel_rfl))) λa E=>bO z<|bx E H z λT w a H E=>nt<|⟨sx H [3] z,bJ z<|pn 1 E z λa E=>bF<|?_⟩
  clear hI;refine aA<|wS<|aN (λa w=>∃ x y l A B e f g k n,Jn 54 a w [(2,pt P 0),(4,pt t 0),(5,pt u 0),(7,pt T 0)] (Blk P 25 [o,p]::Blk t 25 [nS,nS]::Blk u 154 Lm::Blk T 240 [x,y,i_ e,.string f,.string g,i_ k,l]::Row 80 aB x A::Row 71 aC y B::Row 9 kS l n::Fo) rs (mM x1 A B e f g k n=some r)) ?_ ?_
  ·refine dz [0,0,0,0,0,0,1] [4,7] H λw W0 hI H=>fn 1 E z λa E=>fb2 E m0 U3 z λa E=>cs m (λD m=>?_) λD m=>?_
   ·refine fv E z (λw hW=>xY (j:=1) E z z z D z Gd Cm) λa E=>fb2 E mm1 Ge z λa E=>fn 1 E z λa E=>fbn E (cI x4) z (wn z) z z z z m0 z sX z iX λa E=>bO z<|have H:=H.nilRow 9 kS;have H:=H.frs [8,8,8,8,8,7,6,8,8] z;bd m λd3 Y m=>bP E (wn z) z z (bT E z z z ((cf_ 184) _)) (Ox H Y)<|op1 λd4 w H a E=>nt<|⟨⟨_,_,H,(aE mm5 (aE (t2 mm6) (aM))),(aP)⟩,bF<|?_⟩
    clear hI;exact aA<|have H:=H.drs [5,7];have H:=H.frs [2,3,3,3,6,6,6] z;X11 ⟨E.to z,H,b,m⟩
   refine cs m (λF m=>?_) λF m=>?_
   ·refine fv E z (λw hW=>xY (j:=2) E z z z F z Gd Cm) λa E=>fb2 E mm1 Ge z λa E=>fn 1 E z λa E=>fbn E (cI x4) z (wn z) z z z z m0 z sX z iX λa E=>bO z<|have H:=H.nilRow 9 kS;have H:=H.frs [8,8,8,8,8,5,7,8,8] z;bd m λd5 Z m=>bP E (wn z) z z (bT E z z z ((cf_ 185) _)) (Tc H (b _ b8) Z)<|op3 λd6 d7 d8 w H a E=>nt<|⟨⟨_,_,H,(aE mm5 (aE (t2 mm6) (aM))),(aP)⟩,bF<|?_⟩
    clear hI;exact aA<|have H:=H.drs [5,7];have H:=H.frs [3,3,3,3,6,6,6] z;X11 ⟨E.to z,H,b,m⟩
   refine cs m (λG m=>?_) λG m=>?_
   ·refine fv E z (λw hW=>xY (j:=3) E z z z G z Gd Cm) λa E=>fb2 E mm1 Ge z λa E=>fn 1 E z λa E=>fbn E (cI x4) z (wn z) z z z z m0 z sX z iX λa E=>bO z<|have H:=H.nilRow 9 kS;have H:=H.frs [8,8,8,8,8,7,6,8,8] z;bd m λd9 b0 m=>bP E (wn z) z z (bT E z z z ((cf_ 186) _)) (Ma H b0)<|op2 λe0 e1 w H a E=>nt<|⟨⟨_,_,H,(aE mm5 (aE (t2 mm6) (aM))),(aP)⟩,bF<|?_⟩
    clear hI;exact aA<|have H:=H.drs [5,7];have H:=H.frs [2,3,3,3,6,6,6] z;X11 ⟨E.to z,H,b,m⟩
   refine cs m (λI m=>?_) λI m=>?_
   ·refine fv E z (λw hW=>xY (j:=4) E z z z I z Gd Cm) λa E=>fb2 E mm1 Ge z λa E=>fn 1 E z λa E=>fbn E (cI x4) z (wn z) z z z z m0 z sX z iX λa E=>bO z<|have H:=H.nilRow 9 kS;have H:=H.frs [8,8,8,8,8,5,7,8,8] z;bd m λe2 b1 m=>bP E (wn z) z z (bT E z z z ((cf_ 187) _)) (Oz H b1)<|op2 λe3 e4 w H a E=>nt<|⟨⟨_,_,H,(aE mm5 (aE (t2 mm6) (aM))),(aP)⟩,bF<|?_⟩
    clear hI;exact aA<|have H:=H.drs [5,7];have H:=H.frs [3,3,3,3,6,6,6] z;X11 ⟨E.to z,H,b,m⟩
   refine cs m (λJ m=>?_) λJ m=>?_
   ·refine fv E z (λw hW=>xY (j:=5) E z z z J z Gd Cm) λa E=>fb2 E mm1 Ge z λa E=>fn 1 E z λa E=>fbn E (cI x4) z (wn z) z z z z m0 z sX z iX λa E=>bO z<|have H:=H.nilRow 9 kS;have H:=H.frs [8,8,8,8,8,7,6,8,8] z;bd m λe5 b2 m=>bP E (wn z) z z (bT E z z z ((cf_ 188) _)) (Ov H b2)<|op1 λe6 w H a E=>nt<|⟨⟨_,_,H,(aE mm5 (aE (t2 mm6) (aM))),(aP)⟩,bF<|?_⟩
    clear hI;exact aA<|have H:=H.drs [5,7];have H:=H.frs [2,3,3,3,6,6,6] z;X11 ⟨E.to z,H,b,m⟩
   refine cs m (λK m=>?_) λK m=>?_
   ·refine fv E z (λw hW=>xY (j:=6) E z z z K z Gd Cm) λa E=>fb2 E mm1 Ge z λa E=>fn 1 E z λa E=>fbn E (cI x4) z (wn z) z z z z m0 z sX z iX λa E=>bO z<|have H:=H.nilRow 9 kS;have H:=H.frs [8,8,8,8,8,7,6,8,8] z;bd m λe7 b3 m=>bP E (wn z) z z (bT E z z z ((cf_ 189) _)) (Qs H b3)<|op1 λe8 w H a E=>nt<|⟨⟨_,_,H,(aE mm5 (aE (t2 mm6) (aM))),(aP)⟩,bF<|?_⟩
    clear hI;exact aA<|have H:=H.drs [5,7];have H:=H.frs [2,3,3,3,6,6,6] z;X11 ⟨E.to z,H,b,m⟩
   refine cs m (λL m=>?_) λL m=>?_
   ·refine fv E z (λw hW=>xY (j:=7) E z z z L z Gd Cm) λa E=>fb2 E mm1 Ge z λa E=>fn 1 E z λa E=>fbn E (cI x4) z (wn z) z z z z m0 z sX z iX λa E=>bO z<|have H:=H.nilRow 9 kS;have H:=H.frs [8,8,8,8,8,7,6,8,8] z;bd m λe9 b4 m=>bP E (wn z) z z (bT E z z z ((cf_ 190) _)) (Qt H b4)<|op1 λf0 w H a E=>nt<|⟨⟨_,_,H,(aE mm5 (aE (t2 mm6) (aM))),(aP)⟩,bF<|?_⟩
    clear hI;exact aA<|have H:=H.drs [5,7];have H:=H.frs [2,3,3,3,6,6,6] z;X11 ⟨E.to z,H,b,m⟩
   refine cs m (λM m=>?_) λM m=>?_
   ·refine fv E z (λw hW=>xY (j:=8) E z z z M z Gd Cm) λa E=>fb2 E mm1 Ge z λa E=>fn 1 E z λa E=>fbn E (cI x4) z (wn z) z z z z m0 z sX z iX λa E=>bO z<|have H:=H.nilRow 9 kS;have H:=H.frs [8,8,8,8,8,7,6,8,8] z;bd m λf1 b5 m=>bP E (wn z) z z (bT E z z z ((cf_ 191) _)) (Ta H b5)<|op1 λf2 w H a E=>nt<|⟨⟨_,_,H,(aE mm5 (aE (t2 mm6) (aM))),(aP)⟩,bF<|?_⟩
    clear hI;exact aA<|have H:=H.drs [5,7];have H:=H.frs [2,3,3,3,6,6,6] z;X11 ⟨E.to z,H,b,m⟩
   refine cs m (λN m=>?_) λN m=>?_
   ·refine fv E z (λw hW=>xY (j:=9) E z z z N z Gd Cm) λa E=>fb2 E mm1 Ge z λa E=>fn 1 E z λa E=>fbn E (cI x4) z (wn z) z z z z m0 z sX z iX λa E=>bO z<|have H:=H.nilRow 9 kS;have H:=H.frs [8,8,8,8,8,7,6,8,8] z;bd m λf3 b6 m=>bP E (wn z) z z (bT E z z z ((cf_ 192) _)) (Oy H b6)<|op1 λf4 w H a E=>nt<|⟨⟨_,_,H,(aE mm5 (aE (t2 mm6) (aM))),(aP)⟩,bF<|?_⟩
    clear hI;exact aA<|have H:=H.drs [5,7];have H:=H.frs [2,3,3,3,6,6,6] z;X11 ⟨E.to z,H,b,m⟩
   refine cs m (λO m=>?_) λO m=>(bH m z).elim;refine fv E z (λw hW=>xY (j:=10) E z z z O z Gd Cm) λa E=>fb2 E mm1 Ge z λa E=>fn 1 E z λa E=>fbn E (cI x4) z (wn z) z z z z m0 z sX z iX λa E=>bO z<|have H:=H.nilRow 9 kS;have H:=H.frs [8,8,8,8,8,7,6,8,8] z;bd m λf5 b7 m=>bP E (wn z) z z (bT E z z z ((cf_ 193) _)) (Ow H b7)<|op2 λf6 f7 w H a E=>nt<|⟨⟨_,_,H,(aE mm5 (aE (t2 mm6) (aM))),(aP)⟩,bF<|?_⟩
   clear hI;exact aA<|have H:=H.drs [5,7];have H:=H.frs [2,3,3,3,6,6,6] z;X11 ⟨E.to z,H,b,m⟩
  ·clear E H m;rintro a w ⟨x,y,l,A,B,e,f,g,k,n,c8,E,H,c,m⟩;refine sp 4 E z λa E=>lb2 E H 3 U34 z λa E=>pn 1 E z λa E=>wif E m z (λm=>?_) λm=>?_
   ·refine wS<|dz [0,0,0,0,0,1,2] [0,3] H λw W0 hI H=>fbn E [o,p] z (wn z) z z z z m0 z U25 z bN λa E=>fn 3 E z λa E=>fbn E [i_ e,.string f,.string g,i_ k,l] z (wn z) z z z z mm1 z Lr z A9 λa E=>bO z<|Ro (i:=1) E H (wn z) z z z z z z bN z (aZ H (c _ q) (c _ s)) λw H=>nt<|⟨sx H [0,3] z,bJ z<|?_⟩
    obtain ⟨q39,c3,rfl⟩:=H.rowform (i:=6) z;refine ss 2 E H z A9 z λw H=>nt<|bF<|?_;clear hI;refine aA<|wR<|aJ<|r8 E z (oO (i:=1) (us:=[o,p]) H z z z U25 z bN) (oO (i:=2) (us:=[i_ e,.string f,.string g,i_ k,(.slice q39 n.length c3)]) H z z z Lr z A9)<|have H:=H.thaw (i:=6) z;have H:=H.drs [0,0,0,0,0,0];?_;cases m;exact X3 ⟨z,H.reads (aD (t1 (c _ q)) (aD (t1 (c _ s)) (aD m0 (λr hr=>(t1 (c r hr))))))⟩
   ·refine wK<|aA<|wS<|dz [0,0,0,0,0,0,0,0,1,2] [3] H λw W0 hI H=>fn 3 E z λa E=>fbn E [x,y] z (wn z) z z z z m0 z U25 z bN λa E=>fn 3 E z λa E=>fbn E [i_ e,.string f,.string g,i_ k,l] z (wn z) z z z z m0 z Lr z A9 λa E=>bO z<|?_;obtain ⟨q41,c4,rfl⟩:=H.rowform (i:=4) z;obtain ⟨q43,c5,rfl⟩:=H.rowform (i:=5) z;refine ss 1 E H z bN z λw H=>nt<|⟨sx H [3] z,bJ z<|?_⟩
    obtain ⟨q45,c6,rfl⟩:=H.rowform (i:=6) z;refine ss 2 E H z A9 z λw H=>nt<|bF<|?_;clear hI;refine aA<|wR<|r8 E z (oO (i:=1) (us:=[(.slice q41 A.length c4),(.slice q43 B.length c5)]) H z z z U25 z bN) (oO (i:=2) (us:=[i_ e,.string f,.string g,i_ k,(.slice q45 n.length c6)]) H z z z Lr z A9)<|have H:=H.thaw (i:=4) z;have H:=H.thaw (i:=4) z;have H:=H.thaw (i:=4) z;have H:=H.drs [0,0,0,0];?_;cases m;exact X3 ⟨z,H.rdx [2,1,0] z (λr hr=>(t3 (c r hr)))⟩

def xO(x1:aH):Option Bool:=
  (mH x1.Path).bind λb=>if b=true then (if (decide ((x1.Data.size:Int) <= 256))=true then (if (decide (x1.Version ≥ 0))=true then (if (decide (x1.Version <= 281474976710656))=true then (if (decide (x1.Owner ≥ 0))=true then (if (decide (x1.Owner <= 1099511627776))=true then (some (x1.Turn == 0)) else (some (false))) else (some (false))) else (some (false))) else (some (false))) else (some (false))) else (some (false))
theorem Md{x1:aH}(H:Sep w (Fo) rs){r:Bool}(m:xO x1=some r) :
    Cf 95 [.agg (nR x1).toArray] w λv w'=>.bool r=v/\Sep w' (Fo) (rs):=ent func95 z ntmps95 z z λa E=>sq<|bx E H z λj w a H E=>pr 1 E z λa E=>xp 1 E z λa E=>lb2 E H 0 U9 z λa E=>bd m λk i m=>xk2 E z (cf_ 96) (M5 H i) λw H a E=>pr 1 E z λa E=>cs m (λc m=>pk 1 E (kc 6 z c) z λa E=>gl 6 E H 0 c U9 z λa E=>pk 4 E (kc 6 z c) z λa E=>cs m (λd m=>pk 1 E (kc 12 z d) z λa E=>gl 12 E H 0 d U2 z λa E=>pk 3 E (kc 12 z d) z λa E=>cs m (λe m=>pk 1 E (kc 17 z e) z λa E=>gl 17 E H 0 e U2 z λa E=>pk 3 E (kc 17 z e) z λa E=>cs m (λf m=>pk 1 E (kc 22 z f) z λa E=>gl 22 E H 0 f U2 z λa E=>pk 3 E (kc 22 z f) z λa E=>cs m (λg m=>pk 1 E (kc 27 z g) z λa E=>gl 27 E H 0 g U2 z λa E=>pk 3 E (kc 27 z g) z λa E=>cs m (λb m=>pk 1 E (kc 32 z b) z λa E=>gl 32 E H 0 b U2 z λa E=>pk 3 E (kc 32 z b) z λa E=>nt<|wR<|o1 E z<|have H:=H.drop 0;d_ m z (H.reads Y0)) λb m=>pk 5 E (kc 32 z b) z λa E=>nt<|wR<|o1 E z<|have H:=H.drop 0;d_ m z (H.reads Y0)) λg m=>pk 10 E (kc 27 z g) z λa E=>nt<|wR<|o1 E z<|have H:=H.drop 0;d_ m z (H.reads Y0)) λf m=>pk 15 E (kc 22 z f) z λa E=>nt<|wR<|o1 E z<|have H:=H.drop 0;d_ m z (H.reads Y0)) λe m=>pk 20 E (kc 17 z e) z λa E=>nt<|wR<|o1 E z<|have H:=H.drop 0;d_ m z (H.reads Y0)) λd m=>pk 25 E (kc 12 z d) z λa E=>nt<|wR<|o1 E z<|have H:=H.drop 0;d_ m z (H.reads Y0)) λc m=>pk 31 E (kc 6 z c) z λa E=>nt<|wR<|o1 E z<|have H:=H.drop 0;d_ m z (H.reads Y0)

def oG(rec_1:Int->Option Bool)(c:Int)(b:Bool):Option Bool:=
  if b=true then (some (false)) else (rec_1 (IntKind.i64.wrap (c+1)))
def jE(rec_2:Int->Option Bool)(b:Int)(c:Bool):Option Bool:=
  if c=true then (some (false)) else (rec_2 (IntKind.i64.wrap (b+1)))
def fD(x1:aG):Nat->Int->Option Bool
  | 0,_=>none
  | d+1,b=>
    if (decide (b < (x1.Turns.length:Int)))=true then ((idx x1.Turns b).bind λc=>(mH c.Dir).bind λe=>if (!e)=true then (jE (fD x1 d) b true) else (if (decide (c.Next < 1))=true then (jE (fD x1 d) b true) else (if (decide (c.Next > 10000))=true then (jE (fD x1 d) b true) else (if (decide (b > 0))=true then ((idx x1.Turns (IntKind.i64.wrap (b - 1))).bind λf=>jE (fD x1 d) b (!(sLt f.Dir c.Dir))) else (jE (fD x1 d) b false))))) else (some (true))
def gJ(x1:aG):Nat->Int->Option Bool
  | 0,_=>none
  | c+1,b=>
    if (decide (b < (x1.Nodes.length:Int)))=true then ((idx x1.Nodes b).bind λd=>(xO d).bind λe=>if (!e)=true then (oG (gJ x1 c) b true) else (if (decide (b > 0))=true then ((idx x1.Nodes (IntKind.i64.wrap (b - 1))).bind λf=>(idx x1.Nodes b).bind λg=>oG (gJ x1 c) b (!(sLt f.Path g.Path))) else (oG (gJ x1 c) b false))) else (fD x1 (((x1.Turns.length:Int) - 0:Int).toNat+1) 0)
def w8(x1:aG):Option Bool:=
  gJ x1 (((x1.Nodes.length:Int) - 0:Int).toNat+1) 0
theorem Kl{x1:aG}{t u:VL}(H:Sep w (Fo) rs)(F:rSl aB t x1.Nodes ∈ rs)(x:rSl aC u x1.Turns ∈ rs){r:Bool}(m:w8 x1=some r) :
    Cf 44 [.agg #[t,u]] w λv w'=>.bool r=v/\Sep w' (Fo) (rs):=by
 refine ent func44 z ntmps44 z z λa E=>sq<|bx E H z λn w a H E=>pn 1 E z λa E=>wS<|sq<|pn 1 E z λa E=>wB<|bK (λq a w=>∃ y,Jn 82 a w [(1,pt n 0),(3,i_ y)] (Blk n 25 [t,u]::Fo) rs (gJ x1 q y=some r)) (((x1.Nodes.length:Int) - 0:Int).toNat+1) (⟨_,_,E.to z,H,Y0,m⟩) ?_;clear E H m;rintro q a w ⟨y,b3,E,H,l,m⟩;cases q with
 | zero=>exact (bH m z).elim
 | succ q=>
  unfold gJ at m;refine wS<|sp 2 E z λa E=>lb2 E H 0 U22 z λa E=>lS E H (l _ F) U22 z λa E=>pn 1 E z λa E=>wif E m z (λm=>?_) λm=>?_
  ·refine wK<|aA<|wS<|wB<|aN (λa w=>∃ A,Jn 82 a w [(1,pt n 0),(3,i_ y),(39,.bool A)] (Blk n 25 [t,u]::Fo) rs (oG (gJ x1 q) y A=some r)) ?_ ?_
   ·obtain ⟨b4,H⟩:=H.raw (l _ F);refine dw [(0,0),(1,0),(2,0),(3,0),(4,0),(5,1),(6,0),(7,0),(8,0),(9,0),(10,0),(11,0),(12,0),(13,0),(14,0),(15,0),(16,0),(17,0),(18,0),(19,0),(20,0),(21,0),(22,0),(23,0),(24,0),(25,0),(26,0)] [0] [0] H (by kernel_rfl) (λ_ _ _ h=>False.elim h.2) λw W0 hI H=>fn 1 E z λa E=>fb2 E m0 U22 z λa E=>fn 1 E z λa E=>bd m λo G m=>?_;obtain ⟨q16,b5,I,J⟩:=eU (P:=Tryz.prog) (k:=.i64) hI (eT (.head _)) U22 iL G;refine fv E z (λw hW=>gL E z z z (I w)) λa E=>fv E z (λw hW=>kT E z z (xA (cs:=[.string o.Path,.string o.Data,i_ o.Version,i_ o.Turn,i_ o.Owner]) (DR.ir (r9 J)) (λ_ _ _ h=>rJ h) U80 z iL w hW)) λa E=>bO z<|bd m λb6 K m=>xk2 E z (cf_ 95) (Md H K) λw H a E=>nt<|⟨⟨_,_,H,(aE m0 (aM)),(aD m0 (aP))⟩,fn 2 E z λa E=>cs m (λf m=>?_) λf m=>?_⟩
    ·refine fk 19 E (kc 20 z f) z λa E=>bF<|?_;clear hI;exact aA<|⟨_,_,E.to z,H,(Y1 l),m⟩
    refine fk 3 E (kc 20 z f) z λa E=>cs m (λb m=>?_) λb m=>?_
    ·refine fk 1 E (kc 23 z b) z λa E=>fb E z (ws' (d:=23) E z z z z b) z z z z m0 z U22 z λa E=>fk 2 E (kc 23 z b) z λa E=>bd m λb7 L m=>?_;obtain ⟨q26,b8,M,N⟩:=eU (P:=Tryz.prog) (k:=.i64) hI (eT (.head _)) U22 iL L;refine dU E z (ws' (d:=23) E z z z z b) z z (λw hW=>gL E z z z (M w)) λa E=>?_;have O:=pM N (λ_ _ _ h=>Bs h);refine fk 1 E (kc 23 z b) z λa E=>fa E z (ws' (d:=23) E z z z z b) z z z z O U9 z λa E=>fk 1 E (kc 23 z b) z λa E=>fb E z (ws' (d:=23) E z z z z b) z z z z m0 z U22 z λa E=>fk 1 E (kc 23 z b) z λa E=>bd m λb9 Q m=>?_;obtain ⟨q33,c0,R,S⟩:=eU (P:=Tryz.prog) (k:=.i64) hI (eT (.head _)) U22 iL Q;refine dU E z (ws' (d:=23) E z z z z b) z z (λw hW=>gL E z z z (R w)) λa E=>?_;have T:=pM S (λ_ _ _ h=>Bs h);refine fk 1 E (kc 23 z b) z λa E=>fa E z (ws' (d:=23) E z z z z b) z z z z T U9 z λa E=>fk 3 E (kc' (kc 23 z b) 20 z f) z λa E=>bF<|?_;clear hI;exact aA<|⟨_,_,E.to z,H,(Y1 l),m⟩
    refine fk 16 E (kc' (kc 23 z b) 20 z f) z λa E=>bF<|?_;clear hI;exact aA<|⟨_,_,E.to z,H,(Y1 l),m⟩
   clear E H m;rintro a w ⟨A,b0,E,H,B,m⟩;exact wif E m z (λm=>sq<|pn 1 E z λa E=>wR<|bM<|aJ<|aJ<|bM<|aJ<|o1 E z<|have H:=H.drop 0;d_ m z (H.reads B)) λm=>wK<|bR<|aA<|wG<|pn 3 E z λa E=>⟨q,nL q,_,_,E.to z,H,B,m⟩
  ·refine wX<|aW<|aW<|cR<|aA<|wS<|sq<|pn 1 E z λa E=>wB<|bK (λs a w=>∃ p,Jn 82 a w [(1,pt n 0),(4,i_ p)] (Blk n 25 [t,u]::Fo) rs (fD x1 s p=some r)) (((x1.Turns.length:Int) - 0:Int).toNat+1) (⟨_,_,E.to z,H,l,m⟩) ?_;clear E H m;rintro s a w ⟨p,b1,E,H,e,m⟩;cases s with
   | zero=>exact (bH m z).elim
   | succ s=>
    unfold fD at m;refine wS<|sp 2 E z λa E=>lb2 E H 0 U23 z λa E=>lS E H (e _ x) U23 z λa E=>pn 1 E z λa E=>wif E m z (λm=>?_) λm=>wX<|aW<|aW<|cR<|aA<|sq<|pn 1 E z λa E=>wR<|o1 E z<|have H:=H.drop 0;d_ m z (H.reads e);refine wK<|aA<|wS<|wB<|sp 1 E z λa E=>lb2 E H 0 U23 z λa E=>pr 1 E z λa E=>bd m λc1 U m=>dH E H (wn z) z z z z z (e _ x) U23 nU U λq43 a H E=>ldf eE E H z z z z z m0 U71 z nU λa E=>al2 E H z RT λc2 w a H E=>ss 0 E H z nU z λw H=>nt<|aN (λa w=>∃ C,Jn 82 a w [(1,pt n 0),(4,i_ p),(81,.bool C)] (Blk n 25 [t,u]::Fo) rs (jE (fD x1 s) p C=some r)) ?_ ?_
    ·obtain ⟨c3,H⟩:=H.raw (t1 (e _ x));refine dw [(0,0),(1,0),(2,1),(3,0),(4,0),(5,0),(6,0),(7,0),(8,0),(9,0),(10,0),(11,0),(12,0),(13,0),(14,0),(15,0),(16,0),(17,0),(18,0),(19,0),(20,0),(21,0),(22,0),(23,0),(24,0),(25,0),(26,0),(27,0),(28,0),(29,0)] [0,1] [0] H (by kernel_rfl) (λ_ _ _ h=>False.elim h.2) λw W0 hI H=>fn 1 E z λa E=>fb2 E m0 U9 z λa E=>bO z<|bd m λc4 V m=>xk2 E z (cf_ 96) (M5 H V) λw H a E=>nt<|⟨⟨_,_,H,(aE m0 (aE mm1 (aM))),(aD m0 (aP))⟩,fn 2 E z λa E=>cs m (λg m=>?_) λg m=>?_⟩
     ·refine fk 25 E (kc 56 z g) z λa E=>bF<|?_;clear hI;exact aA<|have H:=H.drop 0;⟨_,_,E.to z,H,(Y2 e),m⟩
     refine fk 1 E (kc 56 z g) z λa E=>fb E z (ws' (d:=56) E z z z z g) z z z z m0 z U2 z λa E=>fk 3 E (kc 56 z g) z λa E=>cs m (λi m=>?_) λi m=>?_
     ·refine fk 20 E (kc 61 z i) z λa E=>bF<|?_;clear hI;exact aA<|have H:=H.drop 0;⟨_,_,E.to z,H,(Y2 e),m⟩
     refine fk 1 E (kc 61 z i) z λa E=>fb E z (ws' (d:=61) E z z z z i) z z z z m0 z U2 z λa E=>fk 3 E (kc 61 z i) z λa E=>cs m (λj m=>?_) λj m=>?_
     ·refine fk 15 E (kc 66 z j) z λa E=>bF<|?_;clear hI;exact aA<|have H:=H.drop 0;⟨_,_,E.to z,H,(Y2 e),m⟩
     refine fk 3 E (kc 66 z j) z λa E=>cs m (λc m=>?_) λc m=>?_
     ·refine fk 1 E (kc 69 z c) z λa E=>fb E z (ws' (d:=69) E z z z z c) z z z z mm1 z U23 z λa E=>fk 2 E (kc 69 z c) z λa E=>bd m λc5 W m=>?_;obtain ⟨q57,c6,X,Y⟩:=eU (P:=Tryz.prog) (k:=.i64) hI (eT (.head _)) U23 nU W;refine dU E z (ws' (d:=69) E z z z z c) z z (λw hW=>gL E z z z (X w)) λa E=>?_;have Z:=pM Y (λ_ _ _ h=>Ue h);refine fk 1 E (kc 69 z c) z λa E=>fa E z (ws' (d:=69) E z z z z c) z z z z Z U9 z λa E=>fk 1 E (kc 69 z c) z λa E=>fb E z (ws' (d:=69) E z z z z c) z z z z m0 z U9 z λa E=>fk 3 E (kc' (kc 69 z c) 66 z j) z λa E=>bF<|?_;clear hI;exact aA<|have H:=H.drop 0;⟨_,_,E.to z,H,(Y2 e),m⟩
     refine fk 12 E (kc' (kc 69 z c) 66 z j) z λa E=>bF<|?_;clear hI;exact aA<|have H:=H.drop 0;⟨_,_,E.to z,H,(Y2 e),m⟩
    ·clear E H m;rintro a w ⟨C,b2,E,H,D,m⟩;exact wif E m z (λm=>sq<|pn 1 E z λa E=>wR<|bM<|aJ<|aJ<|bM<|aJ<|o1 E z<|have H:=H.drop 0;d_ m z (H.reads D)) λm=>wK<|bR<|aA<|wG<|pn 3 E z λa E=>⟨s,nL s,_,_,E.to z,H,D,m⟩

def zV(c:BY):Option BY:=
  (uA c).bind λb=>if (!b.2)=true then (some ((ByteArray.mk #[47]))) else (some (b.1))
theorem Qv{b:BY}(H:Sep w (Fo) rs){r:BY}(m:zV b=some r) :
    Cf 98 [.string b] w λv w'=>.string r=v/\Sep w' (Fo) (rs):=ent func98 z ntmps98 z z λa E=>sp 1 E z λa E=>xp 1 E z λa E=>bd m λd c m=>xk2 E z (cf_ 164) (Iy H c) λw H a E=>pn 5 E z λa E=>wS<|sq<|pn 2 E z λa E=>wif E m z (λm=>sq<|pn 1 E z λa E=>wR<|aJ<|o1 E z<|d_ m z (H.reads Y0)) λm=>wK<|aA<|sq<|pn 2 E z λa E=>wR<|o1 E z<|d_ m z (H.reads Y0)

def mA(c:List dA)(d:List dA):Nat->Int->Option Bool
  | 0,_=>none
  | i+1,b=>
    if (decide (b < (c.length:Int)))=true then ((idx c b).bind λe=>(idx d b).bind λf=>(tF e f).bind λg=>if (!g)=true then (some (false)) else (mA c d i (IntKind.i64.wrap (b+1)))) else (some (true))
def sQ(b:List dA)(c:List dA):Option Bool:=
  if ((b.length:Int) != (c.length:Int))=true then (some (false)) else (mA b c (((b.length:Int) - 0:Int).toNat+1) 0)
theorem Gq{p q:VL}{n s:List dA}(H:Sep w (Fo) rs)(i:rSl bB p n ∈ rs)(o:rSl bB q s ∈ rs){r:Bool}(m:sQ n s=some r) :
    Cf 41 [p,q] w λv w'=>.bool r=v/\Sep w' (Fo) (rs):=by
 refine ent func41 z ntmps41 z z λa E=>sq<|pn 1 E z λa E=>wS<|sp 1 E z λa E=>lS E H i U35 z λa E=>pr 1 E z λa E=>lS E H o U35 z λa E=>pn 1 E z λa E=>wif E m z (λm=>sq<|pn 1 E z λa E=>wR<|aJ<|o1 E z<|d_ m z (H.reads Y0)) λm=>?_;refine wK<|aA<|wS<|sq<|pn 1 E z λa E=>wB<|bK (λg a w=>∃ t,Jn 27 a w [(0,p),(1,q),(5,i_ t)] (Fo) rs (mA n s g t=some r)) (((n.length:Int) - 0:Int).toNat+1) (⟨_,_,E.to z,H,Y0,m⟩) ?_;clear E H m;rintro g a w ⟨t,M,E,H,b,m⟩;cases g with
 | zero=>exact (bH m z).elim
 | succ g=>
  unfold mA at m;refine wS<|sp 2 E z λa E=>lS E H (b _ i) U35 z λa E=>pn 1 E z λa E=>wif E m z (λm=>?_) λm=>wX<|aW<|aW<|cR<|aA<|sq<|pn 1 E z λa E=>wR<|o1 E z<|d_ m z (H.reads b);refine wK<|aA<|wS<|wB<|wS<|?_;obtain ⟨N,H⟩:=H.raw (b _ i);obtain ⟨O,H⟩:=H.raw (t1 (b _ o));refine dw [(0,0),(1,0),(2,0),(3,0),(4,0),(5,0),(6,0),(7,0),(8,1),(9,0)] [] [1,0] H (by kernel_rfl) (λ_ _ _ h=>False.elim h.2) λw W0 hI H=>fn 2 E z λa E=>bd m λe u m=>?_;obtain ⟨q14,Q,x,j⟩:=eU (P:=Tryz.prog) (k:=.i64) hI (eT (.head _)) U35 A9 u;refine fv E z (λw hW=>gL E z z z (x w)) λa E=>?_;obtain ⟨_,y⟩:=BM hI j;obtain ⟨K,A,-⟩:=U8 y;have c:=j;rw [A] at c;have B:=FB c (λ_ _ h=>Dl h);refine fv E z (λw hW=>kT E z z (FC (cs:=[i_ e.Err,.string e.Path,.string e.Data,i_ e.Version,K]) (DR.ir c) Lr z A9 w hW)) λa E=>fn 2 E z λa E=>bd m λf C m=>?_;obtain ⟨q25,R,D,l⟩:=eU (P:=Tryz.prog) (k:=.i64) hI (eT (.tail _ (.head _))) U35 A9 C;refine fv E z (λw hW=>gL E z z z (D w)) λa E=>?_;obtain ⟨_,F⟩:=BM hI l;obtain ⟨L,G,-⟩:=U8 F;have d:=l;rw [G] at d;have I:=FB d (λ_ _ h=>Dl h);refine fv E z (λw hW=>kT E z z (FC (cs:=[i_ f.Err,.string f.Path,.string f.Data,i_ f.Version,L]) (DR.ir d) Lr z A9 w hW)) λa E=>have H:=H.dr (aD mm1 (aD m0 (aP))) B;have H:=H.dr (aD mm2 (aD mm1 (aP))) I;bO z<|bd m λS J m=>xk2 E z (cf_ 94) (Hk H mm1 m0 J) λw H a E=>nt<|⟨⟨_,_,H,(aM),(aD mm3 (aD mm2 (aP)))⟩,fn 1 E z λa E=>bF<|?_⟩
  clear hI;exact aA<|wif E m z (λm=>sq<|pn 1 E z λa E=>wR<|bM<|aJ<|aJ<|bM<|aJ<|o1 E z<|d_ m z (H.reads (Y4 b))) λm=>wK<|bR<|aA<|wG<|pn 3 E z λa E=>⟨g,nL g,_,_,E.to z,H,(Y4 b),m⟩

def oH(x1:aG)(c:Int):Option Bool:=
  if (decide (c ≥ 3000))=true then (some (true)) else ((vM x1.Nodes).bind λb=>some (b))
def jF(x1:aG):Nat->Int->Int->Option Bool
  | 0,_,_=>none
  | e+1,b,c=>
    if (decide (c < (x1.Turns.length:Int)))=true then (if (decide (b < 3000))=true then ((idx x1.Turns c).bind λd=>jF x1 e (IntKind.i64.wrap (b+(min (d.Dir.size:Int) 3000))) (IntKind.i64.wrap (c+1))) else (oH x1 b)) else (oH x1 b)
def rY(x1:aG):Option Bool:=
  jF x1 3002 (x1.Turns.length:Int) 0
theorem Bj{x1:aG}{k l:VL}(H:Sep w (Fo) rs)(s:rSl aB k x1.Nodes ∈ rs)(f:rSl aC l x1.Turns ∈ rs){r:Bool}(m:rY x1=some r) :
    Cf 6 [.agg #[k,l]] w λv w'=>.bool r=v/\Sep w' (Fo) (rs):=by
 refine ent func6 z ntmps6 z z λa E=>sq<|bx E H z λn w a H E=>pr 1 E z λa E=>xp 1 E z λa E=>lb2 E H 0 U23 z λa E=>lS E H f U23 z λa E=>pr 1 E z λa E=>nt<|aN (λa w=>∃ o,Jn 36 a w [(1,pt n 0),(3,i_ o)] (Blk n 25 [k,l]::Fo) rs (oH x1 o=some r)) ?_ ?_
 ·refine sq<|pn 1 E z λa E=>wB<|bK (λe a w=>∃ g i,Jn 36 a w [(1,pt n 0),(3,i_ g),(4,i_ i)] (Blk n 25 [k,l]::Fo) rs (jF x1 e g i=some r)) (3002) (X3 ⟨E.to z,H,Y0,m⟩) ?_;clear E H m;rintro e a w ⟨g,i,x,E,H,c,m⟩;cases e with
  | zero=>exact (bH m z).elim
  | succ e=>
   unfold jF at m;exact wS<|sp 2 E z λa E=>lb2 E H 0 U23 z λa E=>lS E H (c _ f) U23 z λa E=>pr 2 E z λa E=>cs m (λd m=>pk 3 E (kc 13 z d) z λa E=>nt<|wif E m z (λm=>wK<|aA<|wS<|wB<|wG<|pr 2 E z λa E=>lb2 E H 0 U23 z λa E=>pr 1 E z λa E=>bd m λu p m=>dH E H (wn z) z z z z z (c _ f) U23 nU p λq20 a H E=>have H:=H.derive1 m0 (rAt kS (q20.add 0) u.Dir) (λok h=>Hf h);pr 1 E z λa E=>sv2 E z (rI E H z z m0 U9 z) λa E=>pr 1 E z λa E=>sv2 E z (Rn (t:=0) E z z z) λa E=>pr 2 E z λa E=>wN<|bR<|aA<|wG<|pn 3 E z λa E=>⟨e,nL e,X3 ⟨E.to z,H,(Y2 c),m⟩⟩) λm=>wX<|aW<|aW<|cR<|aA<|⟨_,_,E.to z,H,c,m⟩) λd m=>pk 3 E (kc 13 z d) z λa E=>nt<|wp_cond_false (E.eval z)<|wX<|aW<|aW<|cR<|aA<|⟨_,_,E.to z,H,c,m⟩
 ·clear E H m;rintro a w ⟨o,y,E,H,j,m⟩;exact sp 3 E z λa E=>cs m (λb m=>pk 5 E (kc 31 z b) z λa E=>nt<|wR<|o1 E z<|have H:=H.drop 0;d_ m z (H.reads j)) λb m=>pk 1 E (kc 31 z b) z λa E=>gl 31 E H 0 b U22 z λa E=>bd m λA q m=>gc 31 E b z (cf_ 22) (Kj H (j _ s) q)<|op0 λw H a E=>pk 2 E (kc 31 z b) z λa E=>nt<|wR<|o1 E z<|have H:=H.drop 0;d_ m z (H.reads j)

def qU(x1:bL):Option Bool:=
  if (decide ((x1.Dir.size:Int) > 3000))=true then (some (true)) else (if (decide ((x1.Path.size:Int) > 3000))=true then (some (true)) else (some (decide ((x1.Data.size:Int) > 3000))))
theorem Ex{x1:bL}(H:Sep w (Fo) rs){r:Bool}(m:qU x1=some r) :
    Cf 104 [.agg (cI x1).toArray] w λv w'=>.bool r=v/\Sep w' (Fo) (rs):=ent func104 z ntmps104 z z λa E=>sq<|bx E H z λd w a H E=>pr 1 E z λa E=>xp 1 E z λa E=>lb2 E H 0 U9 z λa E=>pr 3 E z λa E=>cs m (λb m=>pk 12 E (kc 7 z b) z λa E=>nt<|wR<|o1 E z<|have H:=H.drop 0;d_ m z (H.reads Y0)) λb m=>pk 1 E (kc 7 z b) z λa E=>gl 7 E H 0 b U9 z λa E=>pk 4 E (kc 7 z b) z λa E=>cs m (λc m=>pk 6 E (kc 13 z c) z λa E=>nt<|wR<|o1 E z<|have H:=H.drop 0;d_ m z (H.reads Y0)) λc m=>pk 1 E (kc 13 z c) z λa E=>gl 13 E H 0 c U9 z λa E=>pk 4 E (kc 13 z c) z λa E=>nt<|wR<|o1 E z<|have H:=H.drop 0;d_ m z (H.reads Y0)

def jH(b:List dE):Nat->Int->Option Bool
  | 0,_=>none
  | d+1,x4=>
    if (decide (x4 < (b.length:Int)))=true then ((idx b x4).bind λe=>(qU e.Part).bind λc=>if c=true then (some (true)) else (jH b d (IntKind.i64.wrap (x4+1)))) else (some (false))
def oS(b:List dE):Option Bool:=
  if (decide ((b.length:Int) > 60))=true then (some (true)) else (jH b (((b.length:Int) - 0:Int).toNat+1) 0)
theorem Dr{f:VL}{e:List dE}(H:Sep w (Fo) rs)(d:rSl bU f e ∈ rs){r:Bool}(m:oS e=some r) :
    Cf 62 [f] w λv w'=>.bool r=v/\Sep w' (Fo) (rs):=by
 refine ent func62 z ntmps62 z z λa E=>sq<|pn 1 E z λa E=>wS<|sp 1 E z λa E=>lS E H d U42 z λa E=>pr 1 E z λa E=>nt<|wif E m z (λm=>sq<|pn 1 E z λa E=>wR<|aJ<|o1 E z<|d_ m z (H.reads Y0)) λm=>?_;refine wK<|aA<|wS<|sq<|pn 1 E z λa E=>wB<|bK (λc a w=>∃ x4,Jn 19 a w [(0,f),(3,i_ x4)] (Fo) rs (jH e c x4=some r)) (((e.length:Int) - 0:Int).toNat+1) (⟨_,_,E.to z,H,Y0,m⟩) ?_;clear E H m;rintro c a w ⟨x4,k,E,H,b,m⟩;cases c with
 | zero=>exact (bH m z).elim
 | succ c=>
  unfold jH at m;exact wS<|sp 2 E z λa E=>lS E H (b _ d) U42 z λa E=>pn 1 E z λa E=>wif E m z (λm=>wK<|aA<|wS<|wB<|sp 2 E z λa E=>bd m λj i m=>dH E H (wn z) z z z z z (b _ d) U42 R2 i λq9 a H E=>have H:=H.derive1 m0 (rAt dC (q9.add 1) j.Part) (λok h=>Sj h);pr 1 E z λa E=>ldf Fm E H z z z z z m0 sX z iX λa E=>bd m λl g m=>xk2 E z (cf_ 104) (Ex H g) λw H a E=>nt<|wif E m z (λm=>sq<|pn 1 E z λa E=>wR<|bM<|aJ<|aJ<|bM<|aJ<|o1 E z<|d_ m z (H.reads (Y2 b))) λm=>wK<|bR<|aA<|wG<|pn 3 E z λa E=>⟨c,nL c,_,_,E.to z,H,(Y2 b),m⟩) λm=>wX<|aW<|aW<|cR<|aA<|sq<|pn 1 E z λa E=>wR<|o1 E z<|d_ m z (H.reads b)

def mN(x1:aG)(x4:aG):Nat->Int->Option Bool
  | 0,_=>none
  | e+1,b=>
    if (decide (b < (x1.Turns.length:Int)))=true then ((idx x1.Turns b).bind λc=>(idx x4.Turns b).bind λd=>if (!((sEq c.Dir d.Dir) && (c.Next == d.Next)))=true then (some (false)) else (mN x1 x4 e (IntKind.i64.wrap (b+1)))) else (some (true))
def tJ(x1:aG)(x4:aG)(b:Bool):Option Bool:=
  if b=true then (some (false)) else (mN x1 x4 (((x1.Turns.length:Int) - 0:Int).toNat+1) 0)
def lO(x1:aG)(x4:aG):Option Bool:=
  (xI x1.Nodes x4.Nodes).bind λb=>if (!b)=true then (tJ x1 x4 true) else (tJ x1 x4 ((x1.Turns.length:Int) != (x4.Turns.length:Int)))
theorem B6{x1 x4:aG}{q s t u:VL}(H:Sep w (Fo) rs)(G:rSl aB q x1.Nodes ∈ rs)(j:rSl aC s x1.Turns ∈ rs)(I:rSl aB t x4.Nodes ∈ rs)(l:rSl aC u x4.Turns ∈ rs){r:Bool}(m:lO x1 x4=some r) :
    Cf 15 [.agg #[q,s],.agg #[t,u]] w λv w'=>.bool r=v/\Sep w' (Fo) (rs):=by
 refine ent func15 z ntmps15 z z λa E=>sq<|bx E H z λd w a H E=>bx E H z λe w a H E=>pn 1 E z λa E=>wS<|aN (λa w=>∃ n,Jn 39 a w [(2,pt d 0),(3,pt e 0),(20,.bool n)] (Blk d 25 [q,s]::Blk e 25 [t,u]::Fo) rs (tJ x1 x4 n=some r)) (wG<|pr 1 E z λa E=>lb2 E H 1 U22 z λa E=>pr 1 E z λa E=>lb2 E H 0 U22 z λa E=>bd m λL x m=>xk2 E z (cf_ 48) (Lw H G I x) λw H a E=>pr 2 E z λa E=>cs m (λb m=>pk 8 E (kc 12 z b) z λa E=>nt<|have H:=H.frs [0,1] z;⟨_,_,E.to z,H,Y0,m⟩) λb m=>pk 1 E (kc 12 z b) z λa E=>gl 12 E H 1 b U23 z λa E=>gv 12 E b z (vJ E H z z j U23) λa E=>pk 1 E (kc 12 z b) z λa E=>gl 12 E H 0 b U23 z λa E=>gv 12 E b z (vJ E H z z l U23) λa E=>pk 2 E (kc 12 z b) z λa E=>nt<|have H:=H.frs [0,1] z;⟨_,_,E.to z,H,Y0,m⟩) ?_;clear E H m;rintro a w ⟨n,J,E,H,o,m⟩;refine wif E m z (λm=>sq<|pn 1 E z λa E=>wR<|aJ<|o1 E z<|have H:=H.drs [0,0];d_ m z (H.reads o)) λm=>?_;refine wK<|aA<|wS<|sq<|pn 1 E z λa E=>wB<|bK (λi a w=>∃ p,Jn 39 a w [(2,pt d 0),(3,pt e 0),(5,i_ p)] (Blk d 25 [q,s]::Blk e 25 [t,u]::Fo) rs (mN x1 x4 i p=some r)) (((x1.Turns.length:Int) - 0:Int).toNat+1) (⟨_,_,E.to z,H,o,m⟩) ?_;clear E H m;rintro i a w ⟨p,K,E,H,c,m⟩;cases i with
 | zero=>exact (bH m z).elim
 | succ i=>
  unfold mN at m;refine wS<|sp 2 E z λa E=>lb2 E H 0 U23 z λa E=>lS E H (c _ j) U23 z λa E=>pn 1 E z λa E=>wif E m z (λm=>?_) λm=>wX<|aW<|aW<|cR<|aA<|sq<|pn 1 E z λa E=>wR<|o1 E z<|have H:=H.drs [0,0];d_ m z (H.reads c);refine wK<|aA<|wS<|wB<|wS<|?_;obtain ⟨M,H⟩:=H.raw (c _ j);obtain ⟨N,H⟩:=H.raw (t1 (c _ l));refine dw [(0,0),(1,0),(2,0),(3,0),(4,0),(5,0),(6,0),(7,0),(8,0),(9,0),(10,0)] [0,1] [1,0] H (by kernel_rfl) (λ_ _ _ h=>False.elim h.2) λw W0 hI H=>fn 1 E z λa E=>fb2 E m0 U23 z λa E=>fn 1 E z λa E=>bd m λf y m=>?_;obtain ⟨q23,O,A,B⟩:=eU (P:=Tryz.prog) (k:=.i64) hI (eT (.head _)) U23 nU y;refine fv E z (λw hW=>gL E z z z (A w)) λa E=>fv E z (λw hW=>kT E z z (xA (cs:=[.string f.Dir,i_ f.Next]) (DR.ir (r9 B)) (λ_ _ _ h=>tX h) U71 z nU w hW)) λa E=>fn 1 E z λa E=>fb2 E mm1 U23 z λa E=>fn 1 E z λa E=>bd m λg C m=>?_;obtain ⟨q29,Q,D,F⟩:=eU (P:=Tryz.prog) (k:=.i64) hI (eT (.tail _ (.head _))) U23 nU C;refine fv E z (λw hW=>gL E z z z (D w)) λa E=>fv E z (λw hW=>kT E z z (xA (cs:=[.string g.Dir,i_ g.Next]) (DR.ir (r9 F)) (λ_ _ _ h=>tX h) U71 z nU w hW)) λa E=>fv E z (λw hW=>(yR E z z z (v:=.bool (!((sEq f.Dir g.Dir) && (f.Next == g.Next)))) (Rs VN (Fd U71 VM (zP (by rfl) (by kernel_rfl) (by kernel_rfl) (Cv U9) (Im (by rfl) (by kernel_rfl) (by kernel_rfl) (V4 U2))))))) λa E=>bF<|?_;clear hI;exact aA<|wif E m z (λm=>sq<|pn 1 E z λa E=>wR<|bM<|aJ<|aJ<|bM<|aJ<|o1 E z<|have H:=H.drs [0,0];d_ m z (H.reads (Y2 c))) λm=>wK<|bR<|aA<|wG<|pn 3 E z λa E=>⟨i,nL i,_,_,E.to z,H,(Y2 c),m⟩

def lY(rec_1:Int->Option Bool)(x4:Int)(b:Bool):Option Bool:=
  if b=true then (some (false)) else (rec_1 (IntKind.i64.wrap (x4+1)))
def gO(b:List aF):Nat->Int->Option Bool
  | 0,_=>none
  | c+1,x4=>
    if (decide (x4 < (b.length:Int)))=true then ((idx b x4).bind λd=>(gM d.Prefix).bind λe=>if (!e)=true then (lY (gO b c) x4 true) else (if (decide (d.Epoch < 0))=true then (lY (gO b c) x4 true) else (if (decide (d.Epoch > 281474976710656))=true then (lY (gO b c) x4 true) else (if (decide (d.State < 1))=true then (lY (gO b c) x4 true) else (if (decide (d.State > 3))=true then (lY (gO b c) x4 true) else (if (decide (x4 > 0))=true then ((idx b (IntKind.i64.wrap (x4 - 1))).bind λf=>lY (gO b c) x4 (!(sLt f.Prefix d.Prefix))) else (lY (gO b c) x4 false))))))) else (some (decide ((b.length:Int) <= 32)))
def qD(b:List aF):Option Bool:=
  gO b (((b.length:Int) - 0:Int).toNat+1) 0
theorem K8{p:VL}{l:List aF}(H:Sep w (Fo) rs)(o:rSl aO p l ∈ rs){r:Bool}(m:qD l=some r) :
    Cf 21 [p] w λv w'=>.bool r=v/\Sep w' (Fo) (rs):=by
 refine ent func21 z ntmps21 z z λa E=>sq<|pn 1 E z λa E=>wS<|sp 1 E z λa E=>lS E H o U26 z λa E=>pr 1 E z λa E=>nt<|wB<|bK (λn a w=>∃ x4,Jn 55 a w [(0,p),(5,p),(6,i_ (l.length:Int)),(7,i_ x4)] (Fo) rs (gO l n x4=some r)) (((l.length:Int) - 0:Int).toNat+1) (⟨_,_,E.to z,H,Y0,m⟩) ?_;clear E H m;rintro n a w ⟨x4,D,E,H,c,m⟩;cases n with
 | zero=>exact (bH m z).elim
 | succ n=>
  unfold gO at m;refine sq<|pn 1 E z λa E=>wS<|wif E m z (λm=>?_) λm=>wX<|aW<|aW<|cR<|aA<|sp 1 E z λa E=>lS E H (c _ o) U26 z λa E=>pr 2 E z λa E=>nt<|wR<|o1 E z<|d_ m z (H.reads c);refine wK<|aA<|wS<|wB<|sp 1 E z λa E=>bd m λL B m=>dH E H (wn z) z z z z z (c _ o) U26 iA B λq9 a H E=>ldf jO E H z z z z z m0 U52 z iA λa E=>al2 E H z Qn λF w a H E=>pr 1 E z λa E=>ss 0 E H z iA z λw H=>nt<|aN (λa w=>∃ q,Jn 55 a w [(0,p),(5,p),(6,i_ (l.length:Int)),(7,i_ x4),(50,.bool q)] (Fo) rs (lY (gO l n) x4 q=some r)) ?_ ?_
  ·obtain ⟨G,H⟩:=H.raw (t1 (c _ o));refine dw [(0,0),(1,0),(2,1),(3,0),(4,0),(5,0),(6,0),(7,0),(8,0),(9,0),(10,0),(11,0),(12,0),(13,0),(14,0),(15,0),(16,0),(17,0),(18,0),(19,0),(20,0),(21,0),(22,0),(23,0),(24,0),(25,0),(26,0),(27,0),(28,0),(29,0),(30,0),(31,0),(32,0),(33,0),(34,0),(35,0),(36,0),(37,0),(38,0)] [0] [0] H (by kernel_rfl) (λ_ _ _ h=>False.elim h.2) λw W0 hI H=>fn 1 E z λa E=>fb2 E m0 U9 z λa E=>bO z<|bd m λI t m=>xk2 E z (cf_ 56) (lK H t) λw H a E=>nt<|⟨⟨_,_,H,(aE m0 (aM)),(aD m0 (aP))⟩,fn 2 E z λa E=>cs m (λe m=>?_) λe m=>?_⟩
   ·refine fk 34 E (kc 16 z e) z λa E=>bF<|?_;clear hI;exact aA<|have H:=H.drop 0;⟨_,_,E.to z,H,(Y2 c),m⟩
   refine fk 1 E (kc 16 z e) z λa E=>fb E z (ws' (d:=16) E z z z z e) z z z z m0 z U2 z λa E=>fk 3 E (kc 16 z e) z λa E=>cs m (λf m=>?_) λf m=>?_
   ·refine fk 29 E (kc 21 z f) z λa E=>bF<|?_;clear hI;exact aA<|have H:=H.drop 0;⟨_,_,E.to z,H,(Y2 c),m⟩
   refine fk 1 E (kc 21 z f) z λa E=>fb E z (ws' (d:=21) E z z z z f) z z z z m0 z U2 z λa E=>fk 3 E (kc 21 z f) z λa E=>cs m (λg m=>?_) λg m=>?_
   ·refine fk 24 E (kc 26 z g) z λa E=>bF<|?_;clear hI;exact aA<|have H:=H.drop 0;⟨_,_,E.to z,H,(Y2 c),m⟩
   refine fk 1 E (kc 26 z g) z λa E=>fb E z (ws' (d:=26) E z z z z g) z z z z m0 z U3 z λa E=>fk 3 E (kc 26 z g) z λa E=>cs m (λi m=>?_) λi m=>?_
   ·refine fk 19 E (kc 31 z i) z λa E=>bF<|?_;clear hI;exact aA<|have H:=H.drop 0;⟨_,_,E.to z,H,(Y2 c),m⟩
   refine fk 1 E (kc 31 z i) z λa E=>fb E z (ws' (d:=31) E z z z z i) z z z z m0 z U3 z λa E=>fk 3 E (kc 31 z i) z λa E=>cs m (λj m=>?_) λj m=>?_
   ·refine fk 14 E (kc 36 z j) z λa E=>bF<|?_;clear hI;exact aA<|have H:=H.drop 0;⟨_,_,E.to z,H,(Y2 c),m⟩
   refine fk 3 E (kc 36 z j) z λa E=>cs m (λb m=>?_) λb m=>?_
   ·refine fk 3 E (kc 39 z b) z λa E=>bd m λJ u m=>?_;obtain ⟨q25,K,x,y⟩:=eU (P:=Tryz.prog) (k:=.i64) hI (eT (.head _)) U26 iA u;refine dU E z (ws' (d:=39) E z z z z b) z z (λw hW=>gL E z z z (x w)) λa E=>?_;have A:=pM y (λ_ _ _ h=>mS h);refine fk 1 E (kc 39 z b) z λa E=>fa E z (ws' (d:=39) E z z z z b) z z z z A U9 z λa E=>fk 1 E (kc 39 z b) z λa E=>fb E z (ws' (d:=39) E z z z z b) z z z z m0 z U9 z λa E=>fk 3 E (kc' (kc 39 z b) 36 z j) z λa E=>bF<|?_;clear hI;exact aA<|have H:=H.drop 0;⟨_,_,E.to z,H,(Y2 c),m⟩
   refine fk 11 E (kc' (kc 39 z b) 36 z j) z λa E=>bF<|?_;clear hI;exact aA<|have H:=H.drop 0;⟨_,_,E.to z,H,(Y2 c),m⟩
  ·clear E H m;rintro a w ⟨q,C,E,H,s,m⟩;exact wif E m z (λm=>sq<|pn 1 E z λa E=>wR<|bM<|aJ<|aJ<|bM<|aJ<|o1 E z<|d_ m z (H.reads s)) λm=>wK<|bR<|aA<|wG<|pn 2 E z λa E=>⟨n,nL n,_,_,E.to z,H,s,m⟩

def P8(d:BY)(e:BY)(f:Bool):Option Bool:=
  if f=true then (some (false)) else ((iY d (ByteArray.mk #[47])).bind λg=>(mG e g).bind λb=>if b.2=true then (if (sEq b.1 (ByteArray.mk #[]))=true then (some (true)) else ((idx b.1.data.toList 0).bind λc=>some ((c.toNat:Int) == 47))) else (some (false)))
def P9(b:BY)(c:BY):Option Bool:=
  (gM b).bind λd=>if (!d)=true then (P8 c b true) else ((gM c).bind λe=>P8 c b (!e))
theorem Me{f g:BY}(H:Sep w (Fo) rs){r:Bool}(m:P9 f g=some r) :
    Cf 39 [.string f,.string g] w λv w'=>.bool r=v/\Sep w' (Fo) (rs):=by
 refine ent func39 z ntmps39 z z λa E=>sq<|pn 1 E z λa E=>wS<|aN (λa w=>∃ i,Jn 32 a w [(0,.string f),(1,.string g),(14,.bool i)] (Fo) rs (P8 g f i=some r)) (wG<|pr 1 E z λa E=>bd m λp j m=>xk2 E z (cf_ 56) (lK H j) λw H a E=>pr 2 E z λa E=>cs m (λb m=>pk 4 E (kc 10 z b) z λa E=>nt<|⟨_,_,E.to z,H,Y0,m⟩) λb m=>pk 1 E (kc 10 z b) z λa E=>bd m λq k m=>gc 10 E b z (cf_ 56) (lK H k)<|op0 λw H a E=>pk 2 E (kc 10 z b) z λa E=>nt<|⟨_,_,E.to z,H,Y0,m⟩) ?_;clear E H m;rintro a w ⟨i,s,E,H,e,m⟩;exact wif E m z (λm=>sq<|pn 1 E z λa E=>wR<|aJ<|o1 E z<|d_ m z (H.reads e)) λm=>wK<|aA<|sp 2 E z λa E=>bd m λu n m=>xk2 E z (cf_ 93) (Aw H n) λw H a E=>bd m λx o m=>xk2 E z (cf_ 92) (Bg H o) λw H a E=>pr 5 E z λa E=>xp 2 E z λa E=>cs m (λc m=>pk 3 E (kc 23 z c) z λa E=>cs m (λd m=>pk 6 E (kc' (kc 26 z d) 23 z c) z λa E=>nt<|wR<|o1 E z<|d_ m z (H.reads e)) λd m=>pk 1 E (kc 26 z d) z λa E=>bd m λt l m=>gv 26 E d z (Kv E z z z U9 l) λa E=>pk 4 E (kc' (kc 26 z d) 23 z c) z λa E=>nt<|wR<|o1 E z<|d_ m z (H.reads e)) λc m=>pk 9 E (kc 23 z c) z λa E=>nt<|wR<|o1 E z<|d_ m z (H.reads e)

def A5(rec_1:Int->Int->Option Int)(b:Int)(c:Int):Option Int:=
  rec_1 c (IntKind.i64.wrap (b+1))
def yM(rec_1:Int->Int->Option Int)(b:Int)(d:Int)(c:Bool):Option Int:=
  if c=true then (A5 rec_1 b b) else (A5 rec_1 b d)
def lD(b:List aF)(e:BY):Nat->Int->Int->Option Int
  | 0,_,_=>none
  | g+1,c,d=>
    if (decide (d < (b.length:Int)))=true then ((idx b d).bind λf=>(P9 e f.Prefix).bind λi=>if i=true then (if (decide (c < 0))=true then (yM (lD b e g) d c true) else ((idx b c).bind λj=>yM (lD b e g) d c (decide ((f.Prefix.size:Int) > (j.Prefix.size:Int))))) else (yM (lD b e g) d c false)) else ((qD b).bind λk=>if (!k)=true then (some ((-1))) else (some (c)))
def lP(b:List aF)(c:BY):Option Int:=
  lD b c (((b.length:Int) - 0:Int).toNat+1) (-1) 0
theorem B7{g:VL}{f:List aF}{i:BY}(H:Sep w (Fo) rs)(n:rSl aO g f ∈ rs){r:Int}(m:lP f i=some r) :
    Cf 11 [g,.string i] w λv w'=>.int .i64 r=v/\Sep w' (Fo) (rs):=by
 refine ent func11 z ntmps11 z z λa E=>sp 1 E z λa E=>nx<|pn 1 E z λa E=>wS<|sp 1 E z λa E=>lS E H n U26 z λa E=>pn 1 E z λa E=>wB<|bK (λj a w=>∃ o l,Jn 41 a w [(0,g),(1,.string i),(5,i_ o),(8,g),(9,i_ (f.length:Int)),(10,i_ l)] (Fo) rs (lD f i j o l=some r)) (((f.length:Int) - 0:Int).toNat+1) (X3 ⟨E.to z,H,Y0,m⟩) ?_;clear E H m;rintro j a w ⟨o,l,I,E,H,c,m⟩;cases j with
 | zero=>exact (bH m z).elim
 | succ j=>
  unfold lD at m;refine sq<|pn 1 E z λa E=>wS<|wif E m z (λm=>?_) λm=>wX<|aW<|aW<|cR<|aA<|wS<|sp 1 E z λa E=>bd m λQ D m=>xk2 E z (cf_ 21) (K8 H (c _ n) D) λw H a E=>pn 1 E z λa E=>wif E m z (λm=>sq<|pn 1 E z λa E=>wR<|aJ<|o1 E z<|d_ m z (H.reads c)) λm=>wK<|aA<|sq<|pn 2 E z λa E=>wR<|o1 E z<|d_ m z (H.reads c);refine wK<|aA<|aN (λa w=>∃ s,Jn 41 a w [(0,g),(1,.string i),(5,i_ s),(8,g),(9,i_ (f.length:Int)),(10,i_ l)] (Fo) rs (A5 (lD f i j) l s=some r)) ?_ ?_
  ·refine wB<|sp 1 E z λa E=>bd m λJ t m=>dH E H (wn z) z z z z z (c _ n) U26 iA t λq14 a H E=>ldf jO E H z z z z z m0 U52 z iA λa E=>al2 E H z Qn λK w a H E=>pr 1 E z λa E=>ss 0 E H z iA z λw H=>nt<|aN (λa w=>∃ p,Jn 41 a w [(0,g),(1,.string i),(5,i_ o),(6,i_ l),(8,g),(9,i_ (f.length:Int)),(10,i_ l),(34,.bool p)] (Fo) rs (yM (lD f i j) l o p=some r)) ?_ ?_
   ·obtain ⟨L,H⟩:=H.raw (t1 (c _ n));refine dw [(0,0),(1,0),(2,0),(3,1),(4,0),(5,0),(6,0),(7,0),(8,0),(9,0),(10,0),(11,0),(12,0),(13,0),(14,0),(15,0),(16,0),(17,0),(18,0),(19,0)] [0] [0] H (by kernel_rfl) (λ_ _ _ h=>False.elim h.2) λw W0 hI H=>fn 2 E z λa E=>fb2 E m0 U9 z λa E=>bO z<|bd m λM u m=>xk2 E z (cf_ 39) (Me H u) λw H a E=>nt<|⟨⟨_,_,H,(aE m0 (aM)),(aD m0 (aP))⟩,fn 1 E z λa E=>cs m (λe m=>?_) λe m=>?_⟩
    ·refine fk 3 E (kc 19 z e) z λa E=>cs m (λb m=>?_) λb m=>?_
     ·refine fk 12 E (kc' (kc 22 z b) 19 z e) z λa E=>bF<|?_;clear hI;exact aA<|have H:=H.drop 0;⟨_,_,E.to z,H,(Y2 c),m⟩
     refine fk 1 E (kc 22 z b) z λa E=>fb E z (ws' (d:=22) E z z z z b) z z z z m0 z U9 z λa E=>fk 3 E (kc 22 z b) z λa E=>bd m λN x m=>?_;obtain ⟨q26,O,y,A⟩:=eU (P:=Tryz.prog) (k:=.i64) hI (eT (.head _)) U26 iA x;refine dU E z (ws' (d:=22) E z z z z b) z z (λw hW=>gL E z z z (y w)) λa E=>?_;have B:=pM A (λ_ _ _ h=>mS h);refine fk 1 E (kc 22 z b) z λa E=>fa E z (ws' (d:=22) E z z z z b) z z z z B U9 z λa E=>fk 4 E (kc' (kc 22 z b) 19 z e) z λa E=>bF<|?_;clear hI;exact aA<|have H:=H.drop 0;⟨_,_,E.to z,H,(Y2 c),m⟩
    refine fk 15 E (kc 19 z e) z λa E=>bF<|?_;clear hI;exact aA<|have H:=H.drop 0;⟨_,_,E.to z,H,(Y2 c),m⟩
   clear E H m;rintro a w ⟨p,F,E,H,q,m⟩;exact wif E m z (λm=>wG<|pr 2 E z λa E=>wN<|bR<|aA<|⟨_,_,E.to z,H,q,m⟩) λm=>wK<|bR<|aA<|⟨_,_,E.to z,H,q,m⟩
  ·clear E H m;rintro a w ⟨s,G,E,H,C,m⟩;exact wG<|pn 2 E z λa E=>⟨j,nL j,X3 ⟨E.to z,H,C,m⟩⟩

def qJ(x1:aF)(b:BY):Option Int:=
  (rE x1.Prefix b).bind λc=>some (c)
theorem Hn{x1:aF}{b:BY}(H:Sep w (Fo) rs){r:Int}(m:qJ x1 b=some r) :
    Cf 195 [.agg (sG x1).toArray,.string b] w λv w'=>.int .i64 r=v/\Sep w' (Fo) (rs):=ent func195 z ntmps195 z z λa E=>sq<|bx E H z λd w a H E=>pr 1 E z λa E=>xp 1 E z λa E=>lb2 E H 0 U9 z λa E=>pr 1 E z λa E=>bd m λe c m=>xk2 E z (cf_ 81) (yS H c) λw H a E=>pn 1 E z λa E=>wR<|o1 E z<|have H:=H.drop 0;d_ m z (H.reads Y0)

def cW(c:List aF)(e:BY):Nat->Int->Int->Option B2
  | 0,_,_=>none
  | f+1,b,d=>
    if (decide (b < d))=true then ((idx c (IntKind.i64.wrap (vB .u64 (IntKind.u64.wrap (IntKind.i64.wrap (b+d))) 1))).bind λk=>(qJ k e).bind λg=>if (decide (g < 0))=true then (cW c e f (IntKind.i64.wrap ((IntKind.i64.wrap (vB .u64 (IntKind.u64.wrap (IntKind.i64.wrap (b+d))) 1))+1)) d) else (cW c e f b (IntKind.i64.wrap (vB .u64 (IntKind.u64.wrap (IntKind.i64.wrap (b+d))) 1)))) else (if (decide (b < (c.length:Int)))=true then ((idx c b).bind λi=>(qJ i e).bind λj=>some (b,j == 0)) else (some (b,false)))
def fP(b:List aF)(c:BY):Option B2:=
  cW b c (((b.length:Int) - 0:Int).toNat+1) 0 (b.length:Int)
theorem yN{j:VL}{f:List aF}{i:BY}(H:Sep w (Fo) rs)(g:rSl aO j f ∈ rs){r:Int×Bool}(m:fP f i=some r) :
    Cf 139 [j,.string i,.func (.func 195) #[] #[]] w λv w'=>.tuple #[i_ r.1,.bool r.2]=v/\Sep w' (Fo) (rs):=by
 refine ent func139 z ntmps139 z z λa E=>sp 2 E z λa E=>xp 1 E z λa E=>lS E H g U26 z λa E=>pr 1 E z λa E=>xp 3 E z λa E=>nt<|wS<|wB<|bK (λe a w=>∃ k l,Jn 49 a w [(0,j),(1,.string i),(2,.func (.func 195) #[] #[]),(8,i_ (f.length:Int)),(9,i_ k),(10,i_ l)] (Fo) rs (cW f i e k l=some r)) (((f.length:Int) - 0:Int).toNat+1) (X3 ⟨E.to z,H,Y0,m⟩) ?_;clear E H m;rintro e a w ⟨k,l,s,E,H,c,m⟩;cases e with
 | zero=>exact (bH m z).elim
 | succ e=>
  unfold cW at m;refine wS<|sq<|pn 3 E z λa E=>wif E m z (λm=>wK<|aA<|wB<|sp 4 E z λa E=>sv2 E z (Ii E z z z (by decide)) λa E=>pr 2 E z λa E=>xp 3 E z λa E=>bd m λA n m=>dH E H (wn z) z z z z z (c _ g) U26 iA n λq11 a H E=>ldf jO E H z z z z z m0 U52 z iA λa E=>pr 1 E z λa E=>bd m λt o m=>bP E (wn z) z z (bT E z z z ((cf_ 195) _)) (Hn H o)<|op0 λw H a E=>pn 1 E z λa E=>wif E m z (λm=>wG<|pr 3 E z λa E=>wN<|bR<|aA<|⟨e,nL e,X3 ⟨E.to z,H,(Y1 c),m⟩⟩) λm=>wG<|pr 2 E z λa E=>wN<|bR<|aA<|⟨e,nL e,X3 ⟨E.to z,H,(Y1 c),m⟩⟩) λm=>?_;refine wX<|aW<|aW<|cR<|aA<|sp 5 E z λa E=>cs m (λb m=>?_) λb m=>?_
  ·refine pk 3 E (kc 39 z b) z λa E=>bd m λu p m=>dH E H (ws' (d:=39) E z z z z b) z z z z z (c _ g) U26 iA p λq17 a H E=>Cu E H (ws' (d:=39) E z z z z b) z z z z m0 U52 z iA λx a H E=>?_;obtain ⟨_,hcs⟩:=H.rd (.head _);obtain rfl:=Ee hcs;clear hcs;refine pk 1 E (kc 39 z b) z λa E=>bd m λy q m=>bP E (ws' (d:=39) E z z z z b) z z (bT E z z z ((cf_ 195) _)) (Hn H q)<|op0 λw H a E=>pk 4 E (kc 39 z b) z λa E=>nt<|wR<|iW E z z z<|?_;cases m;exact ⟨z,H.reads (Y2 c)⟩
  ·refine pk 11 E (kc 39 z b) z λa E=>nt<|wR<|iW E z z z<|?_;cases m;exact ⟨z,H.reads c⟩

def zW(c:List aF)(d:BY):Option B2:=
  (fP c d).bind λb=>some (b.1,b.2)
theorem Ek{b:VL}{c:List aF}{d:BY}(H:Sep w (Fo) rs)(e:rSl aO b c ∈ rs){r:Int×Bool}(m:zW c d=some r) :
    Cf 138 [b,.string d] w λv w'=>.tuple #[i_ r.1,.bool r.2]=v/\Sep w' (Fo) (rs):=by
 refine ent func138 z ntmps138 z z λa E=>sp 2 E z λa E=>xp 2 E z λa E=>bd m λg f m=>xk2 E z (cf_ 139) (yN H e f) λw H a E=>pn 4 E z λa E=>wR<|iW E z z z<|?_;cases m;exact ⟨z,H.reads Y0⟩

def F7(c:Int×Bool)(x3:aF)(b:fJ):Option Cn:=
  (idx b c.1).bind λd=>some (b.set c.1.toNat x3,true)
def F8(b:Int×Bool)(x3:aF)(c:List aF)(d:Bool):Option Cn:=
  if d=true then (some ([],false)) else ((ck (c.length <= LIM)).bind λe=>if (!b.2)=true then ((ck (0 <= b.1/\b.1 <= c.length/\c.length <= 1000000)).bind λf=>F7 b x3 (c.take b.1.toNat ++ x3::c.drop b.1.toNat)) else (F7 b x3 c))
def qE(b:List aF)(x3:aF):Option Cn:=
  (zW b x3.Prefix).bind λc=>if (!c.2)=true then (F8 c x3 b ((b.length:Int) == 32)) else (F8 c x3 b false)
theorem Gr{p:VL}{q:List aF}{x3:aF}(H:Sep w (Fo) rs)(g:rSl aO p q ∈ rs){r:fJ×Bool}(m:qE q x3=some r) :
    Cf 130 [p,.agg (sG x3).toArray] w λv w'=>∃ A,.tuple #[A,.bool r.2]=v/\Sep w' (Row 52 aO A r.1::Fo) (rs):=by
 refine ent func130 z ntmps130 z z λa E=>sq<|bx E H z λo w a H E=>pr 2 E z λa E=>xp 2 E z λa E=>lb2 E H 0 U9 z λa E=>bd m λj B m=>xk2 E z (cf_ 138) (Ek H g B) λw H a E=>pn 5 E z λa E=>wS<|aN (λa w=>∃ s,Jn 36 a w [(0,p),(3,pt o 0),(6,i_ j.1),(7,.bool j.2),(21,.bool s)] (Blk o 52 (sG x3)::Fo) rs (F8 j x3 q s=some r)) (wG<|pr 3 E z λa E=>cs m (λb m=>pk 1 E (kc 17 z b) z λa E=>gv 17 E b z (vJ E H z z g U26) λa E=>pk 2 E (kc 17 z b) z λa E=>nt<|⟨_,_,E.to z,H,Y0,m⟩) λb m=>pk 4 E (kc 17 z b) z λa E=>nt<|⟨_,_,E.to z,H,Y0,m⟩) ?_;clear E H m;rintro a w ⟨s,D,E,H,c,m⟩;refine wif E m z (λm=>?_) λm=>?_
 ·refine sq<|pn 2 E z λa E=>wR<|aJ<|iW E z z z<|have H:=H.nilRow 52 aO;have H:=H.drop 1;?_;cases m;exact ⟨_,z,H.reads c⟩
 ·refine wK<|aA<|sp 1 E z λa E=>bk m λt m=>xc2 E z (cf_ 40) (uY H (c _ g) t) λF w H a E=>pn 1 E z λa E=>aN (λa w=>∃ k l,Jn 36 a w [(0,k),(3,pt o 0),(6,i_ j.1)] (Row 52 aO k l::Blk o 52 (sG x3)::Fo) rs (F7 j x3 l=some r)) (sq<|pn 2 E z λa E=>wif E m z (λm=>wG<|pr 2 E z λa E=>ln 1 (sG x3) E H U52 z iA λa E=>pL (e:=52) (d:=aO) (cs:=[.string x3.Prefix,i_ x3.Epoch,i_ x3.State]) (xs:=[x3]) E H (wn z) z z z (E.evs z) (by kernel_rfl) z z (λok hr=>(Rows.single (d:=aO) (cs:=[.string x3.Prefix,i_ x3.Epoch,i_ x3.State]) (x:=x3) F1)) λG w a H E=>bk m λu m=>xc2 E z (cf_ 141) (Ra.insert_a (ix:=1) (iu:=0) H z z (by decide) u) λI w H a E=>pn 1 E z λa E=>have H:=H.drop 0;X3 ⟨E.to z,H,c,m⟩) λm=>wK<|aA<|X3 ⟨E.to z,H,c,m⟩) ?_;clear E H m;rintro a w ⟨k,l,C,E,H,y,m⟩;refine sp 2 E z λa E=>ln 1 (sG x3) E H U52 z iA λa E=>bd m λJ f m=>?_;obtain ⟨K,L,n⟩:=H.rowformNE (i:=0) z f;refine sv2 E z (dS (d:=aO) E n z z z z U26 iA f) λa E=>Al (d:=aO) (i:=0) (us:=[.string x3.Prefix,i_ x3.Epoch,i_ x3.State]) (z':=x3) E H jO (wn z) z n z z z z z z z f iA λw H=>nx<|pn 3 E z λa E=>wR<|iW E z z z<|have H:=H.drop 1;?_;cases m;exact ⟨_,z,H.reads y⟩

def yX(c:List aF)(e:Int)(f:BY)(g:Bool):Option Cn:=
  if g=true then (some ([],false)) else ((idx c e).bind λd=>(qE c (⟨f,d.Epoch,2⟩:aF)).bind λb=>some (b.1,b.2))
def wD(b:List aF)(d:BY):Option Cn:=
  (lP b d).bind λc=>if (decide (c < 0))=true then (yX b c d true) else ((idx b c).bind λe=>yX b c d (e.State != 1))
theorem Uo{i:VL}{j:List aF}{f:BY}(H:Sep w (Fo) rs)(c:rSl aO i j ∈ rs){r:fJ×Bool}(m:wD j f=some r) :
    Cf 73 [i,.string f] w λv w'=>∃ p,.tuple #[p,.bool r.2]=v/\Sep w' (Row 52 aO p r.1::Fo) (rs):=by
 refine ent func73 z ntmps73 z z λa E=>sp 2 E z λa E=>xp 2 E z λa E=>bd m λq s m=>xk2 E z (cf_ 11) (B7 H c s) λw H a E=>pn 1 E z λa E=>wS<|aN (λa w=>∃ k,Jn 31 a w [(0,i),(1,.string f),(6,i_ q),(19,.bool k)] (Fo) rs (yX j q f k=some r)) (wG<|pr 3 E z λa E=>cs m (λb m=>pk 7 E (kc 12 z b) z λa E=>nt<|⟨_,_,E.to z,H,Y0,m⟩) λb m=>pk 2 E (kc 12 z b) z λa E=>bd m λt l m=>dH E H (ws' (d:=12) E z z z z b) z z z z z c U26 iA l λq19 a H E=>have H:=H.derive1 m0 (rAt (kI .i64) (q19.add 2) t.State) (λok h=>Aq h);pk 1 E (kc 12 z b) z λa E=>gv 12 E b z (rI E H z z m0 U3 z) λa E=>pk 2 E (kc 12 z b) z λa E=>nt<|⟨_,_,E.to z,H,(Y2 Y0),m⟩) ?_;clear E H m;rintro a w ⟨k,u,E,H,e,m⟩;refine wif E m z (λm=>?_) λm=>?_
 ·refine sq<|pn 2 E z λa E=>wR<|aJ<|iW E z z z<|have H:=H.nilRow 52 aO;?_;cases m;exact ⟨_,z,H.reads e⟩
 ·refine wK<|aA<|sp 4 E z λa E=>bd m λg n m=>dH E H (wn z) z z z z z (e _ c) U26 iA n λq12 a H E=>have H:=H.derive1 m0 (rAt (kI .i64) (q12.add 1) g.Epoch) (λok h=>Ap h);pr 1 E z λa E=>sv2 E z (rI E H z z m0 U2 z) λa E=>sv2 E z (cP E z (E.evs z) (v:=.agg #[.string f,i_ g.Epoch,i_ 2]) (by kernel_rfl)) λa E=>bd m λx o m=>xc2 E z (cf_ 130) (Gr (x3:=(⟨f,g.Epoch,2⟩:aF)) H (t2 (e _ c)) o)<|op1 λy w H a E=>pn 4 E z λa E=>wR<|iW E z z z<|?_;cases m;exact ⟨_,z,H.reads (Y2 e)⟩

def tK(d:List aF)(e:BY)(x4:Int)(c:Bool):Option Cn:=
  if c=true then (some ([],false)) else ((qE d (⟨e,x4,1⟩:aF)).bind λb=>some (b.1,b.2))
def nA(b:List aF)(c:BY)(x4:Int)(f:Bool):Option Cn:=
  if f=true then (some ([],false)) else ((zW b c).bind λd=>if d.2=true then ((idx b d.1).bind λe=>tK b c x4 (decide (e.Epoch ≥ x4))) else (tK b c x4 false))
def mU(b:List aF)(c:BY)(x4:Int):Option Cn:=
  (qD b).bind λd=>if (!d)=true then (nA b c x4 true) else ((gM c).bind λe=>if (!e)=true then (nA b c x4 true) else (if (decide (x4 < 0))=true then (nA b c x4 true) else (nA b c x4 (decide (x4 > 281474976710656)))))
theorem Td{n:VL}{o:List aF}{e:BY}{x4:Int}(H:Sep w (Fo) rs)(k:rSl aO n o ∈ rs){r:fJ×Bool}(m:mU o e x4=some r) :
    Cf 76 [n,.string e,i_ x4] w λv w'=>∃ y,.tuple #[y,.bool r.2]=v/\Sep w' (Row 52 aO y r.1::Fo) (rs):=by
 refine ent func76 z ntmps76 z z λa E=>sq<|pn 2 E z λa E=>wS<|aN (λa w=>∃ p,Jn 49 a w [(0,n),(1,.string e),(2,i_ x4),(25,.bool p)] (Fo) rs (nA o e x4 p=some r)) (wG<|pr 1 E z λa E=>bd m λC q m=>xk2 E z (cf_ 21) (K8 H k q) λw H a E=>pr 2 E z λa E=>cs m (λc m=>pk 12 E (kc 13 z c) z λa E=>nt<|⟨_,_,E.to z,H,Y0,m⟩) λc m=>pk 1 E (kc 13 z c) z λa E=>bd m λD s m=>gc 13 E c z (cf_ 56) (lK H s)<|op0 λw H a E=>pk 3 E (kc 13 z c) z λa E=>cs m (λg m=>pk 7 E (kc 18 z g) z λa E=>nt<|⟨_,_,E.to z,H,Y0,m⟩) λg m=>pk 4 E (kc 18 z g) z λa E=>cs m (λi m=>pk 3 E (kc 22 z i) z λa E=>nt<|⟨_,_,E.to z,H,Y0,m⟩) λi m=>pk 3 E (kc 22 z i) z λa E=>nt<|⟨_,_,E.to z,H,Y0,m⟩) ?_;clear E H m;rintro a w ⟨p,F,E,H,f,m⟩;refine wif E m z (λm=>?_) λm=>?_
 ·refine sq<|pn 2 E z λa E=>wR<|aJ<|iW E z z z<|have H:=H.nilRow 52 aO;?_;cases m;exact ⟨_,z,H.reads f⟩
 ·refine wK<|aA<|wS<|sp 2 E z λa E=>bd m λJ t m=>xk2 E z (cf_ 138) (Ek H (f _ k) t) λw H a E=>pn 5 E z λa E=>aN (λa w=>∃ l,Jn 49 a w [(0,n),(1,.string e),(2,i_ x4),(41,.bool l)] (Fo) rs (tK o e x4 l=some r)) (wG<|pr 2 E z λa E=>cs m (λb m=>pk 2 E (kc 33 z b) z λa E=>bd m λA u m=>dH E H (ws' (d:=33) E z z z z b) z z z z z (f _ k) U26 iA u λq20 a H E=>have H:=H.derive1 m0 (rAt (kI .i64) (q20.add 1) A.Epoch) (λok h=>Ap h);pk 1 E (kc 33 z b) z λa E=>gv 33 E b z (rI E H z z m0 U2 z) λa E=>pk 3 E (kc 33 z b) z λa E=>nt<|⟨_,_,E.to z,H,(Y2 f),m⟩) λb m=>pk 8 E (kc 33 z b) z λa E=>nt<|⟨_,_,E.to z,H,f,m⟩) ?_;clear E H m;rintro a w ⟨l,B,E,H,j,m⟩;refine wif E m z (λm=>?_) λm=>?_
  ·refine sq<|pn 2 E z λa E=>wR<|aJ<|iW E z z z<|have H:=H.nilRow 52 aO;?_;cases m;exact ⟨_,z,H.reads j⟩
  ·refine wK<|aA<|sp 3 E z λa E=>sv2 E z (cP E z (E.evs z) (v:=.agg #[.string e,i_ x4,i_ 1]) (by kernel_rfl)) λa E=>bd m λG x m=>xc2 E z (cf_ 130) (Gr (x3:=(⟨e,x4,1⟩:aF)) H (j _ k) x)<|op1 λI w H a E=>pn 4 E z λa E=>wR<|iW E z z z<|?_;cases m;exact ⟨_,z,H.reads j⟩

def uD(d:List aF)(e:BY)(x4:Int)(c:Bool):Option Cn:=
  if c=true then (some ([],false)) else ((qE d (⟨e,x4,3⟩:aF)).bind λb=>some (b.1,b.2))
def xP(b:List aF)(c:BY)(x4:Int):Option Cn:=
  (qD b).bind λg=>if (!g)=true then (some ([],false)) else ((zW b c).bind λd=>if (!d.2)=true then (uD b c x4 true) else ((idx b d.1).bind λe=>if (e.State != 2)=true then (uD b c x4 true) else ((idx b d.1).bind λf=>uD b c x4 (f.Epoch != x4))))
theorem Yp{j:VL}{k:List aF}{g:BY}{x4:Int}(H:Sep w (Fo) rs)(e:rSl aO j k ∈ rs){r:fJ×Bool}(m:xP k g x4=some r) :
    Cf 84 [j,.string g,i_ x4] w λv w'=>∃ p,.tuple #[p,.bool r.2]=v/\Sep w' (Row 52 aO p r.1::Fo) (rs):=by
 refine ent func84 z ntmps84 z z λa E=>sq<|pn 2 E z λa E=>wS<|sp 1 E z λa E=>bd m λB q m=>xk2 E z (cf_ 21) (K8 H e q) λw H a E=>pn 1 E z λa E=>wif E m z (λm=>?_) λm=>?_
 ·refine sq<|pn 2 E z λa E=>wR<|aJ<|iW E z z z<|have H:=H.nilRow 52 aO;?_;cases m;exact ⟨_,z,H.reads Y0⟩
 ·refine wK<|aA<|sp 2 E z λa E=>bd m λC s m=>xk2 E z (cf_ 138) (Ek H e s) λw H a E=>pn 5 E z λa E=>wS<|aN (λa w=>∃ i,Jn 45 a w [(0,j),(1,.string g),(2,i_ x4),(37,.bool i)] (Fo) rs (uD k g x4 i=some r)) (wG<|pr 3 E z λa E=>cs m (λb m=>pk 16 E (kc 21 z b) z λa E=>nt<|⟨_,_,E.to z,H,Y0,m⟩) λb m=>pk 2 E (kc 21 z b) z λa E=>bd m λt l m=>dH E H (ws' (d:=21) E z z z z b) z z z z z e U26 iA l λq19 a H E=>have H:=H.derive1 m0 (rAt (kI .i64) (q19.add 2) t.State) (λok h=>Aq h);pk 1 E (kc 21 z b) z λa E=>gv 21 E b z (rI E H z z m0 U3 z) λa E=>pk 3 E (kc 21 z b) z λa E=>cs m (λc m=>pk 8 E (kc 29 z c) z λa E=>nt<|⟨_,_,E.to z,H,(Y2 Y0),m⟩) λc m=>pk 2 E (kc 29 z c) z λa E=>bd m λu n m=>dH E H (ws' (d:=29) E z z z z c) z z z z z (t2 e) U26 iA n λq23 a H E=>have H:=H.derive1 m0 (rAt (kI .i64) (q23.add 1) u.Epoch) (λok h=>Ap h);pk 1 E (kc 29 z c) z λa E=>gv 29 E c z (rI E H z z m0 U2 z) λa E=>pk 3 E (kc 29 z c) z λa E=>nt<|⟨_,_,E.to z,H,(Y4 Y0),m⟩) ?_;clear E H m;rintro a w ⟨i,x,E,H,f,m⟩;refine wif E m z (λm=>?_) λm=>?_
  ·refine sq<|pn 2 E z λa E=>wR<|aJ<|iW E z z z<|have H:=H.nilRow 52 aO;?_;cases m;exact ⟨_,z,H.reads f⟩
  ·refine wK<|aA<|sp 3 E z λa E=>sv2 E z (cP E z (E.evs z) (v:=.agg #[.string g,i_ x4,i_ 3]) (by kernel_rfl)) λa E=>bd m λy o m=>xc2 E z (cf_ 130) (Gr (x3:=(⟨g,x4,3⟩:aF)) H (f _ e) o)<|op1 λA w H a E=>pn 4 E z λa E=>wR<|iW E z z z<|?_;cases m;exact ⟨_,z,H.reads f⟩

def S8(x1:aF)(b:BY):Option Int:=
  (rE x1.Prefix b).bind λc=>some (c)
theorem Hp{x1:aF}{b:BY}(H:Sep w (Fo) rs){r:Int}(m:S8 x1 b=some r) :
    Cf 140 [.agg (sG x1).toArray,.string b] w λv w'=>.int .i64 r=v/\Sep w' (Fo) (rs):=ent func140 z ntmps140 z z λa E=>sq<|bx E H z λd w a H E=>pr 1 E z λa E=>xp 1 E z λa E=>lb2 E H 0 U9 z λa E=>pr 1 E z λa E=>bd m λe c m=>xk2 E z (cf_ 81) (yS H c) λw H a E=>pn 1 E z λa E=>wR<|o1 E z<|have H:=H.drop 0;d_ m z (H.reads Y0)

def cQ(b:List aF)(d:BY):Nat->Int->Int->Option B2
  | 0,_,_=>none
  | e+1,x4,c=>
    if (decide (x4 < c))=true then ((idx b (IntKind.i64.wrap (vB .u64 (IntKind.u64.wrap (IntKind.i64.wrap (x4+c))) 1))).bind λj=>(S8 j d).bind λf=>if (decide (f < 0))=true then (cQ b d e (IntKind.i64.wrap ((IntKind.i64.wrap (vB .u64 (IntKind.u64.wrap (IntKind.i64.wrap (x4+c))) 1))+1)) c) else (cQ b d e x4 (IntKind.i64.wrap (vB .u64 (IntKind.u64.wrap (IntKind.i64.wrap (x4+c))) 1)))) else (if (decide (x4 < (b.length:Int)))=true then ((idx b x4).bind λg=>(S8 g d).bind λi=>some (x4,i == 0)) else (some (x4,false)))
def eA(b:List aF)(c:BY):Option B2:=
  cQ b c (((b.length:Int) - 0:Int).toNat+1) 0 (b.length:Int)
theorem xQ{j:VL}{e:List aF}{p:BY}(H:Sep w (Row 52 aO j e::Fo) rs){r:Int×Bool}(m:eA e p=some r) :
    Cf 139 [j,.string p,.func (.func 140) #[] #[]] w λv w'=>.tuple #[i_ r.1,.bool r.2]=v/\Sep w' (Row 52 aO j e::Fo) (rs):=by
 refine ent func139 z ntmps139 z z λa E=>sp 2 E z λa E=>xp 1 E z λa E=>sv2 E z (lF (i:=0) E H z z z U26) λa E=>pr 1 E z λa E=>xp 3 E z λa E=>nt<|wS<|wB<|bK (λc a w=>∃ x4 q,Jn 49 a w [(0,j),(1,.string p),(2,.func (.func 140) #[] #[]),(8,i_ (e.length:Int)),(9,i_ x4),(10,i_ q)] (Row 52 aO j e::Fo) rs (cQ e p c x4 q=some r)) (((e.length:Int) - 0:Int).toNat+1) (X3 ⟨E.to z,H,Y0,m⟩) ?_;clear E H m;rintro c a w ⟨x4,q,x,E,H,g,m⟩;cases c with
 | zero=>exact (bH m z).elim
 | succ c=>
  unfold cQ at m;refine wS<|sq<|pn 3 E z λa E=>wif E m z (λm=>?_) λm=>?_
  ·refine wK<|aA<|wB<|sp 4 E z λa E=>sv2 E z (Ii E z z z (by decide)) λa E=>pr 2 E z λa E=>xp 3 E z λa E=>bd m λs k m=>?_;obtain ⟨y,A,l⟩:=H.rowformNE (i:=0) z k;exact sv2 E z (dS (d:=aO) E l z z z z U26 iA k) λa E=>sv2 E z (lG (i:=0) E H jO l z z z k (us:=[.string s.Prefix,i_ s.Epoch,i_ s.State]) z U52 z iA) λa E=>pr 1 E z λa E=>bd m λB t m=>bP E (wn z) z z (bT E z z z ((cf_ 140) _)) (Hp H t)<|op0 λw H a E=>pn 1 E z λa E=>wif E m z (λm=>wG<|pr 3 E z λa E=>wN<|bR<|aA<|⟨c,nL c,X3 ⟨E.to z,H,g,m⟩⟩) λm=>wG<|pr 2 E z λa E=>wN<|bR<|aA<|⟨c,nL c,X3 ⟨E.to z,H,g,m⟩⟩
  ·refine wX<|aW<|aW<|cR<|aA<|sp 5 E z λa E=>cs m (λb m=>?_) λb m=>?_
   ·refine pk 3 E (kc 39 z b) z λa E=>bd m λn f m=>?_;obtain ⟨C,D,o⟩:=H.rowformNE (i:=0) z f;refine gv 39 E b z (dS (d:=aO) E o z z z z U26 iA f) λa E=>gv 39 E b z (lG (i:=0) E H jO o z z z f (us:=[.string n.Prefix,i_ n.Epoch,i_ n.State]) z U52 z iA) λa E=>pk 1 E (kc 39 z b) z λa E=>bd m λF u m=>bP E (ws' (d:=39) E z z z z b) z z (bT E z z z ((cf_ 140) _)) (Hp H u)<|op0 λw H a E=>pk 4 E (kc 39 z b) z λa E=>nt<|wR<|iW E z z z<|?_;cases m;exact ⟨z,H.reads g⟩
   ·refine pk 11 E (kc 39 z b) z λa E=>nt<|wR<|iW E z z z<|?_;cases m;exact ⟨z,H.reads g⟩

def B8(rec_1:fJ->Int->Option fJ)(c:Int)(b:fJ):Option fJ:=
  rec_1 b (IntKind.i64.wrap (c+1))
def oT(d:List BY):Nat->fJ->Int->Option fJ
  | 0,_,_=>none
  | g+1,c,e=>
    if (decide (e < (d.length:Int)))=true then ((idx d e).bind λf=>(eA c f).bind λb=>if (!b.2)=true then ((ck (0 <= b.1/\b.1 <= c.length/\c.length <= 1000000)).bind λi=>B8 (oT d g) e (c.take b.1.toNat ++ (⟨f,0,3⟩:aF)::c.drop b.1.toNat)) else (B8 (oT d g) e c)) else (some (c))
def xR(c:List aF)(b:List BY):Option fJ:=
  oT b (((b.length:Int) - 0:Int).toNat+1) c 0
theorem Yq{y l:VL}{A:List aF}{f:List BY}(H:Sep w (Row 52 aO y A::Fo) rs)(n:rSl kS l f ∈ rs){r:fJ}(m:xR A f=some r) :
    Cf 77 [y,l] w λv w'=>∃ B,B=v/\Sep w' (Row 52 aO B r::Fo) (rs):=by
 refine ent func77 z ntmps77 z z λa E=>sq<|pn 1 E z λa E=>wS<|sp 1 E z λa E=>lS E H n U43 z λa E=>pr 1 E z λa E=>nt<|wB<|bK (λg a w=>∃ o p i,Jn 31 a w [(0,o),(9,l),(10,i_ (f.length:Int)),(11,i_ i)] (Row 52 aO o p::Fo) rs (oT f g p i=some r)) (((f.length:Int) - 0:Int).toNat+1) (X4 ⟨E.to z,H,Y0,m⟩) ?_;clear E H m;rintro g a w ⟨o,p,i,D,E,H,b,m⟩;cases g with
 | zero=>exact (bH m z).elim
 | succ g=>
  unfold oT at m;refine sq<|pn 1 E z λa E=>wS<|wif E m z (λm=>?_) λm=>?_
  ·refine wK<|aA<|aN (λa w=>∃ j k,Jn 31 a w [(0,j),(9,l),(10,i_ (f.length:Int)),(11,i_ i)] (Row 52 aO j k::Fo) rs (B8 (oT f g) i k=some r)) (wB<|sq<|bd m λc q m=>dH E H (wn z) z z z z z (b _ n) U43 sz9 q λq17 a H E=>sv2 E z (rI E H z z m0 U9 z) λa E=>pr 1 E z λa E=>xp 2 E z λa E=>bd m λF s m=>xk2 E z (cf_ 139) (xQ H s) λw H a E=>pr 5 E z λa E=>nx<|pn 2 E z λa E=>wif E m z (λm=>wG<|pr 3 E z λa E=>sv2 E z (cP E z (E.evs z) (v:=.agg #[.string c,i_ 0,i_ 3]) (by kernel_rfl)) λa E=>pL (e:=52) (d:=aO) (cs:=[.string c,i_ 0,i_ 3]) (xs:=[(⟨c,0,3⟩:aF)]) E H (wn z) z z z (E.evs z) (by kernel_rfl) z z (λok hr=>(Rows.single (d:=aO) (cs:=[.string c,i_ 0,i_ 3]) (x:=(⟨c,0,3⟩:aF)) F1)) λG w a H E=>bk m λt m=>xc2 E z (cf_ 141) (Ra.insert_a (ix:=1) (iu:=0) H z z (by decide) t) λI w H a E=>pr 1 E z λa E=>wN<|bR<|aA<|have H:=H.drop 0;X3 ⟨E.to z,H,(Y1 b),m⟩) λm=>wK<|bR<|aA<|X3 ⟨E.to z,H,(Y1 b),m⟩) ?_;clear E H m;rintro a w ⟨j,k,C,E,H,u,m⟩;exact wG<|pn 2 E z λa E=>⟨g,nL g,X4 ⟨E.to z,H,u,m⟩⟩
  ·refine wX<|aW<|aW<|cR<|aA<|sq<|pn 2 E z λa E=>wR<|o1 E z<|?_;cases m;exact ⟨_,z,H.reads b⟩

def yC(b:BY):Option Bool:=
  if (sEq b (ByteArray.mk #[]))=true then (some (true)) else ((gM b).bind λc=>some (c))
theorem Fq{c:BY}(H:Sep w (Fo) rs){r:Bool}(m:yC c=some r) :
    Cf 91 [.string c] w λv w'=>.bool r=v/\Sep w' (Fo) (rs):=ent func91 z ntmps91 z z λa E=>sp 1 E z λa E=>xp 3 E z λa E=>cs m (λb m=>pk 4 E (kc 5 z b) z λa E=>nt<|wR<|o1 E z<|d_ m z (H.reads Y0)) λb m=>pk 1 E (kc 5 z b) z λa E=>bd m λe d m=>gc 5 E b z (cf_ 56) (lK H d)<|op0 λw H a E=>pk 2 E (kc 5 z b) z λa E=>nt<|wR<|o1 E z<|d_ m z (H.reads Y0)

def rZ(rec_1:Int->Option Bool)(x4:Int)(b:Bool):Option Bool:=
  if b=true then (some (false)) else (rec_1 (IntKind.i64.wrap (x4+1)))
def mI(b:List Int):Nat->Int->Option Bool
  | 0,_=>none
  | c+1,x4=>
    if (decide (x4 < (b.length:Int)))=true then ((idx b x4).bind λd=>if (decide (d < 0))=true then (rZ (mI b c) x4 true) else (rZ (mI b c) x4 (decide (d > 281474976710656)))) else (some (true))
def zX(b:List Int):Option Bool:=
  mI b (((b.length:Int) - 0:Int).toNat+1) 0
theorem Qw{i:VL}{b:List Int}(H:Sep w (Fo) rs)(j:rSl (kI .i64) i b ∈ rs){r:Bool}(m:zX b=some r) :
    Cf 90 [i] w λv w'=>.bool r=v/\Sep w' (Fo) (rs):=by
 refine ent func90 z ntmps90 z z λa E=>sq<|pn 1 E z λa E=>wS<|sp 1 E z λa E=>lS E H j U38 z λa E=>pr 1 E z λa E=>nt<|wB<|bK (λc a w=>∃ x4,Jn 18 a w [(5,i),(6,i_ (b.length:Int)),(7,i_ x4)] (Fo) rs (mI b c x4=some r)) (((b.length:Int) - 0:Int).toNat+1) (⟨_,_,E.to z,H,Y0,m⟩) ?_;clear E H m;rintro c a w ⟨x4,n,E,H,e,m⟩;cases c with
 | zero=>exact (bH m z).elim
 | succ c=>
  unfold mI at m;refine sq<|pn 1 E z λa E=>wS<|wif E m z (λm=>?_) λm=>wX<|aW<|aW<|cR<|aA<|sq<|pn 1 E z λa E=>wR<|o1 E z<|d_ m z (H.reads e);refine wK<|aA<|wS<|wB<|sq<|bd m λo k m=>dH E H (wn z) z z z z z (e _ j) U38 sz2 k λq9 a H E=>sv2 E z (rI E H z z m0 U2 z) λa E=>pr 1 E z λa E=>nt<|aN (λa w=>∃ f,Jn 18 a w [(5,i),(6,i_ (b.length:Int)),(7,i_ x4),(16,.bool f)] (Fo) rs (rZ (mI b c) x4 f=some r)) (wG<|pr 3 E z λa E=>cs m (λd m=>pk 3 E (kc 13 z d) z λa E=>nt<|⟨_,_,E.to z,H,(Y1 e),m⟩) λd m=>pk 3 E (kc 13 z d) z λa E=>nt<|⟨_,_,E.to z,H,(Y1 e),m⟩) ?_;clear E H m;rintro a w ⟨f,l,E,H,g,m⟩;exact wif E m z (λm=>sq<|pn 1 E z λa E=>wR<|bM<|aJ<|aJ<|bM<|aJ<|o1 E z<|d_ m z (H.reads g)) λm=>wK<|bR<|aA<|wG<|pn 2 E z λa E=>⟨c,nL c,_,_,E.to z,H,g,m⟩

def pR(rec_1:Int->Int->Option Bool)(b:dE)(c:Int)(d:Bool):Option Bool:=
  if d=true then (some (false)) else (rec_1 b.Op (IntKind.i64.wrap (c+1)))
def pS(rec_2:Int->Option Bool)(b:Int)(c:Bool):Option Bool:=
  if c=true then (some (false)) else (rec_2 (IntKind.i64.wrap (b+1)))
def jG(x1:aK)(b:Bool):Option Bool:=
  if b=true then (if (decide ((x1.Gone.length:Int) <= 32))=true then ((sN x1.Store).bind λc=>if c=true then (if (decide ((x1.Store.Nodes.length:Int) <= 512))=true then (some (decide ((x1.Store.Turns.length:Int) <= 512))) else (some (false))) else (some (false))) else (some (false))) else (some (false))
def fK(x1:aK)(b:Bool):Option Bool:=
  if b=true then ((zX ([x1.Id,x1.Txn,x1.Age,x1.Epoch,x1.Watch.Session,x1.Watch.Num]:List Int)).bind λc=>if c=true then ((yC x1.Prefix).bind λd=>if d=true then ((yC x1.Watch.Path).bind λe=>jG x1 e) else (jG x1 false)) else (jG x1 false)) else (jG x1 false)
def fL(x1:aK):Nat->Int->Option Bool
  | 0,_=>none
  | d+1,b=>
    if (decide (b < (x1.Gone.length:Int)))=true then ((idx x1.Gone b).bind λc=>(P9 c x1.Prefix).bind λe=>if (!e)=true then (pS (fL x1 d) b true) else (if (sEq c x1.Prefix)=true then (pS (fL x1 d) b true) else (if (decide (b > 0))=true then ((idx x1.Gone (IntKind.i64.wrap (b - 1))).bind λf=>pS (fL x1 d) b (!(sLt f c))) else (pS (fL x1 d) b false)))) else (if (decide (x1.Kind ≥ 1))=true then (if (decide (x1.Kind <= 13))=true then (if (decide (x1.To ≥ 0))=true then (if (decide (x1.To < 4))=true then (fK x1 (decide ((x1.Pieces.length:Int) <= 16))) else (fK x1 false)) else (fK x1 false)) else (fK x1 false)) else (fK x1 false))
def gW(x1:aK):Nat->Int->Int->Option Bool
  | 0,_,_=>none
  | d+1,e,c=>
    if (decide (c < (x1.Pieces.length:Int)))=true then ((idx x1.Pieces c).bind λb=>if (decide (b.Op < e))=true then (pR (gW x1 d) b c true) else (if (decide (b.Op ≥ 8))=true then (pR (gW x1 d) b c true) else ((S7 b.Part).bind λf=>if (!f)=true then (pR (gW x1 d) b c true) else (pR (gW x1 d) b c (decide (b.Part.Version ≥ 281474976710656)))))) else (fL x1 (((x1.Gone.length:Int) - 0:Int).toNat+1) 0)
def fE(x1:aK):Option Bool:=
  gW x1 (((x1.Pieces.length:Int) - 0:Int).toNat+1) 0 0
theorem Te{x1:aK}{I K L J:VL}(H:Sep w (Fo) rs)(S:rSl bU I x1.Pieces ∈ rs)(b1:rSl aB K x1.Store.Nodes ∈ rs)(b2:rSl aC L x1.Store.Turns ∈ rs)(R:rSl kS J x1.Gone ∈ rs){r:Bool}(m:fE x1=some r) :
    Cf 34 [.agg (aS x1 I K L J).toArray] w λv w'=>.bool r=v/\Sep w' (Fo) (rs):=by
 refine ent func34 z ntmps34 z z λa E=>sq<|bx E H z λg w a H E=>pr 1 E z λa E=>nx<|pn 1 E z λa E=>wS<|sq<|pr 1 E z λa E=>lb2 E H 0 U42 z λa E=>lS E H S U42 z λa E=>pn 1 E z λa E=>wB<|bK (λP a w=>∃ T N,Jn 154 a w [(1,pt g 0),(3,i_ T),(10,I),(11,i_ (x1.Pieces.length:Int)),(12,i_ N)] (Blk g 47 (aS x1 I K L J)::Fo) rs (gW x1 P T N=some r)) (((x1.Pieces.length:Int) - 0:Int).toNat+1) (X3 ⟨E.to z,H,Y0,m⟩) ?_;clear E H m;rintro P a w ⟨T,N,c3,E,H,k,m⟩;cases P with
 | zero=>exact (bH m z).elim
 | succ P=>
  unfold gW at m;refine sq<|pn 1 E z λa E=>wS<|wif E m z (λm=>?_) λm=>?_
  ·refine wK<|aA<|wS<|wB<|sq<|bd m λU b4 m=>dH E H (wn z) z z z z z (k _ S) U42 R2 b4 λq17 a H E=>ldf J2 E H z z z z z m0 DH z R2 λa E=>al2 E H z Wv λb3 w a H E=>ss 0 E H z R2 z λw H=>nt<|wS<|aN (λa w=>∃ V,Jn 154 a w [(1,pt g 0),(5,pt b3 0),(10,I),(11,i_ (x1.Pieces.length:Int)),(12,i_ N),(36,.bool V)] (Blk g 47 (aS x1 I K L J)::Blk b3 146 (Pj U)::Fo) rs (pR (gW x1 P) U N V=some r)) (wG<|pr 1 E z λa E=>lb2 E H 0 U3 z λa E=>pr 3 E z λa E=>cs m (λy m=>pk 16 E (kc 20 z y) z λa E=>nt<|have H:=H.frs [0,1] z;⟨_,_,E.to z,H,(Y1 k),m⟩) λy m=>pk 1 E (kc 20 z y) z λa E=>gl 20 E H 0 y U3 z λa E=>pk 3 E (kc 20 z y) z λa E=>cs m (λl m=>pk 11 E (kc 25 z l) z λa E=>nt<|have H:=H.frs [0,1] z;⟨_,_,E.to z,H,(Y1 k),m⟩) λl m=>pk 1 E (kc 25 z l) z λa E=>gv 25 E l z (zN (i:=0) (us:=(cI U.Part)) E H z z z z sX z iX) λa E=>bd m λc9 b5 m=>gc 25 E l z (cf_ 89) (Sz H b5)<|op0 λw H a E=>pk 3 E (kc 25 z l) z λa E=>cs m (λA m=>pk 5 E (kc 31 z A) z λa E=>nt<|have H:=H.frs [0,1] z;⟨_,_,E.to z,H,(Y1 k),m⟩) λA m=>pk 2 E (kc 31 z A) z λa E=>gl 31 E H 0 A U2 z λa E=>pk 2 E (kc 31 z A) z λa E=>nt<|have H:=H.frs [0,1] z;⟨_,_,E.to z,H,(Y1 k),m⟩) ?_;clear E H m;rintro a w ⟨V,c4,E,H,W,m⟩;exact wif E m z (λm=>sq<|pn 1 E z λa E=>wR<|aJ<|bM<|aJ<|aJ<|bM<|aJ<|o1 E z<|have H:=H.drs [0,0];d_ m z (H.reads W)) λm=>wK<|aA<|wG<|pr 1 E z λa E=>lb2 E H 1 U3 z λa E=>pr 1 E z λa E=>wN<|bR<|aA<|wG<|pn 2 E z λa E=>have H:=H.drop 1;⟨P,nL P,X3 ⟨E.to z,H,W,m⟩⟩
  ·refine wX<|aW<|aW<|cR<|aA<|wS<|sp 1 E z λa E=>lb2 E H 0 U43 z λa E=>lS E H (k _ R) U43 z λa E=>pn 1 E z λa E=>wB<|bK (λQ a w=>∃ O,Jn 154 a w [(1,pt g 0),(41,J),(42,i_ (x1.Gone.length:Int)),(43,i_ O)] (Blk g 47 (aS x1 I K L J)::Fo) rs (fL x1 Q O=some r)) (((x1.Gone.length:Int) - 0:Int).toNat+1) (⟨_,_,E.to z,H,k,m⟩) ?_;clear E H m;rintro Q a w ⟨O,c5,E,H,c,m⟩;cases Q with
   | zero=>exact (bH m z).elim
   | succ Q=>
    unfold fL at m;refine sq<|pn 1 E z λa E=>wS<|wif E m z (λm=>?_) λm=>?_
    ·refine wK<|aA<|wS<|wB<|sp 1 E z λa E=>bd m λd0 b6 m=>dH E H (wn z) z z z z z (c _ R) U43 sz9 b6 λq32 a H E=>sv2 E z (rI E H z z m0 U9 z) λa E=>pn 2 E z λa E=>aN (λa w=>∃ X,Jn 154 a w [(1,pt g 0),(41,J),(42,i_ (x1.Gone.length:Int)),(43,i_ O),(72,.bool X)] (Blk g 47 (aS x1 I K L J)::Fo) rs (pS (fL x1 Q) O X=some r)) (wG<|pr 2 E z λa E=>lb2 E H 0 U9 z λa E=>bd m λd1 b7 m=>xk2 E z (cf_ 39) (Me H b7) λw H a E=>pr 2 E z λa E=>cs m (λB m=>pk 19 E (kc 53 z B) z λa E=>nt<|⟨_,_,E.to z,H,(Y1 c),m⟩) λB m=>pk 2 E (kc 53 z B) z λa E=>gl 53 E H 0 B U9 z λa E=>pk 3 E (kc 53 z B) z λa E=>cs m (λC m=>pk 13 E (kc 59 z C) z λa E=>nt<|⟨_,_,E.to z,H,(Y1 c),m⟩) λC m=>pk 3 E (kc 59 z C) z λa E=>cs m (λj m=>pk 1 E (kc 62 z j) z λa E=>gl 62 E H 0 j U43 z λa E=>pk 2 E (kc 62 z j) z λa E=>bd m λd2 b8 m=>dH E H (ws' (d:=62) E z z z z j) z z z z z (t1 (c _ R)) U43 sz9 b8 λq43 a H E=>gv 62 E j z (rI E H z z m0 U9 z) λa E=>pk 4 E (kc' (kc 62 z j) 59 z C) z λa E=>nt<|⟨_,_,E.to z,H,(Y2 c),m⟩) λj m=>pk 10 E (kc' (kc 62 z j) 59 z C) z λa E=>nt<|⟨_,_,E.to z,H,(Y1 c),m⟩) ?_;clear E H m;rintro a w ⟨X,c6,E,H,Y,m⟩;exact wif E m z (λm=>sq<|pn 1 E z λa E=>wR<|bM<|aJ<|aJ<|bM<|aJ<|o1 E z<|have H:=H.drop 0;d_ m z (H.reads Y)) λm=>wK<|bR<|aA<|wG<|pn 2 E z λa E=>⟨Q,nL Q,_,_,E.to z,H,Y,m⟩
    ·refine wX<|aW<|aW<|cR<|aA<|aN (λa w=>∃ Z,Jn 154 a w [(1,pt g 0),(8,.bool Z)] (Blk g 47 (aS x1 I K L J)::Fo) rs (fK x1 Z=some r)) (wG<|pr 1 E z λa E=>lb2 E H 0 U3 z λa E=>pr 2 E z λa E=>cs m (λD m=>pk 1 E (kc 77 z D) z λa E=>gl 77 E H 0 D U3 z λa E=>pk 3 E (kc 77 z D) z λa E=>cs m (λF m=>pk 1 E (kc 82 z F) z λa E=>gl 82 E H 0 F U3 z λa E=>pk 3 E (kc 82 z F) z λa E=>cs m (λG m=>pk 1 E (kc 87 z G) z λa E=>gl 87 E H 0 G U3 z λa E=>pk 3 E (kc 87 z G) z λa E=>cs m (λn m=>pk 1 E (kc 92 z n) z λa E=>gl 92 E H 0 n U42 z λa E=>gv 92 E n z (vJ E H z z (c _ S) U42) λa E=>pk 3 E (kc 92 z n) z λa E=>nt<|⟨_,_,E.to z,H,c,m⟩) λn m=>pk 6 E (kc 92 z n) z λa E=>nt<|⟨_,_,E.to z,H,c,m⟩) λG m=>pk 11 E (kc 87 z G) z λa E=>nt<|⟨_,_,E.to z,H,c,m⟩) λF m=>pk 16 E (kc 82 z F) z λa E=>nt<|⟨_,_,E.to z,H,c,m⟩) λD m=>pk 21 E (kc 77 z D) z λa E=>nt<|⟨_,_,E.to z,H,c,m⟩) ?_;clear E H m;rintro a w ⟨Z,c7,E,H,M,m⟩;refine aN (λa w=>∃ b0,Jn 154 a w [(1,pt g 0),(8,.bool b0)] (Blk g 47 (aS x1 I K L J)::Fo) rs (jG x1 b0=some r)) (wG<|pr 2 E z λa E=>cs m (λb m=>pk 1 E (kc 99 z b) z λa E=>gl 99 E H 0 b U2 z λa E=>pk 1 E (kc 99 z b) z λa E=>gl 99 E H 0 b U2 z λa E=>pk 1 E (kc 99 z b) z λa E=>gl 99 E H 0 b U2 z λa E=>pk 1 E (kc 99 z b) z λa E=>gl 99 E H 0 b U2 z λa E=>pk 2 E (kc 99 z b) z λa E=>gl 99 E H 0 b U2 z λa E=>pk 2 E (kc 99 z b) z λa E=>gl 99 E H 0 b U2 z λa E=>pL (e:=2) (d:=(kI .i64)) (cs:=[i_ x1.Id,i_ x1.Txn,i_ x1.Age,i_ x1.Epoch,i_ x1.Watch.Session,i_ x1.Watch.Num]) (xs:=[x1.Id,x1.Txn,x1.Age,x1.Epoch,x1.Watch.Session,x1.Watch.Num]) E H (ws' (d:=99) E z z z z b) z z z (E.evs z) (by kernel_rfl) z z (λok hr=>(Rows.append (Rows.append (Rows.append (Rows.append (Rows.append (Rows.single (d:=(kI .i64)) (cs:=[i_ x1.Id]) (x:=x1.Id) z) (Rows.single (d:=(kI .i64)) (cs:=[i_ x1.Txn]) (x:=x1.Txn) z)) (Rows.single (d:=(kI .i64)) (cs:=[i_ x1.Age]) (x:=x1.Age) z)) (Rows.single (d:=(kI .i64)) (cs:=[i_ x1.Epoch]) (x:=x1.Epoch) z)) (Rows.single (d:=(kI .i64)) (cs:=[i_ x1.Watch.Session]) (x:=x1.Watch.Session) z)) (Rows.single (d:=(kI .i64)) (cs:=[i_ x1.Watch.Num]) (x:=x1.Watch.Num) z))) λd3 w a H E=>have H:=H.thaw (i:=0) z;bd m λd4 b9 m=>gc 99 E b z (cf_ 90) (Qw H m0 b9)<|op0 λw H a E=>pk 2 E (kc 99 z b) z λa E=>cs m (λo m=>pk 1 E (kc 117 z o) z λa E=>gl 117 E H 0 o U9 z λa E=>bd m λd5 c0 m=>gc 117 E o z (cf_ 91) (Fq H c0)<|op0 λw H a E=>pk 2 E (kc 117 z o) z λa E=>cs m (λp m=>pk 2 E (kc 122 z p) z λa E=>gl 122 E H 0 p U9 z λa E=>bd m λd6 c1 m=>gc 122 E p z (cf_ 91) (Fq H c1)<|op0 λw H a E=>pk 2 E (kc 122 z p) z λa E=>nt<|⟨_,_,E.to z,H,(Y1 M),m⟩) λp m=>pk 6 E (kc 122 z p) z λa E=>nt<|⟨_,_,E.to z,H,(Y1 M),m⟩) λo m=>pk 11 E (kc 117 z o) z λa E=>nt<|⟨_,_,E.to z,H,(Y1 M),m⟩) λb m=>pk 29 E (kc 99 z b) z λa E=>nt<|⟨_,_,E.to z,H,M,m⟩) ?_;clear E H m;rintro a w ⟨b0,c8,E,H,f,m⟩;exact sp 2 E z λa E=>cs m (λq m=>pk 1 E (kc 129 z q) z λa E=>gl 129 E H 0 q U43 z λa E=>gv 129 E q z (vJ E H z z (f _ R) U43) λa E=>pk 3 E (kc 129 z q) z λa E=>cs m (λs m=>pk 1 E (kc 135 z s) z λa E=>gv 135 E s z (zN (i:=0) (us:=[K,L]) E H z z z z U25 z bN) λa E=>bd m λd7 c2 m=>gc 135 E s z (cf_ 20) (Ax H (f _ b1) (f _ b2) c2)<|op0 λw H a E=>pk 2 E (kc 135 z s) z λa E=>cs m (λt m=>pk 2 E (kc 140 z t) z λa E=>gl 140 E H 0 t U22 z λa E=>gv 140 E t z (vJ E H z z (f _ b1) U22) λa E=>pk 3 E (kc 140 z t) z λa E=>cs m (λu m=>pk 2 E (kc 147 z u) z λa E=>gl 147 E H 0 u U23 z λa E=>gv 147 E u z (vJ E H z z (f _ b2) U23) λa E=>pk 3 E (kc 147 z u) z λa E=>nt<|wR<|o1 E z<|have H:=H.drop 0;d_ m z (H.reads f)) λu m=>pk 7 E (kc 147 z u) z λa E=>nt<|wR<|o1 E z<|have H:=H.drop 0;d_ m z (H.reads f)) λt m=>pk 14 E (kc 140 z t) z λa E=>nt<|wR<|o1 E z<|have H:=H.drop 0;d_ m z (H.reads f)) λs m=>pk 19 E (kc 135 z s) z λa E=>nt<|wR<|o1 E z<|have H:=H.drop 0;d_ m z (H.reads f)) λq m=>pk 25 E (kc 129 z q) z λa E=>nt<|wR<|o1 E z<|have H:=H.drop 0;d_ m z (H.reads f)

def dR(x1:Int):Option aX:=
  some ((⟨x1,0,false,0,[],(⟨[],[]⟩:aG),[],[],[]⟩:aX))
theorem fN{x1:Int}(H:Sep w (Fo) rs){r:aX}(m:dR x1=some r) :
    Cf 35 [i_ x1] w λv w'=>∃ b c d e f g,.agg (aU r b c d e f g).toArray=v/\Sep w' (Fo) (rSl bB b r.Results::rSl aB c r.Store.Nodes::rSl aC d r.Store.Turns::rSl aV e r.Events::rSl bI f r.Mounts::rSl (kI .i64) g r.Wounded::rs):=by
 refine ent func35 z ntmps35 z z λa E=>sq<|al2 E H z lJ λi w a H E=>xp 1 E z λa E=>sv2 E z (cP E z (E.evs z) (v:=.agg #[i_ x1,i_ 0,.bool false,i_ 0,nS,nS,nS,nS,nS,nS]) (by kernel_rfl)) λa E=>ss 0 E H z cA z λw H=>nt<|wR<|oB 0 [i_ x1,i_ 0,.bool false,i_ 0,nS,nS,nS,nS,nS,nS] E H U40 z cA<|have H:=H.nilSl bB;have H:=H.nilSl aB;have H:=H.nilSl aC;have H:=H.nilSl aV;have H:=H.nilSl bI;have H:=H.nilSl (kI .i64);have H:=H.drop 0;?_;cases m;exact X6 ⟨z,H.rdx [5,4,3,2,1,0] z (λr hr=>(t6 hr))⟩

def qV(x20:aK)(b:eR):Option DP:=
  (Wr (kyI .i64) b x20.Txn xD).bind λc=>some (c,b)
def vE(x20:aK)(b:List mJ)(c:Bool):Option DP:=
  if (!c)=true then (if ((b.length:Int) == 128)=true then ((dR 2).bind λd=>some (d,b)) else ((mpt (kyI .i64) b x20.Txn (⟨0,0,x20.Yes,x20.Epoch,[],(⟨[],[]⟩:aG),[],[],[]⟩:aX)).bind λe=>qV x20 e)) else (qV x20 b)
def uE(b:List mJ)(x20:aK):Option DP:=
  (U7 (kyI .i64) b x20.Txn xD).bind λc=>vE x20 b c.2
theorem Ja{d b:Nat}{x:List mJ}{x20:aK}{p q s t e f g j k l n o:VL}(H:Sep w (Blk d 69 [e,f,g,j,k,l,n,o,.map (some b)]::mP0 b x::Fo) rs){r:aX×eR}(m:uE x x20=some r) :
    Cf 27 [pt d 0,.agg (aS x20 p q s t).toArray] w λv w'=>∃ J L M N O P,.agg (aU r.1 J L M N O P).toArray=v/\Sep w' (Blk d 69 [e,f,g,j,k,l,n,o,.map (some b)]::mP0 b r.2::Fo) (rSl bB J r.1.Results::rSl aB L r.1.Store.Nodes::rSl aC M r.1.Store.Turns::rSl aV N r.1.Events::rSl bI O r.1.Mounts::rSl (kI .i64) P r.1.Wounded::rs):=by
 refine ent func27 z ntmps27 z z λa E=>sq<|bx E H z λc w a H E=>al2 E H z lJ λy w a H E=>nt<|aN (λa w=>∃ A,Jn 44 a w [(0,pt d 0),(3,pt c 0),(4,pt y 0)] (Blk d 69 [e,f,g,j,k,l,n,o,.map (some b)]::Blk c 47 (aS x20 p q s t)::Blk y 40 bQ::mP0 b A::Fo) rs (qV x20 A=some r)) ?_ ?_
 ·refine aN (λa w=>∃ B,Jn 44 a w [(0,pt d 0),(3,pt c 0),(4,pt y 0),(6,.bool B)] (Blk d 69 [e,f,g,j,k,l,n,o,.map (some b)]::Blk c 47 (aS x20 p q s t)::Blk y 40 bQ::mP0 b x::Fo) rs (vE x20 x B=some r)) ?_ ?_
  ·refine bd m λc4 C m=>?_;have hI:dL [Blk c 47 (aS x20 p q s t),Blk d 69 [e,f,g,j,k,l,n,o,.map (some b)]] [] { w with drawn:=w.drawn+1 }:=⟨_,_,H.kept (Kp.drawn _ w _),(aE mm1 (aE mm2 (aM))),(aP)⟩
   refine nQ _ (.go 0 0 (.go 1 0 (.go 2 0 (.go 3 0 (.go 4 0 (.go 5 0 (.alt 6 (.go 7 0 (.go 8 0 (.go 9 0 (.go 10 1 (.go 11 1 (.go 12 2 .nil)))))) 10 (.go 6 1 (.go 7 0 (.go 8 0 (.go 9 0 (.go 11 1 (.go 12 2 .nil))))))))))))) [12] oA (by kernel_rfl) (λ_ _ _ h=>False.elim h.2) hI<|have H:=H.kept (Kp.drawn _ w (w.drawn+1));?_;generalize ({ w with drawn:=w.drawn+1 }:WD)=w at H hI ⊢
   replace hI:∃ W,dL [Blk c 47 (aS x20 p q s t),Blk d 69 [e,f,g,j,k,l,n,o,.map (some b)]] [] W:=⟨_,hI⟩
   obtain ⟨W0,hI⟩:=hI;refine om E z λa E=>ov E z (λw hW=>(I7 E z z)) λa E=>ov E z (λw hW=>pK E z z (v:=pt d 8) (FZ _ _)) λa E=>ol E mm1 U62 z λa E=>ov E z (λw hW=>pK E z z (v:=pt c 2) (Sn _ _)) λa E=>ol E m0 U2 z λa E=>fU z z ?_ ?_
   ·refine tW (i:=3) (K:=(kyI .i64)) E H (wn z) z z z z z z (gH U2) U62 As Eh C λc5 a H E=>?_;obtain ⟨c6,c7,c8,c9,d0,d1,rfl,h⟩:=pO H;clear H;have H:=h;refine nt<|⟨sx H [1,2] z,om E z λa E=>ox E z λa E=>ox E z λa E=>bG z<|al2 E H z lJ λd2 w a H E=>nt<|⟨sx H [2,3] z,bG z<|ss 0 E H z cA (bD H mm5 mm4 mm3 mm2 mm1 m0) λw H=>nt<|⟨sx H [2,3] z,bZ z<|pn 1 E z λa E=>cM<|?_⟩⟩⟩
    clear hI;exact aA<|have H:=H.drop 0;have H:=H.frs [3,1,2,3] z;⟨_,_,E.to z,H,(Y7 Y0),m⟩
   refine al2 E H z lJ λd3 w a H E=>nt<|⟨sx H [2,3] z,bG z<|tW (i:=4) (K:=(kyI .i64)) E H (wn z) z z z z z z (gH U2) U62 As Eh C λb5 a H E=>?_⟩
   obtain ⟨b6,b7,b8,b9,c0,c1,rfl,h⟩:=pO H;clear H;have H:=h;refine nt<|⟨sx H [2,3] z,om E z λa E=>ox E z λa E=>ox E z λa E=>bG z<|ss 0 E H z cA (bD H mm5 mm4 mm3 mm2 mm1 m0) λw H=>nt<|⟨sx H [2,3] z,bZ z<|pn 1 E z λa E=>cM<|?_⟩⟩
   clear hI;exact aA<|have H:=H.drop 0;have H:=H.frs [3,1,2,3] z;⟨_,_,E.to z,H,(Y7 Y0),m⟩
  clear E H m;rintro a w ⟨B,c2,E,H,u,m⟩;refine sq<|pn 2 E z λa E=>wif E m z (λm=>?_) λm=>wK<|aA<|⟨_,_,E.to z,H,u,m⟩
  refine wS<|sp 3 E z λa E=>lb2 E H 0 U62 z λa E=>sv2 E z (Cx (i:=3) E H z z z U62) λa E=>pn 1 E z λa E=>wif E m z (λm=>?_) λm=>?_
  ·refine sq<|bd m λQ D m=>xc2 E z (cf_ 35) (fN H D)<|op6 λR S T U V X w H a E=>ss 2 E H z cA (bD H m0 mm1 mm2 mm3 mm4 mm5) λw H=>nt<|wR<|aJ<|aJ<|oB 2 (aU Q R S T U V X) E H U40 z cA<|have H:=H.drs [1,1];?_;cases m;exact X6 ⟨z,H.rdx [0,1,2,3,4,5] z (λr hr=>(t6 (u r hr)))⟩
  refine wK<|aA<|dz [0,0,0,0,0,0,0,0,0,0,0,2] [0,1] H λw W0 hI H=>fn 3 E z λa E=>fb2 E m0 U62 z λa E=>fn 1 E z λa E=>fb2 E mm1 U2 z λa E=>fn 1 E z λa E=>fb2 E mm1 U4 z λa E=>fn 1 E z λa E=>fb2 E mm1 U2 z λa E=>fv E z (λw hW=>(cP E z (E.evs z) (v:=.agg #[i_ 0,i_ 0,.bool x20.Yes,i_ x20.Epoch,nS,nS,nS,nS,nS,nS]) (by kernel_rfl))) λa E=>bJ z<|bd m λd4 F m=>Br (i:=3) (K:=(kyI .i64)) (v:=(⟨0,0,x20.Yes,x20.Epoch,[],(⟨[],[]⟩:aG),[],[],[]⟩:aX)) (cs:=[i_ 0,i_ 0,.bool x20.Yes,i_ x20.Epoch,nS,nS,nS,nS,nS,nS]) E H (wn z) z z z z z z (gH U2) U62 F (λok hr=>(tY (Sl.nil _ _ _) (Sl.nil _ _ _) (Sl.nil _ _ _) (Sl.nil _ _ _) (Sl.nil _ _ _) (Sl.nil _ _ _))) λw H=>nt<|bF<|?_;clear hI;exact aA<|⟨_,_,E.to z,H,u,m⟩
 ·clear E H m;rintro a w ⟨A,c3,E,H,G,m⟩;refine wS<|dz [0,0,0,0,0,0,1,2] [0,1] H λw W0 hI H=>fn 3 E z λa E=>fb2 E m0 U62 z λa E=>fn 1 E z λa E=>fb2 E mm1 U2 z λa E=>bO z<|bd m λY I m=>FN (i:=3) (K:=(kyI .i64)) E H (wn z) z z z z z z (gH U2) U62 As Eh I λd5 a H E=>?_;obtain ⟨Z,b0,b1,b2,b3,b4,rfl,h⟩:=pO H;clear H;have H:=h;refine nt<|⟨sx H [0,1] z,bJ z<|ss 2 E H z cA (bD H mm5 mm4 mm3 mm2 mm1 m0) λw H=>nt<|bF<|?_⟩
  clear hI;refine aA<|wR<|oB 2 (aU Y Z b0 b1 b2 b3 b4) E H U40 z cA<|have H:=H.drs [1,1];?_;cases m;exact X6 ⟨z,H.rdx [5,4,3,2,1,0] z (λr hr=>(t7 (G r hr)))⟩

def A6(e:BY)(b:List aF)(f:BY):Option Bool:=
  (lP b e).bind λc=>if (decide (c ≥ 0))=true then ((idx b c).bind λd=>some (sEq d.Prefix f)) else (some (false))
theorem Kb{p e:BY}{f g:Nat}{i:VL}{q:List aF}(H:Sep w (Blk f 26 [i]::Blk g 9 [.string e]::Fo) rs)(c:rSl aO i q ∈ rs){r:Bool}(m:A6 p q e=some r) :
    Cf 132 [.string p,pt f 0,pt g 0] w λv w'=>.bool r=v/\Sep w' (Blk f 26 [i]::Blk g 9 [.string e]::Fo) (rs):=by
 refine ent func132 z ntmps132 z z λa E=>sp 1 E z λa E=>nx<|lb2 E H 0 U26 z λa E=>pr 1 E z λa E=>bd m λy s m=>xk2 E z (cf_ 11) (B7 H c s) λw H a E=>pr 1 E z λa E=>nt<|wS<|?_;obtain ⟨t,H⟩:=H.raw c;refine dw [(0,0),(1,0),(2,0),(3,0),(4,0),(5,0),(6,0),(7,0),(8,0),(9,0),(10,0),(11,2)] [0,1] [0] H (by kernel_rfl) (λ_ _ _ h=>False.elim h.2) λw W0 hI H=>fn 3 E z λa E=>cs m (λb m=>?_) λb m=>?_
 ·refine fb E z (ws' (d:=11) E z z z z b) z z z z m0 z U26 z λa E=>fk 1 E (kc 11 z b) z λa E=>bd m λu j m=>?_;obtain ⟨q14,x,l,n⟩:=eU (P:=Tryz.prog) (k:=.i64) hI (eT (.head _)) U26 iA j;refine dU E z (ws' (d:=11) E z z z z b) z z (λw hW=>gL E z z z (l w)) λa E=>?_;have o:=pM n (λ_ _ _ h=>mS h);refine fk 1 E (kc 11 z b) z λa E=>fa E z (ws' (d:=11) E z z z z b) z z z z o U9 z λa E=>fb E z (ws' (d:=11) E z z z z b) z z z z mm1 z U9 z λa E=>fk 2 E (kc 11 z b) z λa E=>bJ z<|pn 1 E z λa E=>bF<|?_;clear hI;exact aA<|wR<|o1 E z<|d_ m z (H.reads (Y1 Y0))
 ·refine fk 8 E (kc 11 z b) z λa E=>bJ z<|pn 1 E z λa E=>bF<|?_;clear hI;exact aA<|wR<|o1 E z<|d_ m z (H.reads (Y1 Y0))

def zY(d:List aF)(e:BY)(b:BY):Option Bool:=
  (A6 b d e).bind λc=>some (c)
def K9(x1:aH)(c:List aF)(d:BY):Option Bool:=
  (uZ x1.Path).bind λb=>if (!b.2)=true then (zY c d (ByteArray.mk #[47])) else (zY c d b.1)
theorem Wk{x1:aH}{d b c:Nat}{i:VL}{j:List aF}{e:BY}(H:Sep w (Blk d 102 [.func (.func 132) #[] #[pt b 0,pt c 0]]::Blk b 26 [i]::Blk c 9 [.string e]::Fo) rs)(n:rSl aO i j ∈ rs){r:Bool}(m:K9 x1 j e=some r) :
    Cf 134 [.agg (nR x1).toArray,pt d 0] w λv w'=>.bool r=v/\Sep w' (Blk d 102 [.func (.func 132) #[] #[pt b 0,pt c 0]]::Blk b 26 [i]::Blk c 9 [.string e]::Fo) (rs):=by
 refine ent func134 z ntmps134 z z λa E=>sq<|bx E H z λs w a H E=>pr 1 E z λa E=>xp 1 E z λa E=>lb2 E H 0 U9 z λa E=>bd m λp k m=>xk2 E z (cf_ 135) (W4 H k) λw H a E=>pn 5 E z λa E=>aN (λa w=>∃ f,Jn 17 a w [(1,pt d 0),(4,.string f)] (Blk d 102 [.func (.func 132) #[] #[pt b 0,pt c 0]]::Blk b 26 [i]::Blk c 9 [.string e]::Fo) rs (zY j e f=some r)) (sq<|pn 2 E z λa E=>wif E m z (λm=>wG<|pn 1 E z λa E=>have H:=H.drop 0;⟨_,_,E.to z,H,Y0,m⟩) λm=>wK<|aA<|have H:=H.drop 0;⟨_,_,E.to z,H,Y0,m⟩) ?_;clear E H m;rintro a w ⟨f,o,E,H,g,m⟩;exact sq<|lb2 E H 0 RS z λa E=>pr 1 E z λa E=>have H:=H.frs [0,2,2] z;bd m λq l m=>bP E (wn z) z z (bT E z z z ((cf_ 132) _)) (Kb H (g _ n) l)<|op0 λw H a E=>pn 1 E z λa E=>wR<|o1 E z<|have H:=H.frs [1,1,2] z;d_ m z (H.reads g)

def nY(rec_1:cT->cT->Int->Option Xc)(b:Int)(c:cT)(d:cT):Option Xc:=
  rec_1 c d (IntKind.i64.wrap (b+1))
def fQ(f:List aH)(g:List aF)(i:BY):Nat->cT->cT->Int->Option Xc
  | 0,_,_,_=>none
  | j+1,c,d,e=>
    if (decide (e < (f.length:Int)))=true then ((idx f e).bind λb=>(K9 b g i).bind λk=>if k=true then ((ck (c.length+([b]:List aH).length <= LIM)).bind λl=>nY (fQ f g i j) e (c ++ ([b]:List aH)) d) else ((ck (d.length+([b]:List aH).length <= LIM)).bind λm=>nY (fQ f g i j) e c (d ++ ([b]:List aH)))) else (some (c,d))
def qW(b:List aH)(c:List aF)(d:BY):Option Xc:=
  fQ b c d (((b.length:Int) - 0:Int).toNat+1) [] [] 0
theorem Ey{D p:VL}{k:List aH}{l f g:Nat}{F:List aF}{n:BY}(H:Sep w (Blk l 102 [.func (.func 132) #[] #[pt f 0,pt g 0]]::Blk f 26 [p]::Blk g 9 [.string n]::Fo) rs)(G:rSl aB D k ∈ rs)(I:rSl aO p F ∈ rs){r:cT×cT}(m:qW k F n=some r) :
    Cf 133 [D,.func (.func 134) #[] #[pt l 0]] w λv w'=>∃ O P,.tuple #[O,P]=v/\Sep w' (Row 80 aB O r.1::Row 80 aB P r.2::Blk l 102 [.func (.func 132) #[] #[pt f 0,pt g 0]]::Blk f 26 [p]::Blk g 9 [.string n]::Fo) (rs):=by
 refine ent func133 z ntmps133 z z λa E=>sp 2 E z λa E=>nx<|pn 2 E z λa E=>wS<|sp 1 E z λa E=>lS E H G U22 z λa E=>pn 1 E z λa E=>wB<|bK (λo a w=>∃ q s t u j,Jn 30 a w [(1,.func (.func 134) #[] #[pt l 0]),(6,q),(7,s),(10,D),(11,i_ (k.length:Int)),(12,i_ j)] (Blk l 102 [.func (.func 132) #[] #[pt f 0,pt g 0]]::Row 80 aB q t::Row 80 aB s u::Blk f 26 [p]::Blk g 9 [.string n]::Fo) rs (fQ k F n o t u j=some r)) (((k.length:Int) - 0:Int).toNat+1) (have H:=H.nilRow 80 aB;have H:=H.nilRow 80 aB;have H:=H.frs [4,4,2,3,4] z;X6 ⟨E.to z,H,Y0,m⟩) ?_;clear E H m;rintro o a w ⟨q,s,t,u,j,Q,E,H,c,m⟩;cases o with
 | zero=>exact (bH m z).elim
 | succ o=>
  unfold fQ at m;refine sq<|pn 1 E z λa E=>wS<|wif E m z (λm=>?_) λm=>?_
  ·refine wK<|aA<|aN (λa w=>∃ y A B C,Jn 30 a w [(1,.func (.func 134) #[] #[pt l 0]),(6,y),(7,A),(10,D),(11,i_ (k.length:Int)),(12,i_ j)] (Blk l 102 [.func (.func 132) #[] #[pt f 0,pt g 0]]::Row 80 aB y B::Row 80 aB A C::Blk f 26 [p]::Blk g 9 [.string n]::Fo) rs (nY (fQ k F n o) j B C=some r)) (wB<|sq<|bd m λb J m=>dH E H (wn z) z z z z z (c _ G) U22 iL J λq26 a H E=>ldf cZ E H z z z z z m0 U80 z iL λa E=>al2 E H z IW λS w a H E=>ss 0 E H z iL z λw H=>xp 1 E z λa E=>ln 0 (nR b) E H U80 z iL λa E=>have H:=H.frs [3,3,2,5,5,5] z;bd m λT K m=>bP E (wn z) z z (bT E z z z ((cf_ 134) _)) (Wk H (t1 (c _ I)) K)<|op0 λw H a E=>nt<|wif E m z (λm=>wG<|pr 1 E z λa E=>ln 3 (nR b) E H U80 z iL λa E=>tE (e:=80) (d:=aB) (cs:=[.string b.Path,.string b.Data,i_ b.Version,i_ b.Turn,i_ b.Owner]) (xs:=[b]) E H (wn z) z z z (E.evs z) (by kernel_rfl) z (λok hr=>(Rows.single (d:=aB) (cs:=[.string b.Path,.string b.Data,i_ b.Version,i_ b.Turn,i_ b.Owner]) (x:=b) yK)) λU w a H E=>bk m λL m=>gG (i:=4) E H (wn z) z z z z z z (qS m0) U22 Nt z L z λV w a H E=>pr 1 E z λa E=>wN<|bR<|aA<|have H:=H.drop 3;have H:=H.frs [2,2,4,4,4] z;X5 ⟨E.to z,H,(Y2 c),m⟩) λm=>wG<|pr 1 E z λa E=>ln 3 (nR b) E H U80 z iL λa E=>tE (e:=80) (d:=aB) (cs:=[.string b.Path,.string b.Data,i_ b.Version,i_ b.Turn,i_ b.Owner]) (xs:=[b]) E H (wn z) z z z (E.evs z) (by kernel_rfl) z (λok hr=>(Rows.single (d:=aB) (cs:=[.string b.Path,.string b.Data,i_ b.Version,i_ b.Turn,i_ b.Owner]) (x:=b) yK)) λW w a H E=>bk m λM m=>gG (i:=5) E H (wn z) z z z z z z (qS m0) U22 Nt z M z λX w a H E=>pr 1 E z λa E=>wN<|bR<|aA<|have H:=H.drop 3;have H:=H.frs [2,2,4,4,4] z;X5 ⟨E.to z,H,(Y2 c),m⟩) ?_;clear E H m;rintro a w ⟨y,A,B,C,R,E,H,N,m⟩;exact wG<|pn 2 E z λa E=>⟨o,nL o,X6 ⟨E.to z,H,N,m⟩⟩
  ·refine wX<|aW<|aW<|cR<|aA<|sq<|pn 4 E z λa E=>wR<|iW E z z z<|have H:=H.frs [4,4,2,4,4] z;?_;cases m;exact ⟨_,_,z,H.reads c⟩

def L1(x1:aQ)(c:List aF)(d:BY):Option Bool:=
  (A6 x1.Dir c d).bind λb=>some (b)
theorem Wl{x1:aQ}{d b c:Nat}{e:VL}{i:List aF}{f:BY}(H:Sep w (Blk d 102 [.func (.func 132) #[] #[pt b 0,pt c 0]]::Blk b 26 [e]::Blk c 9 [.string f]::Fo) rs)(j:rSl aO e i ∈ rs){r:Bool}(m:L1 x1 i f=some r) :
    Cf 137 [.agg #[.string x1.Dir,i_ x1.Next],pt d 0] w λv w'=>.bool r=v/\Sep w' (Blk d 102 [.func (.func 132) #[] #[pt b 0,pt c 0]]::Blk b 26 [e]::Blk c 9 [.string f]::Fo) (rs):=ent func137 z ntmps137 z z λa E=>sq<|bx E H z λl w a H E=>pr 1 E z λa E=>nx<|lb2 E H 1 RS z λa E=>pr 1 E z λa E=>lb2 E H 0 U9 z λa E=>have H:=H.frs [1,1,3,3] z;bd m λk g m=>bP E (wn z) z z (bT E z z z ((cf_ 132) _)) (Kb H j g)<|op0 λw H a E=>pn 1 E z λa E=>wR<|o1 E z<|have H:=H.drop 2;have H:=H.frs [1,1,2] z;d_ m z (H.reads Y0)

def nZ(rec_1:cN->cN->Int->Option Xb)(b:Int)(c:cN)(d:cN):Option Xb:=
  rec_1 c d (IntKind.i64.wrap (b+1))
def fR(f:List aQ)(g:List aF)(i:BY):Nat->cN->cN->Int->Option Xb
  | 0,_,_,_=>none
  | j+1,c,d,e=>
    if (decide (e < (f.length:Int)))=true then ((idx f e).bind λb=>(L1 b g i).bind λk=>if k=true then ((ck (c.length+([b]:List aQ).length <= LIM)).bind λl=>nZ (fR f g i j) e (c ++ ([b]:List aQ)) d) else ((ck (d.length+([b]:List aQ).length <= LIM)).bind λm=>nZ (fR f g i j) e c (d ++ ([b]:List aQ)))) else (some (c,d))
def qX(b:List aQ)(c:List aF)(d:BY):Option Xb:=
  fR b c d (((b.length:Int) - 0:Int).toNat+1) [] [] 0
theorem Ez{D p:VL}{k:List aQ}{l f g:Nat}{F:List aF}{n:BY}(H:Sep w (Blk l 102 [.func (.func 132) #[] #[pt f 0,pt g 0]]::Blk f 26 [p]::Blk g 9 [.string n]::Fo) rs)(G:rSl aC D k ∈ rs)(I:rSl aO p F ∈ rs){r:cN×cN}(m:qX k F n=some r) :
    Cf 136 [D,.func (.func 137) #[] #[pt l 0]] w λv w'=>∃ O P,.tuple #[O,P]=v/\Sep w' (Row 71 aC O r.1::Row 71 aC P r.2::Blk l 102 [.func (.func 132) #[] #[pt f 0,pt g 0]]::Blk f 26 [p]::Blk g 9 [.string n]::Fo) (rs):=by
 refine ent func136 z ntmps136 z z λa E=>sp 2 E z λa E=>nx<|pn 2 E z λa E=>wS<|sp 1 E z λa E=>lS E H G U23 z λa E=>pn 1 E z λa E=>wB<|bK (λo a w=>∃ q s t u j,Jn 30 a w [(1,.func (.func 137) #[] #[pt l 0]),(6,q),(7,s),(10,D),(11,i_ (k.length:Int)),(12,i_ j)] (Blk l 102 [.func (.func 132) #[] #[pt f 0,pt g 0]]::Row 71 aC q t::Row 71 aC s u::Blk f 26 [p]::Blk g 9 [.string n]::Fo) rs (fR k F n o t u j=some r)) (((k.length:Int) - 0:Int).toNat+1) (have H:=H.nilRow 71 aC;have H:=H.nilRow 71 aC;have H:=H.frs [4,4,2,3,4] z;X6 ⟨E.to z,H,Y0,m⟩) ?_;clear E H m;rintro o a w ⟨q,s,t,u,j,Q,E,H,c,m⟩;cases o with
 | zero=>exact (bH m z).elim
 | succ o=>
  unfold fR at m;refine sq<|pn 1 E z λa E=>wS<|wif E m z (λm=>?_) λm=>?_
  ·refine wK<|aA<|aN (λa w=>∃ y A B C,Jn 30 a w [(1,.func (.func 137) #[] #[pt l 0]),(6,y),(7,A),(10,D),(11,i_ (k.length:Int)),(12,i_ j)] (Blk l 102 [.func (.func 132) #[] #[pt f 0,pt g 0]]::Row 71 aC y B::Row 71 aC A C::Blk f 26 [p]::Blk g 9 [.string n]::Fo) rs (nZ (fR k F n o) j B C=some r)) (wB<|sq<|bd m λb J m=>dH E H (wn z) z z z z z (c _ G) U23 nU J λq26 a H E=>ldf eE E H z z z z z m0 U71 z nU λa E=>al2 E H z RT λS w a H E=>ss 0 E H z nU z λw H=>xp 1 E z λa E=>ln 0 [.string b.Dir,i_ b.Next] E H U71 z nU λa E=>have H:=H.frs [3,3,2,5,5,5] z;bd m λT K m=>bP E (wn z) z z (bT E z z z ((cf_ 137) _)) (Wl H (t1 (c _ I)) K)<|op0 λw H a E=>nt<|wif E m z (λm=>wG<|pr 1 E z λa E=>ln 3 [.string b.Dir,i_ b.Next] E H U71 z nU λa E=>tE (e:=71) (d:=aC) (cs:=[.string b.Dir,i_ b.Next]) (xs:=[b]) E H (wn z) z z z (E.evs z) (by kernel_rfl) z (λok hr=>(Rows.single (d:=aC) (cs:=[.string b.Dir,i_ b.Next]) (x:=b) uX)) λU w a H E=>bk m λL m=>gG (i:=4) E H (wn z) z z z z z z (qS m0) U23 Nu z L z λV w a H E=>pr 1 E z λa E=>wN<|bR<|aA<|have H:=H.drop 3;have H:=H.frs [2,2,4,4,4] z;X5 ⟨E.to z,H,(Y2 c),m⟩) λm=>wG<|pr 1 E z λa E=>ln 3 [.string b.Dir,i_ b.Next] E H U71 z nU λa E=>tE (e:=71) (d:=aC) (cs:=[.string b.Dir,i_ b.Next]) (xs:=[b]) E H (wn z) z z z (E.evs z) (by kernel_rfl) z (λok hr=>(Rows.single (d:=aC) (cs:=[.string b.Dir,i_ b.Next]) (x:=b) uX)) λW w a H E=>bk m λM m=>gG (i:=5) E H (wn z) z z z z z z (qS m0) U23 Nu z M z λX w a H E=>pr 1 E z λa E=>wN<|bR<|aA<|have H:=H.drop 3;have H:=H.frs [2,2,4,4,4] z;X5 ⟨E.to z,H,(Y2 c),m⟩) ?_;clear E H m;rintro a w ⟨y,A,B,C,R,E,H,N,m⟩;exact wG<|pn 2 E z λa E=>⟨o,nL o,X6 ⟨E.to z,H,N,m⟩⟩
  ·refine wX<|aW<|aW<|cR<|aA<|sq<|pn 4 E z λa E=>wR<|iW E z z z<|have H:=H.frs [4,4,2,4,4] z;?_;cases m;exact ⟨_,_,z,H.reads c⟩

def F9(x1:aG)(d:List aF)(e:BY)(f:Bool):Option SO:=
  if f=true then (some ([],[],[],[])) else ((qW x1.Nodes d e).bind λb=>(qX x1.Turns d e).bind λc=>some (b.1,c.1,b.2,c.2))
def wW(x1:aG)(b:List aF)(c:BY):Option SO:=
  (sN x1).bind λd=>if (!d)=true then (F9 x1 b c true) else ((qD b).bind λe=>F9 x1 b c (!e))
theorem qF{x1:aG}{j k L:VL}{l:List aF}{n:BY}(H:Sep w (Fo) rs)(o:rSl aB j x1.Nodes ∈ rs)(p:rSl aC k x1.Turns ∈ rs)(d:rSl aO L l ∈ rs){r:cT×cN×cT×cN}(m:wW x1 l n=some r) :
    Cf 75 [.agg #[j,k],L,.string n] w λv w'=>∃ M N O P,.tuple #[.agg #[M,N],.agg #[O,P]]=v/\Sep w' (Row 80 aB M r.1::Row 71 aC N r.2.1::Row 80 aB O r.2.2.1::Row 71 aC P r.2.2.2::Fo) (rs):=by
 refine ent func75 z ntmps75 z z λa E=>sq<|bx E H z λq w a H E=>?_;obtain ⟨q12,Q,rfl⟩:=H.slform d;refine bx E H z λs w a H E=>bx E H z λt w a H E=>al2 E H z dG λu w a H E=>al2 E H z dG λx w a H E=>nx<|al2 E H z dG λy w a H E=>al2 E H z dG λA w a H E=>nt<|wS<|aN (λa w=>∃ g,Jn 42 a w [(3,pt q 0),(4,pt s 0),(5,pt t 0),(6,pt u 0),(7,pt x 0),(8,pt y 0),(9,pt A 0),(18,.bool g)] (Blk q 25 [j,k]::Blk s 26 [(.slice q12 l.length Q)]::Blk t 9 [.string n]::Blk u 25 [nS,nS]::Blk x 25 [nS,nS]::Blk y 25 [nS,nS]::Blk A 25 [nS,nS]::Fo) rs (F9 x1 l n g=some r)) (wG<|ln 6 [j,k] E H U25 z bN λa E=>bd m λS G m=>xk2 E z (cf_ 20) (Ax H o p G) λw H a E=>pr 2 E z λa E=>cs m (λc m=>pk 4 E (kc 14 z c) z λa E=>nt<|have H:=H.frs [0,1,2,3,4,5,6] z;⟨_,_,E.to z,H,Y0,m⟩) λc m=>gl 14 E H 5 c U26 z λa E=>bd m λT I m=>gc 14 E c z (cf_ 21) (K8 H d I)<|op0 λw H a E=>pk 2 E (kc 14 z c) z λa E=>nt<|have H:=H.frs [0,1,2,3,4,5,6] z;⟨_,_,E.to z,H,Y0,m⟩) ?_;clear E H m;rintro a w ⟨g,R,E,H,b,m⟩;refine wif E m z (λm=>?_) λm=>?_
 ·refine wS<|dz [0,0,1,2] [5,6] H λw W0 hI H=>fbn E [nS,nS] z (wn z) z z z z m0 z U25 z bN λa E=>fbn E [nS,nS] z (wn z) z z z z mm1 z U25 z bN λa E=>bO z<|ss 3 E H z bN z λw H=>nt<|⟨sx H [5,6] z,bJ z<|ss 4 E H z bN z λw H=>nt<|bF<|?_⟩
  clear hI;refine aA<|wR<|aJ<|r8 E z (oO (i:=3) (us:=[nS,nS]) H z z z U25 z bN) (oO (i:=4) (us:=[nS,nS]) H z z z U25 z bN)<|have H:=H.nilRow 80 aB;have H:=H.nilRow 71 aC;have H:=H.nilRow 80 aB;have H:=H.nilRow 71 aC;have H:=H.drs [4,4,4,4,4,4,4];have H:=H.frs [0,1,2,3] z;?_;cases m;exact X4 ⟨z,H.reads b⟩
 ·refine wK<|aA<|sq<|sv2 E z (oP E z z z) λa E=>al1 E H z z z z VD z λU w a H E=>ss 0 E H z VE z λw H=>xp 1 E z λa E=>lb2 E H 1 U22 z λa E=>sv2 E z (oP E z z z) λa E=>have H:=H.frs [7,7,7,7,5,7,7,7] z;bd m λe J m=>xc2 E z (cf_ 133) (Ey H (b _ o) (b _ d) J)<|op2 λV W w H a E=>pr 4 E z λa E=>?_;obtain ⟨q27,B,rfl⟩:=H.rowform (i:=0) z;refine ss 8 E H z Lq z λw H=>pr 1 E z λa E=>?_;obtain ⟨q29,C,rfl⟩:=H.rowform (i:=1) z;refine ss 9 E H z Lq z λw H=>xp 1 E z λa E=>lb2 E H 5 U23 z λa E=>sv2 E z (oP E z z z) λa E=>have H:=H.frs [9,9,9,9,9,6,6,9,9,9] z;bd m λf K m=>xc2 E z (cf_ 136) (Ez H (b _ p) (b _ d) K)<|op2 λX Y w H a E=>pr 4 E z λa E=>?_;obtain ⟨q35,D,rfl⟩:=H.rowform (i:=0) z;refine ss 10 E H z Ei z λw H=>pr 1 E z λa E=>?_;obtain ⟨q37,F,rfl⟩:=H.rowform (i:=1) z;refine ss 11 E H z Ei z λw H=>nt<|wS<|dz [0,0,1,2] [10,11] H λw W0 hI H=>fbn E [(.slice q27 e.1.length B),(.slice q35 f.1.length D)] z (wn z) z z z z m0 z U25 z bN λa E=>fbn E [(.slice q29 e.2.length C),(.slice q37 f.2.length F)] z (wn z) z z z z mm1 z U25 z bN λa E=>bO z<|ss 8 E H z bN z λw H=>nt<|⟨⟨_,_,H,(aE (t4 mm6) (aE (t5 mm6) (aM))),(aP)⟩,bJ z<|ss 9 E H z bN z λw H=>nt<|bF<|?_⟩
  clear hI;refine aA<|wR<|r8 E z (oO (i:=8) (us:=[(.slice q27 e.1.length B),(.slice q35 f.1.length D)]) H z z z U25 z bN) (oO (i:=9) (us:=[(.slice q29 e.2.length C),(.slice q37 f.2.length F)]) H z z z U25 z bN)<|have H:=H.drs [2,2,2,4,4,4,4,4];have H:=H.frs [1,3,2,3] z;?_;cases m;exact X4 ⟨z,H.reads b⟩

def pD(b:cT)(c:cN)(d:fJ):Option Ix:=
  some (b,c,d)
def nC(e:List aH)(f:List aQ)(d:List aF)(x20:aK):Option Ix:=
  (xP d x20.Prefix x20.Epoch).bind λb=>if b.2=true then ((wW (⟨e,f⟩:aG) d x20.Prefix).bind λc=>pD c.2.2.1 c.2.2.2 b.1) else (pD e f d)
theorem Mf{x:Nat}{A B M N O P Q d e f g j k:VL}{C:List aH}{D:List aQ}{R:List aF}{x20:aK}(H:Sep w (Blk x 69 [A,B,M,d,e,f,g,j,k]::Fo) rs)(l:rSl aB A C ∈ rs)(n:rSl aC B D ∈ rs)(c:rSl aO M R ∈ rs){r:cT×cN×fJ}(m:nC C D R x20=some r) :
    Cf 30 [pt x 0,.agg (aS x20 N O P Q).toArray] w λv w'=>∃ S T U,.agg bQ.toArray=v/\Sep w' (Blk x 69 [S,T,U,d,e,f,g,j,k]::Fo) (rSl aB S r.1::rSl aC T r.2.1::rSl aO U r.2.2::rs):=by
 refine ent func30 z ntmps30 z z λa E=>sq<|bx E H z λV w a H E=>al2 E H z lJ λy w a H E=>nt<|aN (λa w=>∃ o p q s t u b,Env 42 a [(4,pt y 0)]/\Sep w (Blk y 40 bQ::Blk x 69 [o,p,q,d,e,f,g,j,k]::Fo) b/\(∀ r,r ∈ rs->r ∈ b)/\rSl aB o s ∈ b/\rSl aC p t ∈ b/\rSl aO q u ∈ b/\pD s t u=some r) ?_ ?_
 ·refine wS<|dz [0,0,0,0,0,0,0,0,1,0,0,0,1,2] [1,2] H λw W0 hI H=>fn 3 E z λa E=>fb2 E mm1 U26 z λa E=>fn 1 E z λa E=>fb2 E m0 U9 z λa E=>fn 1 E z λa E=>fb2 E m0 U2 z λa E=>bO z<|bd m λW F m=>xc2 E z (cf_ 84) (Yp H c F)<|op1 λX w H a E=>nt<|⟨sx H [2,3] z,fn 3 E z λa E=>bO z<|pn 1 E z λa E=>⟨sx H [2,3] z,bJ z<|pn 1 E z λa E=>bF<|?_⟩⟩
  clear hI;refine aA<|sq<|pn 1 E z λa E=>wif E m z (λm=>?_) λm=>wK<|aA<|have H:=H.drs [0,1];X7 ⟨E.to z,H,Y0,l,n,c,m⟩;refine wS<|dz [0,0,0,0,0,0,0,0,0,0,0,1,0,0,0,2,2,2] [2,3] H λw W0 hI H=>fn 4 E z λa E=>fbn E [A,B] z (wn z) z z z z mm1 z U25 z bN λa E=>fn 3 E z λa E=>fb2 E mm1 U26 z λa E=>fn 1 E z λa E=>fb2 E m0 U9 z λa E=>bO z<|bd m λY G m=>xc2 E z (cf_ 75) (qF (x1:=(⟨C,D⟩:aG)) H l n c G)<|op4 λZ b0 b1 b2 w H a E=>nt<|⟨⟨_,_,H,(aE mm6 (aE (t1 mm6) (aM))),(aP)⟩,fn 3 E z λa E=>bJ z<|pn 1 E z λa E=>bJ z<|pn 1 E z λa E=>bJ z<|?_⟩
  obtain ⟨q60,b3,rfl⟩:=H.rowform (i:=2) z;obtain ⟨q62,b4,rfl⟩:=H.rowform (i:=3) z;refine ss 7 E H z bN z λw H=>nt<|bF<|?_;clear hI;refine aA<|wG<|pr 4 E z λa E=>?_;obtain ⟨q64,b5,rfl⟩:=H.rowform (i:=4) z;exact ss 7 E H z IX z λw H=>nt<|have H:=H.thaw (i:=2) z;have H:=H.thaw (i:=2) z;have H:=H.thaw (i:=2) z;have H:=H.drs [0,0,1];X7 ⟨E.to z,H,(Y3 Y0),mm2,mm1,m0,m⟩
 ·clear E H m;rintro a w ⟨o,p,q,s,t,u,b,E,H,I,J,K,L,m⟩;refine sq<|sv2 E z (cP E z (E.evs z) (v:=.agg bQ.toArray) (by kernel_rfl)) λa E=>ss 0 E H z cA z λw H=>nt<|wR<|Ik E z (oO (i:=0) (us:=bQ) H z z z U40 z cA)<|have H:=H.drop 0;?_;cases m;exact X3 ⟨z,H.reads (aD J (aD K (aD L (I))))⟩

def wE(x1:aY)(x3:Int):Option Bool:=
  some (x1.Txn == x3)
theorem Hq{x1:aY}{b:Nat}{x3:Int}(H:Sep w (Blk b 2 [i_ x3]::Fo) rs){r:Bool}(m:wE x1 x3=some r) :
    Cf 127 [.agg (wM x1).toArray,pt b 0] w λv w'=>.bool r=v/\Sep w' (Blk b 2 [i_ x3]::Fo) (rs):=ent func127 z ntmps127 z z λa E=>sq<|bx E H z λc w a H E=>pr 1 E z λa E=>xp 1 E z λa E=>lb2 E H 0 U2 z λa E=>lb2 E H 1 U2 z λa E=>pr 2 E z λa E=>nt<|wR<|o1 E z<|have H:=H.drop 0;d_ m z (H.reads Y0)

def eW(c:List aY)(x4:Int):Nat->Int->Option Int
  | 0,_=>none
  | e+1,b=>
    if (decide (b < (c.length:Int)))=true then ((idx c b).bind λf=>(wE f x4).bind λd=>if d=true then (some (b)) else (eW c x4 e (IntKind.i64.wrap (b+1)))) else (some ((-1)))
def kA(b:List aY)(x4:Int):Option Int:=
  eW b x4 (((b.length:Int) - 0:Int).toNat+1) 0
theorem M9{e:VL}{b:List aY}{f:Nat}{x4:Int}(H:Sep w (Row 97 bE e b::Blk f 2 [i_ x4]::Fo) rs){r:Int}(m:kA b x4=some r) :
    Cf 108 [e,.func (.func 127) #[] #[pt f 0]] w λv w'=>.int .i64 r=v/\Sep w' (Blk f 2 [i_ x4]::Row 97 bE e b::Fo) (rs):=by
 refine ent func108 z ntmps108 z z λa E=>sq<|pn 1 E z λa E=>wS<|sp 1 E z λa E=>sv2 E z (lF (i:=0) E H z z z U60) λa E=>pr 1 E z λa E=>nt<|wB<|bK (λc a w=>∃ l,Jn 19 a w [(0,e),(1,.func (.func 127) #[] #[pt f 0]),(7,i_ (b.length:Int)),(8,i_ l)] (Row 97 bE e b::Blk f 2 [i_ x4]::Fo) rs (eW b x4 c l=some r)) (((b.length:Int) - 0:Int).toNat+1) (⟨_,_,E.to z,H,Y0,m⟩) ?_;clear E H m;rintro c a w ⟨l,p,E,H,g,m⟩;cases c with
 | zero=>exact (bH m z).elim
 | succ c=>
  unfold eW at m;refine sq<|pn 1 E z λa E=>wS<|wif E m z (λm=>?_) λm=>wX<|aW<|aW<|cR<|aA<|sq<|pn 1 E z λa E=>wR<|o1 E z<|have H:=H.frs [0,1] z;d_ m z (H.reads g);refine wK<|aA<|wS<|wB<|sp 2 E z λa E=>xp 3 E z λa E=>bd m λn j m=>?_;obtain ⟨q,s,k⟩:=H.rowformNE (i:=0) z j;exact sv2 E z (dS (d:=bE) E k z z z z U60 sH j) λa E=>sv2 E z (lG (i:=0) E H hF k z z z j (us:=[.string n.Dir,i_ n.Txn,i_ n.Age]) z U97 z sH) λa E=>have H:=H.frs [0,1] z;bd m λt o m=>bP E (wn z) z z (bT E z z z ((cf_ 127) _)) (Hq H o)<|op0 λw H a E=>nt<|wif E m z (λm=>sq<|pn 2 E z λa E=>wR<|bM<|aJ<|aJ<|bM<|aJ<|o1 E z<|d_ m z (H.reads g)) λm=>wK<|bR<|aA<|wG<|pn 2 E z λa E=>have H:=H.frs [0,1] z;⟨c,nL c,_,_,E.to z,H,g,m⟩

def gP(rec_1:gT->Int->Int->Option gT)(d:Int)(b:gT)(c:Int):Option gT:=
  rec_1 b c (IntKind.i64.wrap (d+1))
def dQ(x4:Int):Nat->gT->Int->Int->Option gT
  | 0,_,_,_=>none
  | f+1,c,b,d=>
    if (decide (d < (c.length:Int)))=true then ((idx c d).bind λe=>(wE e x4).bind λg=>if (!g)=true then ((idx c b).bind λi=>gP (dQ x4 f) d (c.set b.toNat e) (IntKind.i64.wrap (b+1))) else (gP (dQ x4 f) d c b)) else ((ck (0 <= b/\b <= c.length)).bind λj=>(ck (0 <= b/\b <= (c.take b.toNat ++ List.replicate (c.length - b.toNat) (⟨⟨#[]⟩,0,0⟩:aY)).length)).bind λk=>some ((c.take b.toNat ++ List.replicate (c.length - b.toNat) (⟨⟨#[]⟩,0,0⟩:aY)).take b.toNat))
def kW(b:List aY)(x4:Int):Option gT:=
  (kA b x4).bind λc=>if (c == (-1))=true then (some (b)) else (dQ x4 (((b.length:Int) - (IntKind.i64.wrap (c+1)):Int).toNat+1) b c (IntKind.i64.wrap (c+1)))
theorem O6{k:VL}{t:List aY}{c:Nat}{x4:Int}(H:Sep w (Row 97 bE k t::Blk c 2 [i_ x4]::Fo) rs){r:gT}(m:kW t x4=some r) :
    Cf 126 [k,.func (.func 127) #[] #[pt c 0]] w λv w'=>∃ C,C=v/\Sep w' (Row 97 bE C r::Blk c 2 [i_ x4]::Fo) (rs):=by
 refine ent func126 z ntmps126 z z λa E=>sp 1 E z λa E=>xp 2 E z λa E=>bd m λF D m=>xk2 E z (cf_ 108) (M9 H D) λw H a E=>pn 1 E z λa E=>wS<|sq<|pn 2 E z λa E=>wif E m z (λm=>?_) λm=>?_
 ·refine sq<|pn 2 E z λa E=>wR<|aJ<|o1 E z<|have H:=H.frs [0,1] z;?_;cases m;exact ⟨_,z,H.reads Y0⟩
 ·refine wK<|aA<|wS<|sq<|pn 3 E z λa E=>wB<|bK (λe a w=>∃ u x l,Jn 42 a w [(0,k),(1,.func (.func 127) #[] #[pt c 0]),(5,i_ x),(6,i_ l)] (Row 97 bE k u::Blk c 2 [i_ x4]::Fo) rs (dQ x4 e u x l=some r)) (((t.length:Int) - (IntKind.i64.wrap (F+1)):Int).toNat+1) (have H:=H.frs [0,1] z;X4 ⟨E.to z,H,Y0,m⟩) ?_;clear E H m;rintro e a w ⟨u,x,l,G,E,H,f,m⟩;cases e with
  | zero=>exact (bH m z).elim
  | succ e=>
   unfold dQ at m;refine wS<|sp 2 E z λa E=>sv2 E z (lF (i:=0) E H z z z U60) λa E=>pn 1 E z λa E=>wif E m z (λm=>?_) λm=>?_
   ·refine wK<|aA<|aN (λa w=>∃ n o,Jn 42 a w [(0,k),(1,.func (.func 127) #[] #[pt c 0]),(5,i_ o),(6,i_ l)] (Row 97 bE k n::Blk c 2 [i_ x4]::Fo) rs (gP (dQ x4 e) l n o=some r)) ?_ ?_
    ·refine wB<|sp 2 E z λa E=>bd m λb g m=>?_;obtain ⟨J,K,p⟩:=H.rowformNE (i:=0) z g;refine sv2 E z (dS (d:=bE) E p z z z z U60 sH g) λa E=>sv2 E z (lG (i:=0) E H hF p z z z g (us:=[.string b.Dir,i_ b.Txn,i_ b.Age]) z U97 z sH) λa E=>al2 E H z IY λL w a H E=>ss 0 E H z sH z λw H=>xp 1 E z λa E=>ln 0 (wM b) E H U97 z sH λa E=>have H:=H.frs [1,1,2] z;bd m λM y m=>bP E (wn z) z z (bT E z z z ((cf_ 127) _)) (Hq H y)<|op0 λw H a E=>pn 1 E z λa E=>wif E m z (λm=>?_) λm=>wK<|bR<|aA<|have H:=H.drop 1;have H:=H.frs [0,1] z;X3 ⟨E.to z,H,f,m⟩;refine sp 2 E z λa E=>ln 1 (wM b) E H U97 z sH λa E=>bd m λN j m=>?_;obtain ⟨O,P,q⟩:=H.rowformNE (i:=2) z j;exact sv2 E z (dS (d:=bE) E q z z z z U60 sH j) λa E=>Al (d:=bE) (i:=2) (us:=[.string b.Dir,i_ b.Txn,i_ b.Age]) (z':=b) E H hF (wn z) z q z z z z z z z j sH λw H=>nt<|wG<|pr 3 E z λa E=>wN<|bR<|aA<|have H:=H.drop 1;have H:=H.frs [0,1] z;X3 ⟨E.to z,H,f,m⟩
    clear E H m;rintro a w ⟨n,o,I,E,H,A,m⟩;exact wG<|pn 3 E z λa E=>⟨e,nL e,X4 ⟨E.to z,H,A,m⟩⟩
   ·refine wX<|aW<|aW<|cR<|aA<|sp 2 E z λa E=>bk m λs m=>sv2 E z (Io (d:=bE) (i:=0) E H z z z z U60 sH s) λa E=>Ch (i:=0) (z0:=(⟨⟨#[]⟩,0,0⟩:aY)) E H hF (wn z) z z z U60 VG z z z s λw H=>xp 2 E z λa E=>bk m λB m=>Ff (i:=0) E H hF (wn z) z z z z z z U60 sH B λQ a H E=>pn 1 E z λa E=>wR<|o1 E z<|?_;cases m;exact ⟨_,z,H.reads f⟩

def Q1(b:List aY)(x3:Int):Option gT:=
  (ck (b.length <= LIM)).bind λd=>(kW b x3).bind λc=>some (c)
theorem Yr{c:VL}{d:List aY}{x3:Int}(H:Sep w (Fo) rs)(e:rSl bE c d ∈ rs){r:gT}(m:Q1 d x3=some r) :
    Cf 71 [c,i_ x3] w λv w'=>∃ f,f=v/\Sep w' (Row 97 bE f r::Fo) (rs):=by
 refine ent func71 z ntmps71 z z λa E=>sq<|bx E H z λj w a H E=>pr 1 E z λa E=>xp 1 E z λa E=>bk m λg m=>xc2 E z (cf_ 50) (oX H e g) λk w H a E=>sv2 E z (oP E z z z) λa E=>bd m λl b m=>xc2 E z (cf_ 126) (O6 H b)<|op1 λi w H a E=>pn 1 E z λa E=>wR<|o1 E z<|have H:=H.drop 1;?_;cases m;exact ⟨_,z,H.reads Y0⟩

def zH(g:List dE)(x1:aG):Nat->Au->Int->cT->cN->Option (aG×Au×Int×Int)
  | 0,_,_,_,_=>none
  | j+1,d,c,e,f=>
    if (decide (c < (g.length:Int)))=true then ((idx g c).bind λi=>(Cz (⟨e,f⟩:aG) i.Part).bind λb=>if (b.2.Err != 0)=true then (some (x1,[],b.2.Err,c)) else ((ck (d.length+([b.2]:List dA).length <= LIM)).bind λk=>zH g x1 j (d ++ ([b.2]:List dA)) (IntKind.i64.wrap (c+1)) b.1.Nodes b.1.Turns)) else (some ((⟨e,f⟩:aG),d,0,0))
def M1(x1:aG)(b:List dE):Option (aG×Au×Int×Int):=
  zH b x1 (((b.length:Int) - 0:Int).toNat+1) [] 0 x1.Nodes x1.Turns
theorem Gs{x1:aG}{s t K:VL}{y:List dE}(H:Sep w (Fo) rs)(n:rSl aB s x1.Nodes ∈ rs)(o:rSl aC t x1.Turns ∈ rs)(D:rSl bU K y ∈ rs)(O:Z2 Tryz.prog ∈ rs){r:aG×Au×Int×Int}(m:M1 x1 y=some r) :
    Cf 70 [.agg #[s,t],K] w λv w'=>∃ P Q R,.tuple #[.agg #[P,Q],R,i_ r.2.2.1,i_ r.2.2.2]=v/\Sep w' (Row 154 bB R r.2.1::Fo) (rSl aB P r.1.Nodes::rSl aC Q r.1.Turns::rs):=by
 refine ent func70 z ntmps70 z z λa E=>sq<|bx E H z λF w a H E=>al2 E H z dG λG w a H E=>pr 3 E z λa E=>nx<|ln 1 [s,t] E H U25 z bN λa E=>al2 E H z dG λI w a H E=>ss 0 E H z bN (aZ H n o) λw H=>nx<|pn 1 E z λa E=>wS<|sp 1 E z λa E=>lS E H D U42 z λa E=>pn 1 E z λa E=>wB<|bK (λu a w=>∃ A g j B C p q f,Env 44 a [(2,pt F 0),(4,pt G 0),(8,pt I 0),(9,A),(15,K),(16,i_ (y.length:Int)),(17,i_ C)]/\Sep w (Blk F 25 [s,t]::Blk G 25 [nS,nS]::Blk I 25 [g,j]::Row 154 bB A B::Fo) f/\(∀ r,r ∈ rs->r ∈ f)/\rSl aB g p ∈ f/\rSl aC j q ∈ f/\zH y x1 u B C p q=some r) (((y.length:Int) - 0:Int).toNat+1) (have H:=H.nilRow 154 bB;have H:=H.frs [0,1,2,3] z;X8 ⟨E.to z,H,Y0,n,o,m⟩) ?_;clear E H m;rintro u a w ⟨A,g,j,B,C,p,q,f,E,H,c,k,l,m⟩;cases u with
 | zero=>exact (bH m z).elim
 | succ u=>
  unfold zH at m;refine sq<|pn 1 E z λa E=>wS<|wif E m z (λm=>?_) λm=>?_
  ·refine wK<|aA<|wS<|wB<|sp 1 E z λa E=>bd m λS L m=>dH E H (wn z) z z z z z (c _ D) U42 R2 L λq26 a H E=>ldf J2 E H z z z z z m0 DH z R2 λa E=>al2 E H z Wv λW w a H E=>pr 1 E z λa E=>ss 0 E H z R2 z λw H=>nx<|ln 3 [g,j] E H U25 z bN λa E=>pr 1 E z λa E=>ln 0 (cI S.Part) E H sX z iX λa E=>bd m λb M m=>xc2 E z (cf_ 125) (GE (x1:=(⟨p,q⟩:aG)) H (t1 k) (t1 l) (t1 (c _ O)) M)<|op3 λT U V w H a E=>pr 3 E z λa E=>al2 E H z dG λX w a H E=>al2 E H z LF λY w a H E=>ss 1 E H z bN (aZ H m0 mm1) λw H=>ss 0 E H z A9 (Uh H mm2) λw H=>nt<|wS<|sp 1 E z λa E=>lb2 E H 0 U34 z λa E=>pn 1 E z λa E=>wif E m z (λm=>?_) λm=>?_
   ·refine wS<|dz [0,0,0,0,1,1,1,2] [0,3] H λw W0 hI H=>fbn E [s,t] z (wn z) z z z z mm1 z U25 z bN λa E=>fn 1 E z λa E=>fb2 E m0 U34 z λa E=>fn 1 E z λa E=>bO z<|Ro (i:=4) E H (wn z) z z z z z z bN z (aZ H (t4 (c _ n)) (t4 (c _ o))) λw H=>nt<|⟨sx H [0,3] z,bO z<|pn 1 E z λa E=>⟨sx H [0,3] z,bO z<|pn 1 E z λa E=>⟨sx H [0,3] z,bJ z<|pn 1 E z λa E=>bF<|?_⟩⟩⟩
    clear hI;refine aA<|wR<|aJ<|bM<|aJ<|aJ<|bM<|aJ<|LB E z (oO (i:=4) (us:=[s,t]) H z z z U25 z bN) (rvT z) (rvT z) (rvT z)<|have H:=H.nilRow 154 bB;have H:=H.drs [1,1,1,1,1,1,1];?_;cases m;exact X3 ⟨z,H.reads (aD (t4 (c _ n)) (aD (t4 (c _ o)) (λr hr=>(t4 (c r hr)))))⟩
   refine wK<|aA<|sq<|ln 1 [T,U] E H U25 z bN λa E=>ss 5 E H z bN (aZ H m0 mm1) λw H=>nt<|wG<|pr 1 E z λa E=>ln 0 (Ar b.2 V) E H Lr z A9 λa E=>?_;obtain ⟨q35,J,rfl⟩:=H.slform mm2;exact tE (e:=154) (d:=bB) (cs:=[i_ b.2.Err,.string b.2.Path,.string b.2.Data,i_ b.2.Version,(.slice q35 b.2.Names.length J)]) (xs:=[b.2]) E H (wn z) z z z (E.evs z) (by kernel_rfl) z (λok hr=>(Rows.single (d:=bB) (cs:=[i_ b.2.Err,.string b.2.Path,.string b.2.Data,i_ b.2.Version,(.slice q35 b.2.Names.length J)]) (x:=b.2) (Sk (hr _ mm2)))) λZ w a H E=>bk m λN m=>gG (i:=6) E H (wn z) z z z z z z (qS m0) U35 RP z N z λb0 w a H E=>pr 1 E z λa E=>wN<|bR<|aA<|wG<|pr 2 E z λa E=>nt<|have H:=H.drs [0,0,0];⟨u,nL u,X8 ⟨E.to z,H,(Y5 c),mm1,mm2,m⟩⟩
  ·refine wX<|aW<|aW<|cR<|aA<|sq<|ln 2 [g,j] E H U25 z bN λa E=>pr 1 E z λa E=>ss 1 E H z bN (aZ H k l) λw H=>pn 3 E z λa E=>wR<|LB E z (oO (i:=1) (us:=[g,j]) H z z z U25 z bN) (rvT z) (rvT z) (rvT z)<|have H:=H.drs [0,0,0];?_;cases m;exact X3 ⟨z,H.reads (aD k (aD l (c)))⟩

def yY(x1:Int):Option Bool:=
  some (x1 != x1)
theorem Dm{x1:Int}(H:Sep w (Fo) rs){r:Bool}(m:yY x1=some r) :
    Cf 279 [i_ x1] w λv w'=>.bool r=v/\Sep w' (Fo) (rs):=ent func279 z ntmps279 z z λa E=>sp 1 E z λa E=>nx<|pn 4 E z λa E=>wR<|o1 E z<|d_ m z (H.reads Y0)

def w9(x1:Int)(b:Int):Option Int:=
  (yY x1).bind λd=>(yY b).bind λc=>if d=true then (if c=true then (some (0)) else (some ((-1)))) else (if c=true then (some (1)) else (if (decide (x1 < b))=true then (some ((-1))) else (if (decide (x1 > b))=true then (some (1)) else (some (0)))))
theorem Km{x1 b:Int}(H:Sep w (Fo) rs){r:Int}(m:w9 x1 b=some r) :
    Cf 223 [i_ x1,i_ b] w λv w'=>.int .i64 r=v/\Sep w' (Fo) (rs):=ent func223 z ntmps223 z z λa E=>sp 1 E z λa E=>xp 1 E z λa E=>bd m λe c m=>xk2 E z (cf_ 279) (Dm H c) λw H a E=>pr 1 E z λa E=>nx<|pr 1 E z λa E=>bd m λf d m=>xk2 E z (cf_ 279) (Dm H d) λw H a E=>pn 1 E z λa E=>wS<|sq<|pn 1 E z λa E=>wif E m z (λm=>wS<|sq<|pn 1 E z λa E=>wif E m z (λm=>sq<|pn 1 E z λa E=>wR<|aJ<|aJ<|o1 E z<|d_ m z (H.reads Y0)) λm=>wK<|aA<|sq<|pn 1 E z λa E=>wR<|aJ<|o1 E z<|d_ m z (H.reads Y0)) λm=>wK<|aA<|wS<|sq<|pn 1 E z λa E=>wif E m z (λm=>sq<|pn 1 E z λa E=>wR<|aJ<|o1 E z<|d_ m z (H.reads Y0)) λm=>wK<|aA<|wS<|sq<|pn 3 E z λa E=>wif E m z (λm=>sq<|pn 1 E z λa E=>wR<|aJ<|o1 E z<|d_ m z (H.reads Y0)) λm=>wK<|aA<|wS<|sq<|pn 3 E z λa E=>wif E m z (λm=>sq<|pn 1 E z λa E=>wR<|aJ<|o1 E z<|d_ m z (H.reads Y0)) λm=>wK<|aA<|sq<|pn 1 E z λa E=>wR<|o1 E z<|d_ m z (H.reads Y0)

def sW(x1:aI)(x3:Int):Option Int:=
  (w9 x1.Num x3).bind λb=>some (b)
theorem Ds{x1:aI}{c:VL}{x3:Int}(H:Sep w (Fo) rs){r:Int}(m:sW x1 x3=some r) :
    Cf 151 [.agg (sV x1 c).toArray,i_ x3] w λv w'=>.int .i64 r=v/\Sep w' (Fo) (rs):=ent func151 z ntmps151 z z λa E=>sq<|bx E H z λd w a H E=>pr 1 E z λa E=>xp 1 E z λa E=>lb2 E H 0 U2 z λa E=>pr 1 E z λa E=>bd m λe b m=>xk2 E z (cf_ 223) (Km H b) λw H a E=>pn 1 E z λa E=>wR<|o1 E z<|have H:=H.drop 0;d_ m z (H.reads Y0)

def cJ(b:List aI)(x3:Int):Nat->Int->Int->Option B2
  | 0,_,_=>none
  | d+1,x4,c=>
    if (decide (x4 < c))=true then ((idx b (IntKind.i64.wrap (vB .u64 (IntKind.u64.wrap (IntKind.i64.wrap (x4+c))) 1))).bind λi=>(sW i x3).bind λe=>if (decide (e < 0))=true then (cJ b x3 d (IntKind.i64.wrap ((IntKind.i64.wrap (vB .u64 (IntKind.u64.wrap (IntKind.i64.wrap (x4+c))) 1))+1)) c) else (cJ b x3 d x4 (IntKind.i64.wrap (vB .u64 (IntKind.u64.wrap (IntKind.i64.wrap (x4+c))) 1)))) else (if (decide (x4 < (b.length:Int)))=true then ((idx b x4).bind λf=>(sW f x3).bind λg=>some (x4,g == 0)) else (some (x4,false)))
def fF(b:List aI)(x3:Int):Option B2:=
  cJ b x3 (((b.length:Int) - 0:Int).toNat+1) 0 (b.length:Int)
theorem vQ{j:VL}{e:List aI}{x3:Int}(H:Sep w (Row 209 aL j e::Fo) rs){r:Int×Bool}(m:fF e x3=some r) :
    Cf 150 [j,i_ x3,.func (.func 151) #[] #[]] w λv w'=>.tuple #[i_ r.1,.bool r.2]=v/\Sep w' (Row 209 aL j e::Fo) (rs):=by
 refine ent func150 z ntmps150 z z λa E=>sp 2 E z λa E=>xp 1 E z λa E=>sv2 E z (lF (i:=0) E H z z z U65) λa E=>pr 1 E z λa E=>xp 3 E z λa E=>nt<|wS<|wB<|bK (λc a w=>∃ x4 u,Jn 49 a w [(0,j),(1,i_ x3),(2,.func (.func 151) #[] #[]),(8,i_ (e.length:Int)),(9,i_ x4),(10,i_ u)] (Row 209 aL j e::Fo) rs (cJ e x3 c x4 u=some r)) (((e.length:Int) - 0:Int).toNat+1) (X3 ⟨E.to z,H,Y0,m⟩) ?_;clear E H m;rintro c a w ⟨x4,u,B,E,H,g,m⟩;cases c with
 | zero=>exact (bH m z).elim
 | succ c=>
  unfold cJ at m;refine wS<|sq<|pn 3 E z λa E=>wif E m z (λm=>?_) λm=>?_
  ·refine wK<|aA<|wB<|sp 4 E z λa E=>sv2 E z (Ii E z z z (by decide)) λa E=>pr 2 E z λa E=>xp 3 E z λa E=>bd m λA l m=>?_;obtain ⟨C,D,n⟩:=H.rowformNE (i:=0) z l;refine sv2 E z (dS (d:=aL) E n z z z z U65 E5 l) λa E=>Ry (i:=0) (k:=0) (s:=3) E H n (wn z) z z z z z l z Ui z E5 λF a H E=>?_;obtain ⟨_,hcs⟩:=H.rd (.head _);obtain ⟨p,rfl,-⟩:=eK hcs;clear hcs;refine have H:=H.derive1 m0 (rSl aV p A.Events) (λok h=>lH h);?_
   replace E:Env 49 a ((28,.agg (sV A p).toArray)::_):=E
   exact pr 1 E z λa E=>bd m λG x m=>bP E (wn z) z z (bT E z z z ((cf_ 151) _)) (Ds H x)<|op0 λw H a E=>pn 1 E z λa E=>wif E m z (λm=>wG<|pr 3 E z λa E=>wN<|bR<|aA<|⟨c,nL c,X3 ⟨E.to z,H,(Y2 g),m⟩⟩) λm=>wG<|pr 2 E z λa E=>wN<|bR<|aA<|⟨c,nL c,X3 ⟨E.to z,H,(Y2 g),m⟩⟩
  ·refine wX<|aW<|aW<|cR<|aA<|sp 5 E z λa E=>cs m (λb m=>?_) λb m=>?_
   ·refine pk 3 E (kc 39 z b) z λa E=>bd m λq f m=>?_;obtain ⟨I,J,o⟩:=H.rowformNE (i:=0) z f;refine gv 39 E b z (dS (d:=aL) E o z z z z U65 E5 f) λa E=>Ry (i:=0) (k:=0) (s:=3) E H o (ws' (d:=39) E z z z z b) z z z z z f z Ui z E5 λK a H E=>?_;obtain ⟨_,hcs⟩:=H.rd (.head _);obtain ⟨t,rfl,-⟩:=eK hcs;clear hcs;refine have H:=H.derive1 m0 (rSl aV t q.Events) (λok h=>lH h);?_
    replace E:Env 49 a ((44,.agg (sV q t).toArray)::_):=E
    refine pk 1 E (kc 39 z b) z λa E=>bd m λL y m=>bP E (ws' (d:=39) E z z z z b) z z (bT E z z z ((cf_ 151) _)) (Ds H y)<|op0 λw H a E=>pk 4 E (kc 39 z b) z λa E=>nt<|wR<|iW E z z z<|?_;cases m;exact ⟨z,H.reads (Y2 g)⟩
   ·refine pk 11 E (kc 39 z b) z λa E=>nt<|wR<|iW E z z z<|?_;cases m;exact ⟨z,H.reads g⟩

def yD(c:aR)(d:aI)(b:dO):Option Iw:=
  if c.Deep=true then (some (decide ((d.Events.length:Int) < 7),b)) else (some (false,b))
def B9(c:aR)(b:aI)(d:Int)(e:BY)(f:List aI)(g:Int)(i:Bool):Option Iw:=
  if i=true then ((ck ((({ b with Count:=IntKind.i64.wrap (b.Count+1) }:aI).Events).length <= LIM)).bind λj=>(ck ((({ b with Count:=IntKind.i64.wrap (b.Count+1) }:aI).Events).length+([(⟨IntKind.i64.wrap (b.Count+1),d,e,c.Num⟩:bV)]:List bV).length <= LIM)).bind λk=>yD c b ((f.set g.toNat ({ b with Count:=IntKind.i64.wrap (b.Count+1) }:aI)).set g.toNat ({ ({ b with Count:=IntKind.i64.wrap (b.Count+1) }:aI) with Events:=(({ b with Count:=IntKind.i64.wrap (b.Count+1) }:aI).Events) ++ ([(⟨IntKind.i64.wrap (b.Count+1),d,e,c.Num⟩:bV)]:List bV) }:aI))) else (yD c b f)
def yE(c:aR)(b:aI)(f:List aI)(g:Int)(d:Int)(e:BY):Option Iw:=
  if (decide ((b.Events.length:Int) < 8))=true then (B9 c b d e f g (decide (b.Count < 281474976710656))) else (B9 c b d e f g false)
def Q2(d:List aI)(e:Int)(c:aI)(b:aR)(f:Int)(g:BY):Option Iw:=
  if ((c.Events.length:Int) == 7)=true then (yE b c d e 4 b.Path) else (yE b c d e f g)
theorem Ys{n:VL}{D U V:Nat}{y:List aI}{t F:Int}{b:aI}{c:aR}{G:BY}(j:idx y t=some b)(l:n= .slice (some ⟨D,0,none⟩) U V)(H:Sep w (Row 209 aL n y::Fo) rs){r:Bool×dO}(m:Q2 y t b c F G=some r) :
    Cf 290 [.pointer (some ⟨D,t.toNat * 3,none⟩),.agg (eN c).toArray,i_ F,.string G] w λv w'=>.bool r.1=v/\Sep w' (Row 209 aL n r.2::Fo) (rs):=by
 refine ent func290 z ntmps290 z z λa E=>sq<|bx E H z λp w a H E=>pr 1 E z λa E=>xp 3 E z λa E=>Ae (i:=1) (k:=2) E H l (wn z) z z z z z j z U36 z λb0 a H E=>?_;obtain ⟨_,hcs⟩:=H.rd (.head _);obtain ⟨M,rfl,-⟩:=eK hcs;clear hcs;refine have H:=H.derive1 m0 (rSl aV M b.Events) (λok h=>lH h);?_
 replace E:Env 65 a ((14,M)::_):=E
 refine lS E H m0 U36 z λa E=>pn 1 E z λa E=>wS<|dz [0,0,0,0,0,0,0,0,0,0,1,2] [0,1] H λw W0 hI H=>fn 3 E z λa E=>fv E z (λw hW=>FM (d:=aL) (k:=1) (u:=i_ b.Count) E l j mm1 (λw ok cs h=>by obtain ⟨n,rfl,-⟩:=eK h;rfl) z z U2 z hW) λa E=>fn 4 E z λa E=>fb2 E m0 U2 z λa E=>fv E z (λw hW=>(cP E z (E.evs z) (v:=.agg #[i_ (IntKind.i64.wrap (b.Count+1)),i_ F,.string G,i_ c.Num]) (by kernel_rfl))) λa E=>bO z<|al2 E H z DI λq w a H E=>nt<|⟨sx H [1,2] z,bJ z<|ss 0 E H z yA z λw H=>nt<|bF<|?_⟩
 clear hI;refine aA<|aN (λa w=>∃ f g,Jn 65 a w [(0,.pointer (some ⟨D,t.toNat * 3,none⟩)),(5,pt p 0),(9,i_ (b.Events.length:Int)),(10,pt q 0)] (Row 209 aL n y::Blk p 45 (eN c)::Blk q 156 [i_ (IntKind.i64.wrap (b.Count+1)),i_ f,.string g,i_ c.Num]::Fo) rs (yE c b y t f g=some r)) ?_ ?_
 ·refine sq<|pn 2 E z λa E=>wif E m z (λm=>?_) λm=>wK<|aA<|have H:=H.frs [0,1,2] z;X3 ⟨E.to z,H,(Y2 Y0),m⟩;refine dz [0,0,0,1,2,2] [1] H λw W0 hI H=>fn 1 E z λa E=>fb2 E m0 U9 z λa E=>fn 1 E z λa E=>bO z<|ss 0 E H z sz3 z λw H=>nt<|⟨sx H [1] z,bJ z<|pn 1 E z λa E=>bJ z<|ss 0 E H z sz9 z λw H=>nt<|bF<|?_⟩
  clear hI;exact aA<|have H:=H.frs [0,1,2] z;X3 ⟨E.to z,H,(Y2 Y0),m⟩
 ·clear E H m;rintro a w ⟨f,g,X,E,H,I,m⟩;refine aN (λa w=>∃ J,Jn 65 a w [(5,pt p 0),(9,i_ (b.Events.length:Int))] (Blk p 45 (eN c)::Row 209 aL n J::Fo) rs (yD c b J=some r)) ?_ ?_
  ·refine aN (λa w=>∃ K,Jn 65 a w [(0,.pointer (some ⟨D,t.toNat * 3,none⟩)),(5,pt p 0),(9,i_ (b.Events.length:Int)),(10,pt q 0),(40,.bool K)] (Row 209 aL n y::Blk p 45 (eN c)::Blk q 156 [i_ (IntKind.i64.wrap (b.Count+1)),i_ f,.string g,i_ c.Num]::Fo) rs (B9 c b f g y t K=some r)) ?_ ?_
   ·refine wG<|pr 3 E z λa E=>cs m (λo m=>?_) λo m=>pk 6 E (kc 34 z o) z λa E=>nt<|⟨_,_,E.to z,H,I,m⟩
    refine pk 3 E (kc 34 z o) z λa E=>Ae (i:=0) (k:=1) E H l (ws' (d:=34) E z z z z o) z z z z z j z U2 z λb1 a H E=>?_;obtain ⟨_,hcs⟩:=H.rd (.head _);obtain ⟨P,rfl,-⟩:=eK hcs;clear hcs;refine have H:=H.derive1 m0 (rSl aV P b.Events) (λok h=>lH h);?_
    replace E:Env 65 a ((38,i_ b.Count)::_):=E
    exact pk 2 E (kc 34 z o) z λa E=>nt<|⟨_,_,E.to z,H,(Y2 I),m⟩
   clear E H m;rintro a w ⟨K,Y,E,H,s,m⟩;refine wif E m z (λm=>?_) λm=>wK<|aA<|have H:=H.drop 2;have H:=H.frs [0,1] z;⟨_,_,E.to z,H,s,m⟩;refine sp 3 E z λa E=>Ae (i:=0) (k:=1) E H l (wn z) z z z z z j z U2 z λb2 a H E=>?_;obtain ⟨_,hcs⟩:=H.rd (.head _);obtain ⟨Q,rfl,-⟩:=eK hcs;clear hcs;refine have H:=H.derive1 m0 (rSl aV Q b.Events) (λok h=>lH h);?_
   replace E:Env 65 a ((44,i_ b.Count)::_):=E
   refine pr 3 E z λa E=>Am (i:=0) (k:=1) (us:=[i_ (IntKind.i64.wrap (b.Count+1))]) (y':=({ b with Count:=IntKind.i64.wrap (b.Count+1) }:aI)) E H l (wn z) z z z z z z j z sz2 z (λok cs hr h=>by obtain ⟨n,rfl,g1⟩:=eK h;exact pN (x:=({ b with Count:=IntKind.i64.wrap (b.Count+1) }:aI)) g1) λw H=>nt<|bk m λA m=>bk m λB m=>?_;have hI:dL [Blk q 156 [i_ (IntKind.i64.wrap (b.Count+1)),i_ f,.string g,i_ c.Num]] [] { w with drawn:=w.drawn+1 }:=⟨_,_,H.kept (Kp.drawn _ w _),(aE mm2 (aM)),(aP)⟩
   refine nQ _ (.go 0 0 (.go 1 0 (.go 2 0 (.go 3 0 (.go 6 0 (.alt 4 (.alt 5 (.go 7 1 (.go 8 1 (.go 9 2 (.go 10 2 (.go 11 2 .nil))))) 7 (.go 5 1 (.go 8 1 (.go 9 2 (.go 10 2 (.go 11 2 .nil)))))) 7 (.go 4 1 (.go 5 1 (.go 8 1 (.go 9 2 (.go 10 2 (.go 11 2 .nil)))))))))))) [9,10,11] oA (by kernel_rfl) (λ_ _ _ h=>False.elim h.2) hI<|have H:=H.kept (Kp.drawn _ w (w.drawn+1));?_;generalize ({ w with drawn:=w.drawn+1 }:WD)=w at H hI ⊢
   replace hI:∃ W,dL [Blk q 156 [i_ (IntKind.i64.wrap (b.Count+1)),i_ f,.string g,i_ c.Num]] [] W:=⟨_,hI⟩
   obtain ⟨W0,hI⟩:=hI;refine om E z λa E=>om E z λa E=>ov E z (λw hW=>(I7 E z z)) λa E=>ov E z (λw hW=>pK E z z (v:=.pointer (some ⟨D,t.toNat * 3+2,none⟩)) (BR _ _)) λa E=>ov E z (λw hW=>kT E z z (K2 (us:=[i_ (IntKind.i64.wrap (b.Count+1)),i_ f,.string g,i_ c.Num]) m0 z It z yA w hW)) λa E=>fU z z ?_ ?_
   ·refine Ae (i:=0) (k:=2) E H l (wn z) z z z z z (J1 j) z U36 z λb3 a H E=>?_;obtain ⟨_,hcs⟩:=H.rd (.head _);obtain ⟨N,rfl,-⟩:=eK hcs;clear hcs;refine have H:=H.derive1 m0 (rSl aV N (({ b with Count:=IntKind.i64.wrap (b.Count+1) }:aI).Events)) (λok h=>lH h);?_
    replace E:Env 65 a ((52,N)::_):=E
    refine nt<|⟨sx H [2] z,fU z z ?_ ?_⟩
    ·refine xc2 E z (cf_ 157) (gV H m0 A) λb4 w H a E=>nt<|⟨sx H [3] z,bG z<|tE (e:=156) (d:=aV) (cs:=[i_ (IntKind.i64.wrap (b.Count+1)),i_ f,.string g,i_ c.Num]) (xs:=[(⟨IntKind.i64.wrap (b.Count+1),f,g,c.Num⟩:bV)]) E H (wn z) z z z (E.evs z) (by kernel_rfl) z (λok hr=>(Rows.single (d:=aV) (cs:=[i_ (IntKind.i64.wrap (b.Count+1)),i_ f,.string g,i_ c.Num]) (x:=(⟨IntKind.i64.wrap (b.Count+1),f,g,c.Num⟩:bV)) R1)) λb5 w a H E=>nt<|⟨sx H [3] z,bG z<|gG (i:=0) E H (wn z) z z z z z z (qS m0) U36 Sp z B z λb6 w a H E=>nt<|⟨sx H [3] z,bZ z<|pn 1 E z λa E=>bZ z<|pn 1 E z λa E=>bZ z<|?_⟩⟩⟩
     obtain ⟨q70,R,rfl⟩:=H.rowform (i:=0) z;refine have H:=H.thaw (i:=0) z;Am (i:=0) (k:=2) (us:=[(.slice q70 ((({ b with Count:=IntKind.i64.wrap (b.Count+1) }:aI).Events) ++ ([(⟨IntKind.i64.wrap (b.Count+1),f,g,c.Num⟩:bV)]:List bV)).length R)]) (y':=({ ({ b with Count:=IntKind.i64.wrap (b.Count+1) }:aI) with Events:=(({ b with Count:=IntKind.i64.wrap (b.Count+1) }:aI).Events) ++ ([(⟨IntKind.i64.wrap (b.Count+1),f,g,c.Num⟩:bV)]:List bV) }:aI)) E H l (wn z) z z z z z z (J1 j) z DJ z (λok cs hr h=>by obtain ⟨n,rfl,g1⟩:=eK h;exact pN (x:=({ ({ b with Count:=IntKind.i64.wrap (b.Count+1) }:aI) with Events:=(({ b with Count:=IntKind.i64.wrap (b.Count+1) }:aI).Events) ++ ([(⟨IntKind.i64.wrap (b.Count+1),f,g,c.Num⟩:bV)]:List bV) }:aI)) (hr _ m0)) λw H=>nt<|cM<|?_;clear hI;exact aA<|have H:=H.drop 2;have H:=H.frs [0,1] z;⟨_,_,E.to z,H,(Y6 s),m⟩
    refine tE (e:=156) (d:=aV) (cs:=[i_ (IntKind.i64.wrap (b.Count+1)),i_ f,.string g,i_ c.Num]) (xs:=[(⟨IntKind.i64.wrap (b.Count+1),f,g,c.Num⟩:bV)]) E H (wn z) z z z (E.evs z) (by kernel_rfl) z (λok hr=>(Rows.single (d:=aV) (cs:=[i_ (IntKind.i64.wrap (b.Count+1)),i_ f,.string g,i_ c.Num]) (x:=(⟨IntKind.i64.wrap (b.Count+1),f,g,c.Num⟩:bV)) R1)) λb7 w a H E=>nt<|⟨sx H [2] z,bG z<|xc2 E z (cf_ 157) (gV H mm1 A) λb8 w H a E=>nt<|⟨sx H [3] z,bG z<|gG (i:=0) E H (wn z) z z z z z z (qS m0) U36 Sp z B z λb9 w a H E=>nt<|⟨sx H [3] z,bZ z<|pn 1 E z λa E=>bZ z<|pn 1 E z λa E=>bZ z<|?_⟩⟩⟩
    obtain ⟨q79,S,rfl⟩:=H.rowform (i:=0) z;refine have H:=H.thaw (i:=0) z;Am (i:=0) (k:=2) (us:=[(.slice q79 ((({ b with Count:=IntKind.i64.wrap (b.Count+1) }:aI).Events) ++ ([(⟨IntKind.i64.wrap (b.Count+1),f,g,c.Num⟩:bV)]:List bV)).length S)]) (y':=({ ({ b with Count:=IntKind.i64.wrap (b.Count+1) }:aI) with Events:=(({ b with Count:=IntKind.i64.wrap (b.Count+1) }:aI).Events) ++ ([(⟨IntKind.i64.wrap (b.Count+1),f,g,c.Num⟩:bV)]:List bV) }:aI)) E H l (wn z) z z z z z z (J1 j) z DJ z (λok cs hr h=>by obtain ⟨n,rfl,g1⟩:=eK h;exact pN (x:=({ ({ b with Count:=IntKind.i64.wrap (b.Count+1) }:aI) with Events:=(({ b with Count:=IntKind.i64.wrap (b.Count+1) }:aI).Events) ++ ([(⟨IntKind.i64.wrap (b.Count+1),f,g,c.Num⟩:bV)]:List bV) }:aI)) (hr _ m0)) λw H=>nt<|cM<|?_;clear hI;exact aA<|have H:=H.drop 2;have H:=H.frs [0,1] z;⟨_,_,E.to z,H,(Y6 s),m⟩
   refine tE (e:=156) (d:=aV) (cs:=[i_ (IntKind.i64.wrap (b.Count+1)),i_ f,.string g,i_ c.Num]) (xs:=[(⟨IntKind.i64.wrap (b.Count+1),f,g,c.Num⟩:bV)]) E H (wn z) z z z (E.evs z) (by kernel_rfl) z (λok hr=>(Rows.single (d:=aV) (cs:=[i_ (IntKind.i64.wrap (b.Count+1)),i_ f,.string g,i_ c.Num]) (x:=(⟨IntKind.i64.wrap (b.Count+1),f,g,c.Num⟩:bV)) R1)) λc0 w a H E=>nt<|⟨sx H [2] z,bG z<|Ae (i:=0) (k:=2) E H l (wn z) z z z z z (J1 j) z U36 z λc1 a H E=>?_⟩
   obtain ⟨_,hcs⟩:=H.rd (.head _);obtain ⟨O,rfl,-⟩:=eK hcs;clear hcs;refine have H:=H.derive1 m0 (rSl aV O (({ b with Count:=IntKind.i64.wrap (b.Count+1) }:aI).Events)) (λok h=>lH h);?_
   replace E:Env 65 a ((52,O)::_):=E
   refine nt<|⟨sx H [2] z,bG z<|xc2 E z (cf_ 157) (gV H m0 A) λc2 w H a E=>nt<|⟨sx H [3] z,bG z<|gG (i:=0) E H (wn z) z z z z z z (qS mm2) U36 Sp z B z λc3 w a H E=>nt<|⟨sx H [3] z,bZ z<|pn 1 E z λa E=>bZ z<|pn 1 E z λa E=>bZ z<|?_⟩⟩⟩
   obtain ⟨q90,T,rfl⟩:=H.rowform (i:=0) z;refine have H:=H.thaw (i:=0) z;Am (i:=0) (k:=2) (us:=[(.slice q90 ((({ b with Count:=IntKind.i64.wrap (b.Count+1) }:aI).Events) ++ ([(⟨IntKind.i64.wrap (b.Count+1),f,g,c.Num⟩:bV)]:List bV)).length T)]) (y':=({ ({ b with Count:=IntKind.i64.wrap (b.Count+1) }:aI) with Events:=(({ b with Count:=IntKind.i64.wrap (b.Count+1) }:aI).Events) ++ ([(⟨IntKind.i64.wrap (b.Count+1),f,g,c.Num⟩:bV)]:List bV) }:aI)) E H l (wn z) z z z z z z (J1 j) z DJ z (λok cs hr h=>by obtain ⟨n,rfl,g1⟩:=eK h;exact pN (x:=({ ({ b with Count:=IntKind.i64.wrap (b.Count+1) }:aI) with Events:=(({ b with Count:=IntKind.i64.wrap (b.Count+1) }:aI).Events) ++ ([(⟨IntKind.i64.wrap (b.Count+1),f,g,c.Num⟩:bV)]:List bV) }:aI)) (hr _ m0)) λw H=>nt<|cM<|?_;clear hI;exact aA<|have H:=H.drop 2;have H:=H.frs [0,1] z;⟨_,_,E.to z,H,(Y6 s),m⟩
  ·clear E H m;rintro a w ⟨J,Z,E,H,L,m⟩;refine sp 1 E z λa E=>lb2 E H 0 U4 z λa E=>pr 1 E z λa E=>cs m (λC m=>?_) λC m=>?_
   ·refine pk 4 E (kc 61 z C) z λa E=>nt<|wR<|o1 E z<|have H:=H.drop 0;?_;cases m;exact ⟨z,H.reads L⟩
   ·refine pk 4 E (kc 61 z C) z λa E=>nt<|wR<|o1 E z<|have H:=H.drop 0;?_;cases m;exact ⟨z,H.reads L⟩

def yZ(b:Int×Bool)(x1:aR)(e:Int)(g:BY)(c:dO):Option Iw:=
  (idx c b.1).bind λf=>(Q2 c b.1 f x1 e g).bind λd=>some (!d.1,d.2)
def rF(x1:aR)(d:Int)(e:BY)(c:List aI)(f:Bool):Option Iw:=
  if f=true then (some (false,c)) else ((fF c x1.Session).bind λb=>if (!b.2)=true then ((ck (0 <= b.1/\b.1 <= c.length/\c.length <= 1000000)).bind λg=>yZ b x1 d e (c.take b.1.toNat ++ (⟨x1.Session,0,[]⟩:aI)::c.drop b.1.toNat)) else (yZ b x1 d e c))
def wF(x1:aR)(b:BY)(d:List aI)(c:Int):Option Iw:=
  if (!(sEq x1.Path b))=true then (if (!x1.Deep)=true then (rF x1 c b d true) else ((P9 b x1.Path).bind λe=>rF x1 c b d (!e))) else (rF x1 c b d false)
theorem Hr{x1:aR}{g j k:Nat}{l:BY}{A p:VL}{B:List aI}{f:Int}(H:Sep w (Blk g 9 [.string l]::Blk j 67 [p,A]::Row 209 aL A B::Blk k 3 [i_ f]::Fo) rs){r:Bool×dO}(m:wF x1 l B f=some r) :
    Cf 289 [.agg (eN x1).toArray,pt g 0,pt j 0,pt k 0] w λv w'=>∃ K,.bool r.1=v/\Sep w' (Blk g 9 [.string l]::Blk j 67 [p,K]::Blk k 3 [i_ f]::Row 209 aL K r.2::Fo) (rs):=by
 refine ent func289 z ntmps289 z z λa E=>sq<|bx E H z λq w a H E=>pn 1 E z λa E=>wS<|aN (λa w=>∃ s,Jn 52 a w [(1,pt g 0),(2,pt j 0),(3,pt k 0),(4,pt q 0),(23,.bool s)] (Blk g 9 [.string l]::Blk j 67 [p,A]::Blk k 3 [i_ f]::Blk q 45 (eN x1)::Row 209 aL A B::Fo) rs (rF x1 f l B s=some r)) (wG<|pr 1 E z λa E=>lb2 E H 0 U9 z λa E=>lb2 E H 1 U9 z λa E=>pr 2 E z λa E=>cs m (λb m=>pk 1 E (kc 12 z b) z λa E=>gl 12 E H 0 b U4 z λa E=>pk 2 E (kc 12 z b) z λa E=>cs m (λc m=>pk 7 E (kc' (kc 16 z c) 12 z b) z λa E=>nt<|have H:=H.frs [3,1,4,4,4] z;⟨_,_,E.to z,H,Y0,m⟩) λc m=>gl 16 E H 1 c U9 z λa E=>pk 1 E (kc 16 z c) z λa E=>gl 16 E H 0 c U9 z λa E=>bd m λN D m=>gc 16 E c z (cf_ 39) (Me H D)<|op0 λw H a E=>pk 3 E (kc' (kc 16 z c) 12 z b) z λa E=>nt<|have H:=H.frs [3,1,4,4,4] z;⟨_,_,E.to z,H,Y0,m⟩) λb m=>pk 11 E (kc 12 z b) z λa E=>nt<|have H:=H.frs [3,1,4,4,4] z;⟨_,_,E.to z,H,Y0,m⟩) ?_;clear E H m;rintro a w ⟨s,L,E,H,n,m⟩;refine wif E m z (λm=>?_) λm=>?_
 ·refine sq<|pn 1 E z λa E=>wR<|aJ<|o1 E z<|have H:=H.drop 3;?_;cases m;exact ⟨_,z,H.reads n⟩
 ·refine wK<|aA<|sp 1 E z λa E=>lb2 E H 1 U65 z λa E=>pr 1 E z λa E=>lb2 E H 3 U2 z λa E=>have H:=H.frs [3,3,3,3,4] z;bd m λC F m=>xk2 E z (cf_ 150) (vQ H F) λw H a E=>pn 5 E z λa E=>aN (λa w=>∃ t u,Jn 52 a w [(1,pt g 0),(2,pt j 0),(3,pt k 0),(4,pt q 0),(6,i_ C.1)] (Blk g 9 [.string l]::Blk j 67 [p,t]::Blk k 3 [i_ f]::Blk q 45 (eN x1)::Row 209 aL t u::Fo) rs (yZ C x1 f l u=some r)) ?_ ?_
  ·refine sq<|pn 2 E z λa E=>wif E m z (λm=>?_) λm=>wK<|aA<|have H:=H.frs [0,4,4,4,4] z;X3 ⟨E.to z,H,n,m⟩;refine wG<|pr 1 E z λa E=>lb2 E H 2 U65 z λa E=>pr 2 E z λa E=>lb2 E H 4 U2 z λa E=>sv2 E z (cP E z (E.evs z) (v:=.agg #[i_ x1.Session,i_ 0,nS]) (by kernel_rfl)) λa E=>pL (e:=209) (d:=aL) (cs:=[i_ x1.Session,i_ 0,nS]) (xs:=[(⟨x1.Session,0,[]⟩:aI)]) E H (wn z) z z z (E.evs z) (by kernel_rfl) z z (λok hr=>(Rows.single (d:=aL) (cs:=[i_ x1.Session,i_ 0,nS]) (x:=(⟨x1.Session,0,[]⟩:aI)) (pN (Sl.nil _ _ _)))) λO w a H E=>bk m λG m=>xc2 E z (cf_ 152) (Se.insert_a (ix:=1) (iu:=0) H z z (by decide) G) λP w H a E=>pr 1 E z λa E=>?_;obtain ⟨q33,Q,rfl⟩:=H.rowform (i:=1) z;exact ss 3 E H z Yk z λw H=>nt<|have H:=H.drop 0;have H:=H.frs [0,4,4,4,4] z;X3 ⟨E.to z,H,n,m⟩
  ·clear E H m;rintro a w ⟨t,u,M,E,H,I,m⟩;refine wS<|dz [0,0,0,0,0,0,0,1,0,2] [0,1,2,3] H λw W0 hI H=>fn 1 E z λa E=>fb2 E mm1 U65 z λa E=>fn 1 E z λa E=>bd m λR o m=>?_;obtain ⟨S,T,y⟩:=H.rowformNE (i:=4) z o;refine fv E z (λw hW=>dS (d:=aL) E y z z z z U65 E5 o) λa E=>fbn E (eN x1) z (wn z) z z z z mm3 z U45 z zQ λa E=>fb2 E mm2 U3 z λa E=>fb2 E m0 U9 z λa E=>bO z<|have H:=H.frs [3,3,3,3,4] z;bd m λU J m=>xk2 E z (cf_ 290) (Ys o y H J) λw H a E=>nt<|⟨sx H [1,2,3,4] z,fn 1 E z λa E=>bJ z<|pn 1 E z λa E=>bF<|?_⟩
   clear hI;refine aA<|wR<|o1 E z<|have H:=H.drop 4;have H:=H.frs [0,3,3,3] z;?_;cases m;exact ⟨_,z,H.reads I⟩

def dT(f:List aR)(g:BY)(d:Int):Nat->Int->dO->Option (Int×dO)
  | 0,_,_=>none
  | j+1,b,e=>
    if (decide (b < (f.length:Int)))=true then ((idx f b).bind λi=>(wF i g e d).bind λc=>if c.1=true then (some (b,c.2)) else (dT f g d j (IntKind.i64.wrap (b+1)) c.2)) else (some ((-1),e))
def jA(b:List aR)(d:BY)(e:List aI)(c:Int):Option (Int×dO):=
  dT b d c (((b.length:Int) - 0:Int).toNat+1) 0 e
theorem J4{l A n:VL}{e:List aR}{o p b:Nat}{q:BY}{B:List aI}{c:Int}(H:Sep w (Row 45 aT l e::Blk o 9 [.string q]::Blk p 67 [n,A]::Row 209 aL A B::Blk b 3 [i_ c]::Fo) rs){r:Int×dO}(m:jA e q B c=some r) :
    Cf 221 [l,.func (.func 289) #[] #[pt o 0,pt p 0,pt b 0]] w λv w'=>∃ C,i_ r.1=v/\Sep w' (Blk o 9 [.string q]::Blk p 67 [n,C]::Blk b 3 [i_ c]::Row 45 aT l e::Row 209 aL C r.2::Fo) (rs):=by
 refine ent func221 z ntmps221 z z λa E=>sq<|pn 1 E z λa E=>wS<|sp 1 E z λa E=>sv2 E z (lF (i:=0) E H z z z U64) λa E=>pr 1 E z λa E=>nt<|wB<|bK (λk a w=>∃ s t u,Jn 19 a w [(0,l),(1,.func (.func 289) #[] #[pt o 0,pt p 0,pt b 0]),(7,i_ (e.length:Int)),(8,i_ t)] (Row 45 aT l e::Blk o 9 [.string q]::Blk p 67 [n,s]::Blk b 3 [i_ c]::Row 209 aL s u::Fo) rs (dT e q c k t u=some r)) (((e.length:Int) - 0:Int).toNat+1) (have H:=H.frs [3,4,4,4,4] z;X4 ⟨E.to z,H,Y0,m⟩) ?_;clear E H m;rintro k a w ⟨s,t,u,D,E,H,f,m⟩;cases k with
 | zero=>exact (bH m z).elim
 | succ k=>
  unfold dT at m;refine sq<|pn 1 E z λa E=>wS<|wif E m z (λm=>?_) λm=>?_
  ·refine wK<|aA<|wS<|wB<|sp 2 E z λa E=>xp 3 E z λa E=>bd m λj g m=>?_;obtain ⟨F,G,x⟩:=H.rowformNE (i:=0) z g;refine sv2 E z (dS (d:=aT) E x z z z z U64 zQ g) λa E=>sv2 E z (lG (i:=0) E H nT x z z z g (us:=[i_ j.Session,i_ j.Num,.string j.Path,.bool j.Deep]) z U45 z zQ) λa E=>have H:=H.frs [0,3,4,4,4] z;bd m λI y m=>bP E (wn z) z z (bT E z z z ((cf_ 289) _)) (Hr H y)<|op1 λJ w H a E=>nt<|wif E m z (λm=>?_) λm=>wK<|bR<|aA<|wG<|pn 2 E z λa E=>have H:=H.frs [3,3,3,3,4] z;⟨k,nL k,X4 ⟨E.to z,H,f,m⟩⟩;refine sq<|pn 2 E z λa E=>wR<|bM<|aJ<|aJ<|bM<|aJ<|o1 E z<|have H:=H.frs [3,4,4,4,4] z;?_;cases m;exact ⟨_,z,H.reads f⟩
  ·refine wX<|aW<|aW<|cR<|aA<|sq<|pn 1 E z λa E=>wR<|o1 E z<|have H:=H.frs [4,1,4,4,4] z;?_;cases m;exact ⟨_,z,H.reads f⟩

def fW(rec_1:eF->Int->Int->dO->Option Av)(b:Int)(c:eF)(d:Int)(e:dO):Option Av:=
  rec_1 c d (IntKind.i64.wrap (b+1)) e
def dB(j:BY)(e:Int):Nat->eF->Int->Int->dO->Option Av
  | 0,_,_,_,_=>none
  | k+1,c,b,d,g=>
    if (decide (d < (c.length:Int)))=true then ((idx c d).bind λi=>(wF i j g e).bind λf=>if (!f.1)=true then ((idx c b).bind λl=>fW (dB j e k) d (c.set b.toNat i) (IntKind.i64.wrap (b+1)) f.2) else (fW (dB j e k) d c b f.2)) else ((ck (0 <= b/\b <= c.length)).bind λm=>(ck (0 <= b/\b <= (c.take b.toNat ++ List.replicate (c.length - b.toNat) (⟨0,0,⟨#[]⟩,false⟩:aR)).length)).bind λn=>some ((c.take b.toNat ++ List.replicate (c.length - b.toNat) (⟨0,0,⟨#[]⟩,false⟩:aR)).take b.toNat,g))
def gX(c:List aR)(e:BY)(f:List aI)(d:Int):Option Av:=
  (jA c e f d).bind λb=>if (b.1 == (-1))=true then (some (c,b.2)) else (dB e d (((c.length:Int) - (IntKind.i64.wrap (b.1+1)):Int).toNat+1) c b.1 (IntKind.i64.wrap (b.1+1)) b.2)
theorem L2{s O q:VL}{J:List aR}{g j c:Nat}{k:BY}{P:List aI}{e:Int}(H:Sep w (Row 45 aT s J::Blk g 9 [.string k]::Blk j 67 [q,O]::Row 209 aL O P::Blk c 3 [i_ e]::Fo) rs){r:eF×dO}(m:gX J k P e=some r) :
    Cf 288 [s,.func (.func 289) #[] #[pt g 0,pt j 0,pt c 0]] w λv w'=>∃ Q R,Q=v/\Sep w' (Row 45 aT Q r.1::Blk g 9 [.string k]::Blk j 67 [q,R]::Blk c 3 [i_ e]::Row 209 aL R r.2::Fo) (rs):=by
 refine ent func288 z ntmps288 z z λa E=>sp 1 E z λa E=>xp 2 E z λa E=>bd m λS K m=>xc2 E z (cf_ 221) (J4 H K)<|op1 λV w H a E=>pn 1 E z λa E=>wS<|sq<|pn 2 E z λa E=>wif E m z (λm=>?_) λm=>?_
 ·refine sq<|pn 2 E z λa E=>wR<|aJ<|o1 E z<|have H:=H.frs [4,3,3,3,4] z;?_;cases m;exact ⟨_,_,z,H.reads Y0⟩
 ·refine wK<|aA<|wS<|sq<|pn 3 E z λa E=>wB<|bK (λl a w=>∃ t u x f y,Jn 42 a w [(0,s),(1,.func (.func 289) #[] #[pt g 0,pt j 0,pt c 0]),(5,i_ x),(6,i_ f)] (Row 45 aT s u::Blk g 9 [.string k]::Blk j 67 [q,t]::Blk c 3 [i_ e]::Row 209 aL t y::Fo) rs (dB k e l u x f y=some r)) (((J.length:Int) - (IntKind.i64.wrap (S.1+1)):Int).toNat+1) (have H:=H.frs [4,3,3,3,4] z;X6 ⟨E.to z,H,Y0,m⟩) ?_;clear E H m;rintro l a w ⟨t,u,x,f,y,T,E,H,n,m⟩;cases l with
  | zero=>exact (bH m z).elim
  | succ l=>
   unfold dB at m;refine wS<|sp 2 E z λa E=>sv2 E z (lF (i:=0) E H z z z U64) λa E=>pn 1 E z λa E=>wif E m z (λm=>?_) λm=>?_
   ·refine wK<|aA<|aN (λa w=>∃ A B C D,Jn 42 a w [(0,s),(1,.func (.func 289) #[] #[pt g 0,pt j 0,pt c 0]),(5,i_ C),(6,i_ f)] (Row 45 aT s B::Blk g 9 [.string k]::Blk j 67 [q,A]::Blk c 3 [i_ e]::Row 209 aL A D::Fo) rs (fW (dB k e l) f B C D=some r)) ?_ ?_
    ·refine wB<|sp 2 E z λa E=>bd m λb o m=>?_;obtain ⟨W,X,F⟩:=H.rowformNE (i:=0) z o;refine sv2 E z (dS (d:=aT) E F z z z z U64 zQ o) λa E=>sv2 E z (lG (i:=0) E H nT F z z z o (us:=[i_ b.Session,i_ b.Num,.string b.Path,.bool b.Deep]) z U45 z zQ) λa E=>al2 E H z RH λY w a H E=>ss 0 E H z zQ z λw H=>xp 1 E z λa E=>ln 0 (eN b) E H U45 z zQ λa E=>have H:=H.frs [1,1,4,5,5,5] z;bd m λZ L m=>bP E (wn z) z z (bT E z z z ((cf_ 289) _)) (Hr H L)<|op1 λb0 w H a E=>pn 1 E z λa E=>wif E m z (λm=>?_) λm=>wK<|bR<|aA<|have H:=H.drop 4;have H:=H.frs [3,3,3,3,4] z;X5 ⟨E.to z,H,n,m⟩;refine sp 2 E z λa E=>ln 4 (eN b) E H U45 z zQ λa E=>bd m λb1 p m=>?_;obtain ⟨b2,b3,G⟩:=H.rowformNE (i:=5) z p;exact sv2 E z (dS (d:=aT) E G z z z z U64 zQ p) λa E=>Al (d:=aT) (i:=5) (us:=[i_ b.Session,i_ b.Num,.string b.Path,.bool b.Deep]) (z':=b) E H nT (wn z) z G z z z z z z z p zQ λw H=>nt<|wG<|pr 3 E z λa E=>wN<|bR<|aA<|have H:=H.drop 4;have H:=H.frs [3,3,3,3,4] z;X5 ⟨E.to z,H,n,m⟩
    clear E H m;rintro a w ⟨A,B,C,D,U,E,H,M,m⟩;exact wG<|pn 3 E z λa E=>⟨l,nL l,X6 ⟨E.to z,H,M,m⟩⟩
   ·refine wX<|aW<|aW<|cR<|aA<|sp 2 E z λa E=>bk m λI m=>sv2 E z (Io (d:=aT) (i:=0) E H z z z z U64 zQ I) λa E=>Ch (i:=0) (z0:=(⟨0,0,⟨#[]⟩,false⟩:aR)) E H nT (wn z) z z z U64 VB z z z I λw H=>xp 2 E z λa E=>bk m λN m=>Ff (i:=0) E H nT (wn z) z z z z z z U64 zQ N λb4 a H E=>pn 1 E z λa E=>wR<|o1 E z<|?_;cases m;exact ⟨_,_,z,H.reads n⟩

def tL(x1:Int):Option Bool:=
  if (decide (x1 ≥ 1))=true then (some (decide (x1 <= 281474976710656))) else (some (false))
theorem S9{x1:Int}(H:Sep w (Fo) rs){r:Bool}(m:tL x1=some r) :
    Cf 220 [i_ x1] w λv w'=>.bool r=v/\Sep w' (Fo) (rs):=ent func220 z ntmps220 z z λa E=>sp 1 E z λa E=>xp 3 E z λa E=>cs m (λb m=>pk 4 E (kc 5 z b) z λa E=>nt<|wR<|o1 E z<|d_ m z (H.reads Y0)) λb m=>pk 4 E (kc 5 z b) z λa E=>nt<|wR<|o1 E z<|d_ m z (H.reads Y0)

def lQ(rec_1:Int->Option Bool)(c:Int)(b:Bool):Option Bool:=
  if b=true then (some (false)) else (rec_1 (IntKind.i64.wrap (c+1)))
def fX(x1:aI):Nat->Int->Option Bool
  | 0,_=>none
  | d+1,c=>
    if (decide (c < (x1.Events.length:Int)))=true then ((idx x1.Events c).bind λb=>if (b.Num != (IntKind.i64.wrap ((IntKind.i64.wrap ((IntKind.i64.wrap (x1.Count - (x1.Events.length:Int)))+1))+c)))=true then (lQ (fX x1 d) c true) else (if (decide (b.Num < 1))=true then (lQ (fX x1 d) c true) else (if (decide (b.Kind < 1))=true then (lQ (fX x1 d) c true) else (if (decide (b.Kind > 4))=true then (lQ (fX x1 d) c true) else ((gM b.Path).bind λe=>if (!e)=true then (lQ (fX x1 d) c true) else ((tL b.Watch).bind λf=>lQ (fX x1 d) c (!f))))))) else (some (true))
def pT(x1:aI)(b:Bool):Option Bool:=
  if b=true then (some (false)) else (fX x1 (((x1.Events.length:Int) - 0:Int).toNat+1) 0)
def C2(x1:aI):Option Bool:=
  (tL x1.Num).bind λb=>if (!b)=true then (pT x1 true) else (if (decide (x1.Count < 0))=true then (pT x1 true) else (if (decide (x1.Count > 281474976710656))=true then (pT x1 true) else (pT x1 (decide ((x1.Events.length:Int) > 8)))))
theorem Tf{x1:aI}{p:VL}(H:Sep w (Fo) rs)(n:rSl aV p x1.Events ∈ rs){r:Bool}(m:C2 x1=some r) :
    Cf 219 [.agg (sV x1 p).toArray] w λv w'=>.bool r=v/\Sep w' (Fo) (rs):=by
 refine ent func219 z ntmps219 z z λa E=>sq<|bx E H z λC w a H E=>pn 1 E z λa E=>wS<|aN (λa w=>∃ u,Jn 75 a w [(1,pt C 0),(25,.bool u)] (Blk C 209 (sV x1 p)::Fo) rs (pT x1 u=some r)) (wG<|pr 1 E z λa E=>lb2 E H 0 U2 z λa E=>bd m λF x m=>xk2 E z (cf_ 220) (S9 H x) λw H a E=>pr 2 E z λa E=>cs m (λf m=>pk 15 E (kc 10 z f) z λa E=>nt<|⟨_,_,E.to z,H,Y0,m⟩) λf m=>pk 1 E (kc 10 z f) z λa E=>gl 10 E H 0 f U2 z λa E=>pk 3 E (kc 10 z f) z λa E=>cs m (λg m=>pk 10 E (kc 15 z g) z λa E=>nt<|⟨_,_,E.to z,H,Y0,m⟩) λg m=>pk 1 E (kc 15 z g) z λa E=>gl 15 E H 0 g U2 z λa E=>pk 3 E (kc 15 z g) z λa E=>cs m (λc m=>pk 5 E (kc 20 z c) z λa E=>nt<|⟨_,_,E.to z,H,Y0,m⟩) λc m=>pk 1 E (kc 20 z c) z λa E=>gl 20 E H 0 c U36 z λa E=>gv 20 E c z (vJ E H z z n U36) λa E=>pk 2 E (kc 20 z c) z λa E=>nt<|⟨_,_,E.to z,H,Y0,m⟩) ?_;clear E H m;rintro a w ⟨u,G,E,H,o,m⟩;refine wif E m z (λm=>sq<|pn 1 E z λa E=>wR<|aJ<|o1 E z<|have H:=H.drop 0;d_ m z (H.reads o)) λm=>?_;refine wK<|aA<|sp 1 E z λa E=>lb2 E H 0 U2 z λa E=>pr 1 E z λa E=>lb2 E H 0 U36 z λa E=>lS E H (o _ n) U36 z λa E=>pr 3 E z λa E=>nt<|wS<|sp 1 E z λa E=>lb2 E H 0 U36 z λa E=>lS E H (o _ n) U36 z λa E=>pn 1 E z λa E=>wB<|bK (λl a w=>∃ q,Jn 75 a w [(3,i_ (IntKind.i64.wrap ((IntKind.i64.wrap (x1.Count - (x1.Events.length:Int)))+1))),(34,p),(35,i_ (x1.Events.length:Int)),(36,i_ q)] (Fo) rs (fX x1 l q=some r)) (((x1.Events.length:Int) - 0:Int).toNat+1) (have H:=H.drop 0;⟨_,_,E.to z,H,o,m⟩) ?_;clear E H m;rintro l a w ⟨q,I,E,H,b,m⟩;cases l with
 | zero=>exact (bH m z).elim
 | succ l=>
  unfold fX at m;refine sq<|pn 1 E z λa E=>wS<|wif E m z (λm=>?_) λm=>wX<|aW<|aW<|cR<|aA<|sq<|pn 1 E z λa E=>wR<|o1 E z<|d_ m z (H.reads b);refine wK<|aA<|wS<|wB<|sp 1 E z λa E=>bd m λJ y m=>dH E H (wn z) z z z z z (b _ n) U36 yA y λq13 a H E=>ldf vZ E H z z z z z m0 It z yA λa E=>al2 E H z DI λK w a H E=>pr 1 E z λa E=>ss 0 E H z yA z λw H=>nt<|aN (λa w=>∃ s,Jn 75 a w [(3,i_ (IntKind.i64.wrap ((IntKind.i64.wrap (x1.Count - (x1.Events.length:Int)))+1))),(34,p),(35,i_ (x1.Events.length:Int)),(36,i_ q),(73,.bool s)] (Fo) rs (lQ (fX x1 l) q s=some r)) (wG<|pr 1 E z λa E=>lb2 E H 0 U2 z λa E=>pr 5 E z λa E=>cs m (λi m=>pk 26 E (kc 47 z i) z λa E=>nt<|have H:=H.drop 0;⟨_,_,E.to z,H,(Y1 b),m⟩) λi m=>pk 1 E (kc 47 z i) z λa E=>gl 47 E H 0 i U2 z λa E=>pk 3 E (kc 47 z i) z λa E=>cs m (λj m=>pk 21 E (kc 52 z j) z λa E=>nt<|have H:=H.drop 0;⟨_,_,E.to z,H,(Y1 b),m⟩) λj m=>pk 1 E (kc 52 z j) z λa E=>gl 52 E H 0 j U3 z λa E=>pk 3 E (kc 52 z j) z λa E=>cs m (λk m=>pk 16 E (kc 57 z k) z λa E=>nt<|have H:=H.drop 0;⟨_,_,E.to z,H,(Y1 b),m⟩) λk m=>pk 1 E (kc 57 z k) z λa E=>gl 57 E H 0 k U3 z λa E=>pk 3 E (kc 57 z k) z λa E=>cs m (λd m=>pk 11 E (kc 62 z d) z λa E=>nt<|have H:=H.drop 0;⟨_,_,E.to z,H,(Y1 b),m⟩) λd m=>pk 1 E (kc 62 z d) z λa E=>gl 62 E H 0 d U9 z λa E=>bd m λL A m=>gc 62 E d z (cf_ 56) (lK H A)<|op0 λw H a E=>pk 3 E (kc 62 z d) z λa E=>cs m (λe m=>pk 5 E (kc 68 z e) z λa E=>nt<|have H:=H.drop 0;⟨_,_,E.to z,H,(Y1 b),m⟩) λe m=>pk 1 E (kc 68 z e) z λa E=>gl 68 E H 0 e U2 z λa E=>bd m λM B m=>gc 68 E e z (cf_ 220) (S9 H B)<|op0 λw H a E=>pk 2 E (kc 68 z e) z λa E=>nt<|have H:=H.drop 0;⟨_,_,E.to z,H,(Y1 b),m⟩) ?_;clear E H m;rintro a w ⟨s,D,E,H,t,m⟩;exact wif E m z (λm=>sq<|pn 1 E z λa E=>wR<|bM<|aJ<|aJ<|bM<|aJ<|o1 E z<|d_ m z (H.reads t)) λm=>wK<|bR<|aA<|wG<|pn 2 E z λa E=>⟨l,nL l,_,_,E.to z,H,t,m⟩

def mB(x1:aI):Option Bool:=
  (C2 x1).bind λb=>some (!b)
theorem Dt{x1:aI}{b:VL}{c:Nat}(H:Sep w (Blk c 266 [.func (.func 219) #[] #[]]::Fo) rs)(d:rSl aV b x1.Events ∈ rs){r:Bool}(m:mB x1=some r) :
    Cf 278 [.agg (sV x1 b).toArray,pt c 0] w λv w'=>.bool r=v/\Sep w' (Blk c 266 [.func (.func 219) #[] #[]]::Fo) (rs):=ent func278 z ntmps278 z z λa E=>sq<|bx E H z λf w a H E=>pr 1 E z λa E=>nx<|lb2 E H 1 WH z λa E=>ln 0 (sV x1 b) E H Ui z E5 λa E=>bd m λg e m=>bP E (wn z) z z (bT E z z z ((cf_ 219) _)) (Tf H d e)<|op0 λw H a E=>pn 2 E z λa E=>wR<|o1 E z<|have H:=H.drop 0;d_ m z (H.reads Y0)

def eG(c:List aI):Nat->Int->Option Int
  | 0,_=>none
  | e+1,b=>
    if (decide (b < (c.length:Int)))=true then ((idx c b).bind λf=>(mB f).bind λd=>if d=true then (some (b)) else (eG c e (IntKind.i64.wrap (b+1)))) else (some ((-1)))
def iG(b:List aI):Option Int:=
  eG b (((b.length:Int) - 0:Int).toNat+1) 0
theorem G1{g:VL}{d:List aI}{e:Nat}(H:Sep w (Blk e 266 [.func (.func 219) #[] #[]]::Fo) rs)(f:rSl aL g d ∈ rs){r:Int}(m:iG d=some r) :
    Cf 315 [g,.func (.func 278) #[] #[pt e 0]] w λv w'=>.int .i64 r=v/\Sep w' (Blk e 266 [.func (.func 219) #[] #[]]::Fo) (rs):=by
 refine ent func315 z ntmps315 z z λa E=>sq<|pn 1 E z λa E=>wS<|sp 1 E z λa E=>lS E H f U65 z λa E=>pr 1 E z λa E=>nt<|wB<|bK (λc a w=>∃ i,Jn 19 a w [(0,g),(1,.func (.func 278) #[] #[pt e 0]),(7,i_ (d.length:Int)),(8,i_ i)] (Blk e 266 [.func (.func 219) #[] #[]]::Fo) rs (eG d c i=some r)) (((d.length:Int) - 0:Int).toNat+1) (⟨_,_,E.to z,H,Y0,m⟩) ?_;clear E H m;rintro c a w ⟨i,l,E,H,b,m⟩;cases c with
 | zero=>exact (bH m z).elim
 | succ c=>
  unfold eG at m;refine sq<|pn 1 E z λa E=>wS<|wif E m z (λm=>?_) λm=>wX<|aW<|aW<|cR<|aA<|sq<|pn 1 E z λa E=>wR<|o1 E z<|d_ m z (H.reads b);refine wK<|aA<|wS<|wB<|sp 2 E z λa E=>xp 3 E z λa E=>bd m λq k m=>dH E H (wn z) z z z z z (b _ f) U65 E5 k λq10 a H E=>Cu E H (wn z) z z z z m0 Ui z E5 λn a H E=>?_;obtain ⟨o,rfl,h⟩:=Dd H;clear H;have H:=h;exact bd m λp j m=>bP E (wn z) z z (bT E z z z ((cf_ 278) _)) (Dt H m0 j)<|op0 λw H a E=>nt<|wif E m z (λm=>sq<|pn 2 E z λa E=>wR<|bM<|aJ<|aJ<|bM<|aJ<|o1 E z<|d_ m z (H.reads (Y3 b))) λm=>wK<|bR<|aA<|wG<|pn 2 E z λa E=>⟨c,nL c,_,_,E.to z,H,(Y3 b),m⟩

def hG(b:List aI):Option Bool:=
  (iG b).bind λc=>some (decide (c ≥ 0))
theorem C3{c:VL}{d:List aI}{b:Nat}(H:Sep w (Blk b 266 [.func (.func 219) #[] #[]]::Fo) rs)(e:rSl aL c d ∈ rs){r:Bool}(m:hG d=some r) :
    Cf 277 [c,.func (.func 278) #[] #[pt b 0]] w λv w'=>.bool r=v/\Sep w' (Blk b 266 [.func (.func 219) #[] #[]]::Fo) (rs):=ent func277 z ntmps277 z z λa E=>sp 1 E z λa E=>xp 2 E z λa E=>bd m λg f m=>xk2 E z (cf_ 315) (G1 H e f) λw H a E=>pn 2 E z λa E=>wR<|o1 E z<|d_ m z (H.reads Y0)

def qY(b:List aI):Option Bool:=
  (hG b).bind λc=>some (!c)
theorem Fa{b:VL}{c:List aI}(H:Sep w (Fo) rs)(d:rSl aL b c ∈ rs){r:Bool}(m:qY c=some r) :
    Cf 218 [b,.func (.func 219) #[] #[]] w λv w'=>.bool r=v/\Sep w' (Fo) (rs):=ent func218 z ntmps218 z z λa E=>sq<|bx E H z λf w a H E=>pr 1 E z λa E=>xp 1 E z λa E=>sv2 E z (oP E z z z) λa E=>bd m λg e m=>xk2 E z (cf_ 277) (C3 H d e) λw H a E=>pn 2 E z λa E=>wR<|o1 E z<|have H:=H.drop 0;d_ m z (H.reads Y0)

def A7(x1:aR):Option Bool:=
  (tL x1.Session).bind λb=>if b=true then ((tL x1.Num).bind λc=>if c=true then ((gM x1.Path).bind λd=>some (d)) else (some (false))) else (some (false))
theorem Kc{x1:aR}(H:Sep w (Fo) rs){r:Bool}(m:A7 x1=some r) :
    Cf 148 [.agg (eN x1).toArray] w λv w'=>.bool r=v/\Sep w' (Fo) (rs):=ent func148 z ntmps148 z z λa E=>sq<|bx E H z λg w a H E=>pr 1 E z λa E=>xp 1 E z λa E=>lb2 E H 0 U2 z λa E=>bd m λi e m=>xk2 E z (cf_ 220) (S9 H e) λw H a E=>pr 1 E z λa E=>cs m (λb m=>pk 1 E (kc 6 z b) z λa E=>gl 6 E H 0 b U2 z λa E=>bd m λj f m=>gc 6 E b z (cf_ 220) (S9 H f)<|op0 λw H a E=>pk 2 E (kc 6 z b) z λa E=>cs m (λc m=>pk 1 E (kc 11 z c) z λa E=>gl 11 E H 0 c U9 z λa E=>bd m λk d m=>gc 11 E c z (cf_ 56) (lK H d)<|op0 λw H a E=>pk 2 E (kc 11 z c) z λa E=>nt<|wR<|o1 E z<|have H:=H.drop 0;d_ m z (H.reads Y0)) λc m=>pk 5 E (kc 11 z c) z λa E=>nt<|wR<|o1 E z<|have H:=H.drop 0;d_ m z (H.reads Y0)) λb m=>pk 10 E (kc 6 z b) z λa E=>nt<|wR<|o1 E z<|have H:=H.drop 0;d_ m z (H.reads Y0)

def nE(x1:aR):Option Bool:=
  (A7 x1).bind λb=>some (!b)
theorem Fb{x1:aR}{b:Nat}(H:Sep w (Blk b 205 [.func (.func 148) #[] #[]]::Fo) rs){r:Bool}(m:nE x1=some r) :
    Cf 276 [.agg (eN x1).toArray,pt b 0] w λv w'=>.bool r=v/\Sep w' (Blk b 205 [.func (.func 148) #[] #[]]::Fo) (rs):=ent func276 z ntmps276 z z λa E=>sq<|bx E H z λd w a H E=>pr 1 E z λa E=>nx<|lb2 E H 1 WG z λa E=>ln 0 (eN x1) E H U45 z zQ λa E=>bd m λe c m=>bP E (wn z) z z (bT E z z z ((cf_ 148) _)) (Kc H c)<|op0 λw H a E=>pn 2 E z λa E=>wR<|o1 E z<|have H:=H.drop 0;d_ m z (H.reads Y0)

def eX(c:List aR):Nat->Int->Option Int
  | 0,_=>none
  | e+1,b=>
    if (decide (b < (c.length:Int)))=true then ((idx c b).bind λf=>(nE f).bind λd=>if d=true then (some (b)) else (eX c e (IntKind.i64.wrap (b+1)))) else (some ((-1)))
def kC(b:List aR):Option Int:=
  eX b (((b.length:Int) - 0:Int).toNat+1) 0
theorem N1{g:VL}{d:List aR}{e:Nat}(H:Sep w (Blk e 205 [.func (.func 148) #[] #[]]::Fo) rs)(f:rSl aT g d ∈ rs){r:Int}(m:kC d=some r) :
    Cf 221 [g,.func (.func 276) #[] #[pt e 0]] w λv w'=>.int .i64 r=v/\Sep w' (Blk e 205 [.func (.func 148) #[] #[]]::Fo) (rs):=by
 refine ent func221 z ntmps221 z z λa E=>sq<|pn 1 E z λa E=>wS<|sp 1 E z λa E=>lS E H f U64 z λa E=>pr 1 E z λa E=>nt<|wB<|bK (λc a w=>∃ i,Jn 19 a w [(0,g),(1,.func (.func 276) #[] #[pt e 0]),(7,i_ (d.length:Int)),(8,i_ i)] (Blk e 205 [.func (.func 148) #[] #[]]::Fo) rs (eX d c i=some r)) (((d.length:Int) - 0:Int).toNat+1) (⟨_,_,E.to z,H,Y0,m⟩) ?_;clear E H m;rintro c a w ⟨i,l,E,H,b,m⟩;cases c with
 | zero=>exact (bH m z).elim
 | succ c=>
  unfold eX at m;exact sq<|pn 1 E z λa E=>wS<|wif E m z (λm=>wK<|aA<|wS<|wB<|sp 2 E z λa E=>xp 3 E z λa E=>bd m λo k m=>dH E H (wn z) z z z z z (b _ f) U64 zQ k λq10 a H E=>ldf nT E H z z z z z m0 U45 z zQ λa E=>bd m λn j m=>bP E (wn z) z z (bT E z z z ((cf_ 276) _)) (Fb H j)<|op0 λw H a E=>nt<|wif E m z (λm=>sq<|pn 2 E z λa E=>wR<|bM<|aJ<|aJ<|bM<|aJ<|o1 E z<|d_ m z (H.reads (Y1 b))) λm=>wK<|bR<|aA<|wG<|pn 2 E z λa E=>⟨c,nL c,_,_,E.to z,H,(Y1 b),m⟩) λm=>wX<|aW<|aW<|cR<|aA<|sq<|pn 1 E z λa E=>wR<|o1 E z<|d_ m z (H.reads b)

def iS(b:List aR):Option Bool:=
  (kC b).bind λc=>some (decide (c ≥ 0))
theorem I2{c:VL}{d:List aR}{b:Nat}(H:Sep w (Blk b 205 [.func (.func 148) #[] #[]]::Fo) rs)(e:rSl aT c d ∈ rs){r:Bool}(m:iS d=some r) :
    Cf 275 [c,.func (.func 276) #[] #[pt b 0]] w λv w'=>.bool r=v/\Sep w' (Blk b 205 [.func (.func 148) #[] #[]]::Fo) (rs):=ent func275 z ntmps275 z z λa E=>sp 1 E z λa E=>xp 2 E z λa E=>bd m λg f m=>xk2 E z (cf_ 221) (N1 H e f) λw H a E=>pn 2 E z λa E=>wR<|o1 E z<|d_ m z (H.reads Y0)

def tM(b:List aR):Option Bool:=
  (iS b).bind λc=>some (!c)
theorem Hs{b:VL}{c:List aR}(H:Sep w (Fo) rs)(d:rSl aT b c ∈ rs){r:Bool}(m:tM c=some r) :
    Cf 217 [b,.func (.func 148) #[] #[]] w λv w'=>.bool r=v/\Sep w' (Fo) (rs):=ent func217 z ntmps217 z z λa E=>sq<|bx E H z λf w a H E=>pr 1 E z λa E=>xp 1 E z λa E=>sv2 E z (oP E z z z) λa E=>bd m λg e m=>xk2 E z (cf_ 275) (I2 H d e) λw H a E=>pn 2 E z λa E=>wR<|o1 E z<|have H:=H.drop 0;d_ m z (H.reads Y0)

end Go.Cb
