/- Functions of the program, walked: each comes to its plain function. -/
import Derived.Test.YteakhlfapjaodaaGreatDoorKsh1
import Derived.Test.YteakhlfapjaodaaGreatDoorExsh
set_option linter.unusedVariables false
set_option linter.unusedSimpArgs false
set_option maxRecDepth 20000
set_option maxHeartbeats 1000000
namespace Go.Cb
open Go.Proofs Go.RowKit Tryz
variable {w:WD} {Fo:List Ob} {rs:List Rp}

def wH(b:Int×Bool)(c:List aG)(d:BY)(e:bE)(i:Int)(j:BY)(k:Int)(f:List BY)(g:dO):Option HS:=
  (ck (0 <= b.1/\b.1 <= c.length/\c.length <= 1000000)).bind λl=>some (c.take b.1.toNat ++ (⟨d,e.Data,0,0,e.Owner⟩:aG)::c.drop b.1.toNat,g,i,d,j,k,f)
def sJ(f:List aG)(b:bE)(i:Int)(j:BY)(k:Int)(g:List BY)(l:BY×Bool)(c:BY)(d:dO):Option HS:=
  (nO f c).bind λe=>if e.2=true then ((hZ 61).bind λm=>some (f,d,m,(ByteArray.mk #[]),(ByteArray.mk #[]),0,[])) else (if b.Turns=true then ((wF d l.1).bind λn=>wH e f c b i j k g n.2) else (wH e f c b i j k g d))
def zW(g:List aG)(i:List aM)(j:Int)(k:BY)(l:Int)(e:List BY)(b:bE):Option HS:=
  (tZ b.Path).bind λc=>if b.Turns=true then ((wE i c.1).bind λd=>(w9 b.Path).bind λm=>(zU m d.1).bind λf=>(J5 c.1 f.1).bind λn=>if (!f.2)=true then ((hZ 66).bind λo=>some (g,d.2,o,(ByteArray.mk #[]),(ByteArray.mk #[]),0,[])) else (sJ g b j k l e c n.1 d.2)) else (sJ g b j k l e c b.Path i)
theorem Rq{j:Nat}{n S f t:VL}{o:List aG}{T:List aM}{p q:Int}{s:BY}{g:List BY}{b:bE}(H:Sep w (Blk j 185 [n,S,.int .i64 p,t,.string s,.int .i64 q,f]::Row 107 aB n o::Row 89 aC S T::Row 9 kS f g::Fo) rs)(F:U5 Tryz.prog ∈ rs){r:dL×dO×Int×BY×BY×Int×cR}(m:zW o T p s q g b=some r) :
    Cf 126 [pt j 0,.agg (cB b).toArray] w λv w'=>∃ U V W,.tuple #[]=v/\Sep w' (Blk j 185 [U,V,.int .i64 r.2.2.1,.string r.2.2.2.1,.string r.2.2.2.2.1,.int .i64 r.2.2.2.2.2.1,W]::Row 107 aB U r.1::Row 89 aC V r.2.1::Row 9 kS W r.2.2.2.2.2.2::Fo) (rs):=by
 unfold zW at m;refine ent func126 z ntmps126 z z λa E=>sq<|bx E H z λl w a H E=>xp 1 E z λa E=>lb2 E H 0 U9 z λa E=>pr 1 E z λa E=>xp 1 E z λa E=>lb2 E H 0 U9 z λa E=>bd m λC G m=>xk2 E z (cf_ 180) (R9 H G) λw H a E=>pn 5 E z λa E=>aL (λa w=>∃ u c y,Jn 80 a w [(0,pt j 0),(3,pt l 0),(4,.string c),(5,.string C.1)] (Blk j 185 [n,u,.int .i64 p,t,.string s,.int .i64 q,f]::Blk l 97 (cB b)::Row 107 aB n o::Row 89 aC u y::Row 9 kS f g::Fo) rs (sJ o b p s q g C c y=some r)) ?_ ?_
 ·refine sp 1 E z λa E=>lb2 E H 0 U4 z λa E=>nt<|wif E m z (λm=>?_) λm=>?_
  ·refine sp 2 E z λa E=>have H:=H.frs [4,3,2,4,4] z;bd m λZ I m=>xc2 E z (cf_ 204) (Kv H I)<|?_;rintro _ w ⟨b0,rfl,H⟩ a E;refine pr 1 E z λa E=>xp 1 E z λa E=>lb2 E H 2 U9 z λa E=>bd m λb1 J m=>xk2 E z (cf_ 207) (Fi H J) λw H a E=>pr 1 E z λa E=>bd m λb2 K m=>xk2 E z (cf_ 206) (Rm H F K) λw H a E=>pr 5 E z λa E=>xp 2 E z λa E=>bd m λb3 L m=>xk2 E z (cf_ 208) (Nz H L) λw H a E=>pr 4 E z λa E=>nx<|pn 2 E z λa E=>wif E m z (λm=>?_) λm=>?_
   ·refine sp 1 E z λa E=>bd m λb4 M m=>xk2 E z (cf_ 203) (sA H M) λw H a E=>nt<|wR<|aH<|Qa E z<|have H:=H.nilRow 9 kS;have H:=H.drs [3,4];have H:=H.frs [0,2,3,3] z;?_;cases m;exact X3 ⟨z,H.reads Y0⟩
   exact wK<|aA<|have H:=H.frs [4,2,4,4,4] z;X4 ⟨E.to z,H,Y0,m⟩
  exact wK<|aA<|have H:=H.frs [4,4,4,3,4] z;X4 ⟨E.to z,H,Y0,m⟩
 ·clear E H m;rintro a w ⟨u,c,y,X,E,H,k,m⟩;unfold sJ at m;refine sp 2 E z λa E=>have H:=H.frs [4,4,3,4,4] z;bd m λD N m=>xk2 E z (cf_ 209) (Q7 H N) λw H a E=>pn 5 E z λa E=>wS<|sq<|pn 1 E z λa E=>wif E m z (λm=>?_) λm=>?_
  ·refine sp 1 E z λa E=>bd m λb5 O m=>xk2 E z (cf_ 203) (sA H O) λw H a E=>nt<|wR<|aH<|Qa E z<|have H:=H.nilRow 9 kS;have H:=H.drs [3,4];have H:=H.frs [0,3,3,3] z;?_;cases m;exact X3 ⟨z,H.reads k⟩
  ·refine wK<|aA<|aL (λa w=>∃ A B,Jn 80 a w [(0,pt j 0),(3,pt l 0),(4,.string c),(10,.int .i64 D.1)] (Blk j 185 [n,A,.int .i64 p,t,.string s,.int .i64 q,f]::Blk l 97 (cB b)::Row 107 aB n o::Row 89 aC A B::Row 9 kS f g::Fo) rs (wH D o c b p s q g B=some r)) ?_ ?_
   ·refine sp 1 E z λa E=>lb2 E H 2 U4 z λa E=>nt<|wif E m z (λm=>?_) λm=>?_
    ·refine wG<|pr 2 E z λa E=>have H:=H.frs [4,3,3,4,4] z;bd m λb6 P m=>xc2 E z (cf_ 204) (Kw H P)<|?_;rintro _ w ⟨b7,rfl,H⟩ a E;exact nt<|have H:=H.frs [4,2,3,4,4] z;X3 ⟨E.to z,H,k,m⟩
    exact wK<|aA<|have H:=H.frs [4,4,3,4,4] z;X3 ⟨E.to z,H,k,m⟩
   ·clear E H m;rintro a w ⟨A,B,Y,E,H,Q,m⟩;unfold wH at m;refine wS<|dz [0,0,0,0,0,0,0,0,0,0,0,0,0,1,1,2,2,2,2] [0,1] H λw W0 hI H=>fn 5 E z λa E=>fb2 E m0 U22 z λa E=>fn 3 E z λa E=>fb2 E mm1 U9 z λa E=>fn 1 E z λa E=>fb2 E mm1 U2 z λa E=>fv E z (λw hW=>(cN E z (E.evs z) (v:=.agg #[.string c,.string b.Data,.int .i64 0,.int .i64 0,.int .i64 b.Owner]) (by kernel_rfl))) λa E=>bW z<|kH (e:=107) (d:=aB) (cs:=[.string c,.string b.Data,.int .i64 0,.int .i64 0,.int .i64 b.Owner]) (xs:=[(⟨c,b.Data,0,0,b.Owner⟩:aG)]) E H (wn z) z z z (E.evs z) (by kernel_rfl) z z (λok hr=>(Rows.single (d:=aB) (cs:=[.string c,.string b.Data,.int .i64 0,.int .i64 0,.int .i64 b.Owner]) (x:=(⟨c,b.Data,0,0,b.Owner⟩:aG)) zG)) λb8 w a H E=>nt<|⟨sx H [1,2] z,bW z<|bk m λR m=>xc2 E z (cf_ 211) (insert_a (ix:=3) (iu:=0) H z z (by decide) R) λb9 w H a E=>nt<|⟨sx H [1,2] z,bK z<|pn 1 E z λa E=>bK z<|pn 1 E z λa E=>bK z<|pn 1 E z λa E=>bK z<|?_⟩⟩
    obtain ⟨q35,c0,rfl⟩:=H.rowform (i:=3) z;refine ss 1 E H z Tg z λw H=>nt<|bG<|?_;clear hI;refine aA<|wG<|pr 5 E z λa E=>ss 1 E H z sz9 z λw H=>wN<|xI E z<|have H:=H.drs [0,1];?_;cases m;exact X3 ⟨z,H.reads Q⟩

def lR(x1:aK)(g:dL)(i:dO)(b:Int)(c:BY)(d:BY)(e:Int)(f:cR):Option (aK×cT):=
  if (b != 0)=true then (some (x1,(⟨b,c,d,e,f⟩:cT))) else (some ((⟨g,i⟩:aK),(⟨b,c,d,e,f⟩:cT)))
def M3(x1:aK)(b:bE)(m:Bool):Option (aK×cT):=
  if m=true then (some ((⟨[],[]⟩:aK),(⟨1,(ByteArray.mk #[]),(ByteArray.mk #[]),0,[]⟩:cT))) else ((ck (x1.Nodes.length <= LIM)).bind λo=>(ck (x1.Turns.length <= LIM)).bind λp=>if (b.Kind == 1)=true then ((xS x1.Nodes 0 (ByteArray.mk #[]) (ByteArray.mk #[]) 0 [] b).bind λg=>lR x1 x1.Nodes x1.Turns g.1 g.2.1 g.2.2.1 g.2.2.2.1 g.2.2.2.2) else (if (b.Kind == 2)=true then ((zW x1.Nodes x1.Turns 0 (ByteArray.mk #[]) 0 [] b).bind λc=>lR x1 c.1 c.2.1 c.2.2.1 c.2.2.2.1 c.2.2.2.2.1 c.2.2.2.2.2.1 c.2.2.2.2.2.2) else (if (b.Kind == 3)=true then ((wD x1.Nodes 0 (ByteArray.mk #[]) (ByteArray.mk #[]) 0 [] b).bind λd=>lR x1 d.1 x1.Turns d.2.1 d.2.2.1 d.2.2.2.1 d.2.2.2.2.1 d.2.2.2.2.2) else (if (b.Kind == 4)=true then ((B5 x1.Nodes x1.Turns 0 (ByteArray.mk #[]) (ByteArray.mk #[]) 0 [] b).bind λe=>lR x1 x1.Nodes e.1 e.2.1 e.2.2.1 e.2.2.2.1 e.2.2.2.2.1 e.2.2.2.2.2) else (if (b.Kind == 5)=true then ((xQ x1.Nodes 0 (ByteArray.mk #[]) (ByteArray.mk #[]) 0 [] b).bind λf=>lR x1 f.1 x1.Turns f.2.1 f.2.2.1 f.2.2.2.1 f.2.2.2.2.1 f.2.2.2.2.2) else (if (b.Kind == 6)=true then ((yR x1.Nodes 0 (ByteArray.mk #[]) (ByteArray.mk #[]) 0 [] b).bind λi=>lR x1 x1.Nodes x1.Turns i.1 i.2.1 i.2.2.1 i.2.2.2.1 i.2.2.2.2) else (if (b.Kind == 7)=true then ((yS x1.Nodes 0 (ByteArray.mk #[]) (ByteArray.mk #[]) 0 [] b).bind λj=>lR x1 x1.Nodes x1.Turns j.1 j.2.1 j.2.2.1 j.2.2.2.1 j.2.2.2.2) else (if (b.Kind == 8)=true then ((zV x1.Nodes 0 (ByteArray.mk #[]) (ByteArray.mk #[]) 0 [] b).bind λk=>lR x1 x1.Nodes x1.Turns k.1 k.2.1 k.2.2.1 k.2.2.2.1 k.2.2.2.2) else (if (b.Kind == 9)=true then ((xT x1.Nodes [] b).bind λn=>lR x1 x1.Nodes x1.Turns 0 (ByteArray.mk #[]) (ByteArray.mk #[]) 0 n) else (if (b.Kind == 10)=true then ((xR x1.Nodes [] b).bind λl=>lR x1 l.1 x1.Turns 0 (ByteArray.mk #[]) (ByteArray.mk #[]) 0 l.2) else none))))))))))
def Bv(x1:aK)(b:bE):Option (aK×cT):=
  (rM x1).bind λc=>if (!c)=true then (M3 x1 b true) else ((O9 b).bind λd=>M3 x1 b (!d))
theorem FD{x1:aK}{p q:VL}{c:bE}(H:Sep w (Fo) rs)(s:rSl aB p x1.Nodes ∈ rs)(t:rSl aC q x1.Turns ∈ rs)(b9:U5 Tryz.prog ∈ rs){r:aK×cT}(m:Bv x1 c=some r) :
    Cf 64 [.agg #[p,q],.agg (cB c).toArray] w λv w'=>∃ c0 c1 c2,.tuple #[.agg #[c0,c1],.agg (Z1 r.2 c2).toArray]=v/\Sep w' (Fo) (rSl aB c0 r.1.Nodes::rSl aC c1 r.1.Turns::rSl kS c2 r.2.Names::rs):=by
 unfold Bv at m;refine ent func64 z ntmps64 z z λa E=>sq<|bx E H z λQ w a H E=>bx E H z λc3 w a H E=>al2 E H z mX λu w a H E=>al2 E H z PT λx w a H E=>nx<|sv2 E z (cN E z (E.evs z) (v:=.agg #[.nilFunc,.func (.func 125) #[] #[],.func (.func 126) #[] #[],.func (.func 127) #[] #[],.func (.func 128) #[] #[],.func (.func 129) #[] #[],.func (.func 130) #[] #[],.func (.func 131) #[] #[],.func (.func 132) #[] #[],.func (.func 133) #[] #[],.func (.func 134) #[] #[]]) (by kernel_rfl)) λa E=>al2 E H z TJ λR w a H E=>ss 0 E H z TK z λw H=>nt<|wS<|aL (λa w=>∃ D,Jn 54 a w [(2,pt Q 0),(3,pt c3 0),(4,pt u 0),(5,pt x 0),(6,pt R 0),(16,.bool D)] (Blk Q 25 [p,q]::Blk c3 97 (cB c)::Blk u 25 [nS,nS]::Blk x 93 Kb::Blk R 183 [.nilFunc,.func (.func 125) #[] #[],.func (.func 126) #[] #[],.func (.func 127) #[] #[],.func (.func 128) #[] #[],.func (.func 129) #[] #[],.func (.func 130) #[] #[],.func (.func 131) #[] #[],.func (.func 132) #[] #[],.func (.func 133) #[] #[],.func (.func 134) #[] #[]]::Fo) rs (M3 x1 c D=some r)) ?_ ?_
 ·refine wG<|ln 4 [p,q] E H U25 z cY λa E=>bd m λd0 V m=>xk2 E z (cf_ 37) (Z7 H s t V) λw H a E=>pr 2 E z λa E=>cs m (λe m=>?_) λe m=>?_
  ·exact pk 4 E (kc 12 z e) z λa E=>nt<|have H:=H.frs [0,1,2,3,4] z;⟨_,_,E.to z,H,Y0,m⟩
  refine gv 12 E e z (zQ (i:=3) (us:=(cB c)) E H z z z z U97 z mR) λa E=>bd m λd1 W m=>gc 12 E e z (cf_ 121) (Rn H W)<|?_;rintro _ w ⟨rfl,H⟩ a E;exact pk 2 E (kc 12 z e) z λa E=>nt<|have H:=H.frs [0,1,2,3,4] z;⟨_,_,E.to z,H,Y0,m⟩
 ·clear E H m;rintro a w ⟨D,c8,E,H,b,m⟩;unfold M3 at m;refine wif E m z (λm=>?_) λm=>?_
  ·refine sq<|sv2 E z (cN E z (E.evs z) (v:=.agg #[nS,nS]) (by kernel_rfl)) λa E=>sv2 E z (cN E z (E.evs z) (v:=.agg #[.int .i64 1,.string (ByteArray.mk #[]),.string (ByteArray.mk #[]),.int .i64 0,nS]) (by kernel_rfl)) λa E=>ss 2 E H z cY z λw H=>ss 3 E H z L8 z λw H=>nt<|wR<|aH<|A9 E z (qI (i:=2) (us:=[nS,nS]) H z z z U25 z cY) (qI (i:=3) (us:=[.int .i64 1,.string (ByteArray.mk #[]),.string (ByteArray.mk #[]),.int .i64 0,nS]) H z z z U93 z L8)<|have H:=H.nilSl aB;have H:=H.nilSl aC;have H:=H.nilSl kS;have H:=H.drs [0,0,0,0,0];?_;cases m;exact X3 ⟨z,H.rdx [2,1,0] z (λr hr=>(t3 (b r hr)))⟩
  ·refine wK<|aA<|wS<|dw [(0,0),(1,0),(3,0),(4,0),(2,1),(5,1),(6,0),(7,0),(8,1),(9,2)] [0] [] H (by kernel_rfl) (λ_ _ _ h=>False.elim h.2) λw W0 hI H=>fn 1 E z λa E=>fb2 E m0 U22 z λa E=>fn 1 E z λa E=>fb2 E m0 U23 z λa E=>bW z<|bk m λX m=>xc2 E z (cf_ 56) (vI H (b _ s) X) λd2 w H a E=>nt<|⟨sx H [1] z,bW z<|bk m λY m=>xc2 E z (cf_ 57) (vJ H (b _ t) Y) λd3 w H a E=>nt<|⟨sx H [2] z,?_⟩⟩
   obtain ⟨q22,S,rfl⟩:=H.rowform (i:=1) z;obtain ⟨q24,T,rfl⟩:=H.rowform (i:=0) z;refine fv E z (λw hW=>(cN E z (E.evs z) (v:=.agg #[(.slice q22 x1.Nodes.length S),(.slice q24 x1.Turns.length T)]) (by kernel_rfl))) λa E=>fv E z (λw hW=>(cN E z (E.evs z) (v:=.agg #[(.slice q22 x1.Nodes.length S),(.slice q24 x1.Turns.length T),.int .i64 0,.string (ByteArray.mk #[]),.string (ByteArray.mk #[]),.int .i64 0,nS]) (by kernel_rfl))) λa E=>bW z<|bx E H z λU w a H E=>nt<|⟨sx H [3] z,bK z<|pn 1 E z λa E=>bG<|?_⟩
   clear hI;refine aA<|wS<|aL (λa w=>∃ y A n B C f g k l o,Jn 54 a w [(2,pt Q 0),(4,pt u 0),(5,pt x 0),(7,pt U 0)] (Blk Q 25 [p,q]::Blk u 25 [nS,nS]::Blk x 93 Kb::Blk U 185 [y,A,.int .i64 f,.string g,.string k,.int .i64 l,n]::Row 107 aB y B::Row 89 aC A C::Row 9 kS n o::Fo) rs (lR x1 B C f g k l o=some r)) ?_ ?_
   ·refine dz [0,0,0,0,0,0,1] [4,7] H λw W0 hI H=>fn 1 E z λa E=>fb2 E m0 U3 z λa E=>cs m (λF m=>?_) λF m=>?_
    ·refine fv E z (λw hW=>wW (j:=1) E z z z F z Fd Bf) λa E=>fb2 E mm1 Fe z λa E=>fn 1 E z λa E=>fbn E (cB c) z (wn z) z z z z m0 z U97 z mR λa E=>bW z<|have H:=H.nilRow 9 kS;have H:=H.frs [8,8,8,8,8,7,6,8,8] z;bd m λd4 Z m=>bI E (wn z) z z (bO E z z z ((cf_ 125) _)) (Nk H Z)<|?_;rintro _ w ⟨d5,rfl,H⟩ a E;refine nt<|⟨⟨_,_,H,(aV mm5 (aV (t2 mm6) (bQ))),(bT)⟩,bG<|?_⟩
     clear hI;exact aA<|have H:=H.drs [5,7];have H:=H.frs [2,3,3,3,6,6,6] z;X11 ⟨E.to z,H,b,m⟩
    refine cs m (λG m=>?_) λG m=>?_
    ·refine fv E z (λw hW=>wW (j:=2) E z z z G z Fd Bf) λa E=>fb2 E mm1 Fe z λa E=>fn 1 E z λa E=>fbn E (cB c) z (wn z) z z z z m0 z U97 z mR λa E=>bW z<|have H:=H.nilRow 9 kS;have H:=H.frs [8,8,8,8,8,5,7,8,8] z;bd m λd6 b0 m=>bI E (wn z) z z (bO E z z z ((cf_ 126) _)) (Rq H (b _ b9) b0)<|?_;rintro _ w ⟨d7,d8,d9,rfl,H⟩ a E;refine nt<|⟨⟨_,_,H,(aV mm5 (aV (t2 mm6) (bQ))),(bT)⟩,bG<|?_⟩
     clear hI;exact aA<|have H:=H.drs [5,7];have H:=H.frs [3,3,3,3,6,6,6] z;X11 ⟨E.to z,H,b,m⟩
    refine cs m (λI m=>?_) λI m=>?_
    ·refine fv E z (λw hW=>wW (j:=3) E z z z I z Fd Bf) λa E=>fb2 E mm1 Fe z λa E=>fn 1 E z λa E=>fbn E (cB c) z (wn z) z z z z m0 z U97 z mR λa E=>bW z<|have H:=H.nilRow 9 kS;have H:=H.frs [8,8,8,8,8,7,6,8,8] z;bd m λe0 b1 m=>bI E (wn z) z z (bO E z z z ((cf_ 127) _)) (Ku H b1)<|?_;rintro _ w ⟨e1,e2,rfl,H⟩ a E;refine nt<|⟨⟨_,_,H,(aV mm5 (aV (t2 mm6) (bQ))),(bT)⟩,bG<|?_⟩
     clear hI;exact aA<|have H:=H.drs [5,7];have H:=H.frs [2,3,3,3,6,6,6] z;X11 ⟨E.to z,H,b,m⟩
    refine cs m (λJ m=>?_) λJ m=>?_
    ·refine fv E z (λw hW=>wW (j:=4) E z z z J z Fd Bf) λa E=>fb2 E mm1 Fe z λa E=>fn 1 E z λa E=>fbn E (cB c) z (wn z) z z z z m0 z U97 z mR λa E=>bW z<|have H:=H.nilRow 9 kS;have H:=H.frs [8,8,8,8,8,5,7,8,8] z;bd m λe3 b2 m=>bI E (wn z) z z (bO E z z z ((cf_ 128) _)) (Nm H b2)<|?_;rintro _ w ⟨e4,e5,rfl,H⟩ a E;refine nt<|⟨⟨_,_,H,(aV mm5 (aV (t2 mm6) (bQ))),(bT)⟩,bG<|?_⟩
     clear hI;exact aA<|have H:=H.drs [5,7];have H:=H.frs [3,3,3,3,6,6,6] z;X11 ⟨E.to z,H,b,m⟩
    refine cs m (λK m=>?_) λK m=>?_
    ·refine fv E z (λw hW=>wW (j:=5) E z z z K z Fd Bf) λa E=>fb2 E mm1 Fe z λa E=>fn 1 E z λa E=>fbn E (cB c) z (wn z) z z z z m0 z U97 z mR λa E=>bW z<|have H:=H.nilRow 9 kS;have H:=H.frs [8,8,8,8,8,7,6,8,8] z;bd m λe6 b3 m=>bI E (wn z) z z (bO E z z z ((cf_ 129) _)) (Ni H b3)<|?_;rintro _ w ⟨e7,rfl,H⟩ a E;refine nt<|⟨⟨_,_,H,(aV mm5 (aV (t2 mm6) (bQ))),(bT)⟩,bG<|?_⟩
     clear hI;exact aA<|have H:=H.drs [5,7];have H:=H.frs [2,3,3,3,6,6,6] z;X11 ⟨E.to z,H,b,m⟩
    refine cs m (λL m=>?_) λL m=>?_
    ·refine fv E z (λw hW=>wW (j:=6) E z z z L z Fd Bf) λa E=>fb2 E mm1 Fe z λa E=>fn 1 E z λa E=>fbn E (cB c) z (wn z) z z z z m0 z U97 z mR λa E=>bW z<|have H:=H.nilRow 9 kS;have H:=H.frs [8,8,8,8,8,7,6,8,8] z;bd m λe8 b4 m=>bI E (wn z) z z (bO E z z z ((cf_ 130) _)) (Pg H b4)<|?_;rintro _ w ⟨e9,rfl,H⟩ a E;refine nt<|⟨⟨_,_,H,(aV mm5 (aV (t2 mm6) (bQ))),(bT)⟩,bG<|?_⟩
     clear hI;exact aA<|have H:=H.drs [5,7];have H:=H.frs [2,3,3,3,6,6,6] z;X11 ⟨E.to z,H,b,m⟩
    refine cs m (λM m=>?_) λM m=>?_
    ·refine fv E z (λw hW=>wW (j:=7) E z z z M z Fd Bf) λa E=>fb2 E mm1 Fe z λa E=>fn 1 E z λa E=>fbn E (cB c) z (wn z) z z z z m0 z U97 z mR λa E=>bW z<|have H:=H.nilRow 9 kS;have H:=H.frs [8,8,8,8,8,7,6,8,8] z;bd m λf0 b5 m=>bI E (wn z) z z (bO E z z z ((cf_ 131) _)) (Ph H b5)<|?_;rintro _ w ⟨f1,rfl,H⟩ a E;refine nt<|⟨⟨_,_,H,(aV mm5 (aV (t2 mm6) (bQ))),(bT)⟩,bG<|?_⟩
     clear hI;exact aA<|have H:=H.drs [5,7];have H:=H.frs [2,3,3,3,6,6,6] z;X11 ⟨E.to z,H,b,m⟩
    refine cs m (λN m=>?_) λN m=>?_
    ·refine fv E z (λw hW=>wW (j:=8) E z z z N z Fd Bf) λa E=>fb2 E mm1 Fe z λa E=>fn 1 E z λa E=>fbn E (cB c) z (wn z) z z z z m0 z U97 z mR λa E=>bW z<|have H:=H.nilRow 9 kS;have H:=H.frs [8,8,8,8,8,7,6,8,8] z;bd m λf2 b6 m=>bI E (wn z) z z (bO E z z z ((cf_ 132) _)) (Ro H b6)<|?_;rintro _ w ⟨f3,rfl,H⟩ a E;refine nt<|⟨⟨_,_,H,(aV mm5 (aV (t2 mm6) (bQ))),(bT)⟩,bG<|?_⟩
     clear hI;exact aA<|have H:=H.drs [5,7];have H:=H.frs [2,3,3,3,6,6,6] z;X11 ⟨E.to z,H,b,m⟩
    refine cs m (λO m=>?_) λO m=>?_
    ·refine fv E z (λw hW=>wW (j:=9) E z z z O z Fd Bf) λa E=>fb2 E mm1 Fe z λa E=>fn 1 E z λa E=>fbn E (cB c) z (wn z) z z z z m0 z U97 z mR λa E=>bW z<|have H:=H.nilRow 9 kS;have H:=H.frs [8,8,8,8,8,7,6,8,8] z;bd m λf4 b7 m=>bI E (wn z) z z (bO E z z z ((cf_ 133) _)) (Nl H b7)<|?_;rintro _ w ⟨f5,rfl,H⟩ a E;refine nt<|⟨⟨_,_,H,(aV mm5 (aV (t2 mm6) (bQ))),(bT)⟩,bG<|?_⟩
     clear hI;exact aA<|have H:=H.drs [5,7];have H:=H.frs [2,3,3,3,6,6,6] z;X11 ⟨E.to z,H,b,m⟩
    refine cs m (λP m=>?_) λP m=>?_
    ·refine fv E z (λw hW=>wW (j:=10) E z z z P z Fd Bf) λa E=>fb2 E mm1 Fe z λa E=>fn 1 E z λa E=>fbn E (cB c) z (wn z) z z z z m0 z U97 z mR λa E=>bW z<|have H:=H.nilRow 9 kS;have H:=H.frs [8,8,8,8,8,7,6,8,8] z;bd m λf6 b8 m=>bI E (wn z) z z (bO E z z z ((cf_ 134) _)) (Nj H b8)<|?_;rintro _ w ⟨f7,f8,rfl,H⟩ a E;refine nt<|⟨⟨_,_,H,(aV mm5 (aV (t2 mm6) (bQ))),(bT)⟩,bG<|?_⟩
     clear hI;exact aA<|have H:=H.drs [5,7];have H:=H.frs [2,3,3,3,6,6,6] z;X11 ⟨E.to z,H,b,m⟩
    exact (bD m z).elim
   ·clear E H m;rintro a w ⟨y,A,n,B,C,f,g,k,l,o,c9,E,H,d,m⟩;unfold lR at m;refine sp 4 E z λa E=>lb2 E H 3 U41 z λa E=>pn 1 E z λa E=>wif E m z (λm=>?_) λm=>?_
    ·refine wS<|dz [0,0,0,0,0,1,2] [0,3] H λw W0 hI H=>fbn E [p,q] z (wn z) z z z z m0 z U25 z cY λa E=>fn 3 E z λa E=>fbn E [.int .i64 f,.string g,.string k,.int .i64 l,n] z (wn z) z z z z mm1 z U93 z L8 λa E=>bW z<|Qd (i:=1) E H (wn z) z z z z z z cY z (iQ H (d _ s) (d _ t)) λw H=>nt<|⟨sx H [0,3] z,bK z<|?_⟩
     obtain ⟨q39,c4,rfl⟩:=H.rowform (i:=6) z;refine ss 2 E H z L8 z λw H=>nt<|bG<|?_;clear hI;refine aA<|wR<|aH<|A9 E z (qI (i:=1) (us:=[p,q]) H z z z U25 z cY) (qI (i:=2) (us:=[.int .i64 f,.string g,.string k,.int .i64 l,(.slice q39 o.length c4)]) H z z z U93 z L8)<|have H:=H.thaw (i:=6) z;have H:=H.drs [0,0,0,0,0,0];?_;cases m;exact X3 ⟨z,H.reads (aD (t1 (d _ s)) (aD (t1 (d _ t)) (aD m0 (λr hr=>(t1 (d r hr))))))⟩
    ·refine wK<|aA<|wS<|dz [0,0,0,0,0,0,0,0,1,2] [3] H λw W0 hI H=>fn 3 E z λa E=>fbn E [y,A] z (wn z) z z z z m0 z U25 z cY λa E=>fn 3 E z λa E=>fbn E [.int .i64 f,.string g,.string k,.int .i64 l,n] z (wn z) z z z z m0 z U93 z L8 λa E=>bW z<|?_;obtain ⟨q41,c5,rfl⟩:=H.rowform (i:=4) z;obtain ⟨q43,c6,rfl⟩:=H.rowform (i:=5) z;refine ss 1 E H z cY z λw H=>nt<|⟨sx H [3] z,bK z<|?_⟩
     obtain ⟨q45,c7,rfl⟩:=H.rowform (i:=6) z;refine ss 2 E H z L8 z λw H=>nt<|bG<|?_;clear hI;refine aA<|wR<|A9 E z (qI (i:=1) (us:=[(.slice q41 B.length c5),(.slice q43 C.length c6)]) H z z z U25 z cY) (qI (i:=2) (us:=[.int .i64 f,.string g,.string k,.int .i64 l,(.slice q45 o.length c7)]) H z z z U93 z L8)<|have H:=H.thaw (i:=4) z;have H:=H.thaw (i:=4) z;have H:=H.thaw (i:=4) z;have H:=H.drs [0,0,0,0];?_;cases m;exact X3 ⟨z,H.rdx [2,1,0] z (λr hr=>(t3 (d r hr)))⟩

def yU(c:BY):Option BY:=
  (tG c).bind λb=>if (!b.2)=true then (some ((ByteArray.mk #[47]))) else (some (b.1))
theorem Pj{b:BY}(H:Sep w (Fo) rs){r:BY}(m:yU b=some r) :
    Cf 138 [.string b] w λv w'=>.string r=v/\Sep w' (Fo) (rs):=by
 unfold yU at m;refine ent func138 z ntmps138 z z λa E=>sp 1 E z λa E=>xp 1 E z λa E=>bd m λd c m=>xk2 E z (cf_ 145) (Hu H c) λw H a E=>pn 5 E z λa E=>wS<|sq<|pn 2 E z λa E=>wif E m z (λm=>?_) λm=>?_
 ·refine sq<|pn 1 E z λa E=>wR<|aH<|o1 E z<|?_;cases m;exact ⟨z,H.reads Y0⟩
 ·refine wK<|aA<|sq<|pn 2 E z λa E=>wR<|o1 E z<|?_;cases m;exact ⟨z,H.reads Y0⟩

def lE(c:List cT)(d:List cT):Nat->Int->Option Bool
  | 0,_=>none
  | i+1,b=>
    if (decide (b < (c.length:Int)))=true then ((idx c b).bind λe=>(idx d b).bind λf=>(sG e f).bind λg=>if (!g)=true then (some (false)) else (lE c d i (IntKind.i64.wrap (b+1)))) else (some (true))
def nG(b:List cT)(c:List cT):Option Bool:=
  if ((b.length:Int) != (c.length:Int))=true then (some (false)) else (lE b c (((b.length:Int) - 0:Int).toNat+1) 0)
theorem R6{p q:VL}{n s:List cT}(H:Sep w (Fo) rs)(i:rSl aX p n ∈ rs)(o:rSl aX q s ∈ rs){r:Bool}(m:nG n s=some r) :
    Cf 16 [p,q] w λv w'=>.bool r=v/\Sep w' (Fo) (rs):=by
 unfold nG at m;refine ent func16 z ntmps16 z z λa E=>sq<|pn 1 E z λa E=>wS<|sp 1 E z λa E=>lS E H i U40 z λa E=>pr 1 E z λa E=>lS E H o U40 z λa E=>pn 1 E z λa E=>wif E m z (λm=>?_) λm=>?_
 ·refine sq<|pn 1 E z λa E=>wR<|aH<|o1 E z<|?_;cases m;exact ⟨z,H.reads Y0⟩
 ·refine wK<|aA<|wS<|sq<|pn 1 E z λa E=>wB<|bF (λg a w=>∃ t,Jn 27 a w [(0,p),(1,q),(5,.int .i64 t)] (Fo) rs (lE n s g t=some r)) (((n.length:Int) - 0:Int).toNat+1) ?_ ?_
  ·exact ⟨_,_,E.to z,H,Y0,m⟩
  ·clear E H m;rintro g a w ⟨t,M,E,H,b,m⟩;cases g with
   | zero=>exact (bD m z).elim
   | succ g=>
    unfold lE at m;refine wS<|sp 2 E z λa E=>lS E H (b _ i) U40 z λa E=>pn 1 E z λa E=>wif E m z (λm=>?_) λm=>?_
    ·refine wK<|aA<|wS<|wB<|wS<|?_;obtain ⟨N,H⟩:=H.raw (b _ i);obtain ⟨O,H⟩:=H.raw (t1 (b _ o));refine dw [(0,0),(1,0),(2,0),(3,0),(4,0),(5,0),(6,0),(7,0),(8,1),(9,0)] [] [1,0] H (by kernel_rfl) (λ_ _ _ h=>False.elim h.2) λw W0 hI H=>fn 2 E z λa E=>bd m λe u m=>?_;obtain ⟨q14,Q,x,j⟩:=gD (P:=Tryz.prog) (k:=.i64) hI (gC (.head _)) U40 L8 u;refine fv E z (λw hW=>iO E z z z (x w)) λa E=>?_;obtain ⟨_,y⟩:=AK hI j;obtain ⟨K,A,-⟩:=Q6 y;have c:=j;rw [A] at c;have B:=EA c (λ_ _ h=>Ck h);refine fv E z (λw hW=>mW E z z (EB (cs:=[.int .i64 e.Err,.string e.Path,.string e.Data,.int .i64 e.Version,K]) (DR.ir c) U93 z L8 w hW)) λa E=>fn 2 E z λa E=>bd m λf C m=>?_;obtain ⟨q25,R,D,l⟩:=gD (P:=Tryz.prog) (k:=.i64) hI (gC (.tail _ (.head _))) U40 L8 C;refine fv E z (λw hW=>iO E z z z (D w)) λa E=>?_;obtain ⟨_,F⟩:=AK hI l;obtain ⟨L,G,-⟩:=Q6 F;have d:=l;rw [G] at d;have I:=EA d (λ_ _ h=>Ck h);refine fv E z (λw hW=>mW E z z (EB (cs:=[.int .i64 f.Err,.string f.Path,.string f.Data,.int .i64 f.Version,L]) (DR.ir d) U93 z L8 w hW)) λa E=>have H:=H.dr (aD mm1 (aD m0 (bT))) B;have H:=H.dr (aD mm2 (aD mm1 (bT))) I;bW z<|bd m λS J m=>xk2 E z (cf_ 58) (Gh H mm1 m0 J) λw H a E=>nt<|⟨⟨_,_,H,(bQ),(aD mm3 (aD mm2 (bT)))⟩,fn 1 E z λa E=>bG<|?_⟩
     clear hI;refine aA<|wif E m z (λm=>?_) λm=>?_
     ·refine sq<|pn 1 E z λa E=>wR<|bJ<|aH<|aH<|bJ<|aH<|o1 E z<|?_;cases m;exact ⟨z,H.reads (Y4 b)⟩
     exact wK<|bM<|aA<|wG<|pn 3 E z λa E=>⟨g,nL g,_,_,E.to z,H,(Y4 b),m⟩
    ·refine wX<|aT<|aT<|cL<|aA<|sq<|pn 1 E z λa E=>wR<|o1 E z<|?_;cases m;exact ⟨z,H.reads b⟩

def nH(x1:aK)(c:Int):Option Bool:=
  if (decide (c ≥ 3000))=true then (some (true)) else ((uN x1.Nodes).bind λb=>some (b))
def iK(x1:aK):Nat->Int->Int->Option Bool
  | 0,_,_=>none
  | e+1,b,c=>
    if (decide (c < (x1.Turns.length:Int)))=true then (if (decide (b < 3000))=true then ((idx x1.Turns c).bind λd=>iK x1 e (IntKind.i64.wrap (b+(min (d.Dir.size:Int) 3000))) (IntKind.i64.wrap (c+1))) else (nH x1 b)) else (nH x1 b)
def qX(x1:aK):Option Bool:=
  iK x1 3002 (x1.Turns.length:Int) 0
theorem Aj{x1:aK}{k l:VL}(H:Sep w (Fo) rs)(s:rSl aB k x1.Nodes ∈ rs)(f:rSl aC l x1.Turns ∈ rs){r:Bool}(m:qX x1=some r) :
    Cf 10 [.agg #[k,l]] w λv w'=>.bool r=v/\Sep w' (Fo) (rs):=by
 unfold qX at m;refine ent func10 z ntmps10 z z λa E=>sq<|bx E H z λn w a H E=>pr 1 E z λa E=>xp 1 E z λa E=>lb2 E H 0 U23 z λa E=>lS E H f U23 z λa E=>pr 1 E z λa E=>nt<|aL (λa w=>∃ o,Jn 36 a w [(1,pt n 0),(3,.int .i64 o)] (Blk n 25 [k,l]::Fo) rs (nH x1 o=some r)) ?_ ?_
 ·refine sq<|pn 1 E z λa E=>wB<|bF (λe a w=>∃ g i,Jn 36 a w [(1,pt n 0),(3,.int .i64 g),(4,.int .i64 i)] (Blk n 25 [k,l]::Fo) rs (iK x1 e g i=some r)) (3002) ?_ ?_
  ·exact X3 ⟨E.to z,H,Y0,m⟩
  clear E H m;rintro e a w ⟨g,i,x,E,H,c,m⟩;cases e with
  | zero=>exact (bD m z).elim
  | succ e=>
   unfold iK at m;refine wS<|sp 2 E z λa E=>lb2 E H 0 U23 z λa E=>lS E H (c _ f) U23 z λa E=>pr 2 E z λa E=>cs m (λd m=>?_) λd m=>?_
   ·refine pk 3 E (kc 13 z d) z λa E=>nt<|wif E m z (λm=>?_) λm=>?_
    ·exact wK<|aA<|wS<|wB<|wG<|pr 2 E z λa E=>lb2 E H 0 U23 z λa E=>pr 1 E z λa E=>bd m λu p m=>dC E H (wn z) z z z z z (c _ f) U23 rF p λq20 a H E=>have H:=H.derive1 m0 (rAt kS (q20.add 0) u.Dir) (λok h=>Gc h);pr 1 E z λa E=>sv2 E z (oO E H z z m0 U9 z) λa E=>pr 1 E z λa E=>sv2 E z (Qc (t:=0) E z z z) λa E=>pr 2 E z λa E=>wN<|bM<|aA<|wG<|pn 3 E z λa E=>⟨e,nL e,X3 ⟨E.to z,H,(Y2 c),m⟩⟩
    exact wX<|aT<|aT<|cL<|aA<|⟨_,_,E.to z,H,c,m⟩
   exact pk 3 E (kc 13 z d) z λa E=>nt<|wp_cond_false (E.eval z)<|wX<|aT<|aT<|cL<|aA<|⟨_,_,E.to z,H,c,m⟩
 ·clear E H m;rintro a w ⟨o,y,E,H,j,m⟩;unfold nH at m;refine sp 3 E z λa E=>cs m (λb m=>?_) λb m=>?_
  ·refine pk 5 E (kc 31 z b) z λa E=>nt<|wR<|o1 E z<|have H:=H.drop 0;?_;cases m;exact ⟨z,H.reads j⟩
  ·refine pk 1 E (kc 31 z b) z λa E=>gl 31 E H 0 b U22 z λa E=>bd m λA q m=>gc 31 E b z (cf_ 39) (Ji H (j _ s) q)<|?_;rintro _ w ⟨rfl,H⟩ a E;refine pk 2 E (kc 31 z b) z λa E=>nt<|wR<|o1 E z<|have H:=H.drop 0;?_;cases m;exact ⟨z,H.reads j⟩

def pX(x1:bE):Option Bool:=
  if (decide ((x1.Dir.size:Int) > 3000))=true then (some (true)) else (if (decide ((x1.Path.size:Int) > 3000))=true then (some (true)) else (some (decide ((x1.Data.size:Int) > 3000))))
theorem Dt{x1:bE}(H:Sep w (Fo) rs){r:Bool}(m:pX x1=some r) :
    Cf 89 [.agg (cB x1).toArray] w λv w'=>.bool r=v/\Sep w' (Fo) (rs):=by
 unfold pX at m;refine ent func89 z ntmps89 z z λa E=>sq<|bx E H z λd w a H E=>pr 1 E z λa E=>xp 1 E z λa E=>lb2 E H 0 U9 z λa E=>pr 3 E z λa E=>cs m (λb m=>?_) λb m=>?_
 ·refine pk 12 E (kc 7 z b) z λa E=>nt<|wR<|o1 E z<|have H:=H.drop 0;?_;cases m;exact ⟨z,H.reads Y0⟩
 ·refine pk 1 E (kc 7 z b) z λa E=>gl 7 E H 0 b U9 z λa E=>pk 4 E (kc 7 z b) z λa E=>cs m (λc m=>?_) λc m=>?_
  ·refine pk 6 E (kc 13 z c) z λa E=>nt<|wR<|o1 E z<|have H:=H.drop 0;?_;cases m;exact ⟨z,H.reads Y0⟩
  ·refine pk 1 E (kc 13 z c) z λa E=>gl 13 E H 0 c U9 z λa E=>pk 4 E (kc 13 z c) z λa E=>nt<|wR<|o1 E z<|have H:=H.drop 0;?_;cases m;exact ⟨z,H.reads Y0⟩

def iM(b:List cJ):Nat->Int->Option Bool
  | 0,_=>none
  | e+1,c=>
    if (decide (c < (b.length:Int)))=true then ((idx b c).bind λf=>(pX f.Part).bind λd=>if d=true then (some (true)) else (iM b e (IntKind.i64.wrap (c+1)))) else (some (false))
def nW(b:List cJ):Option Bool:=
  if (decide ((b.length:Int) > 60))=true then (some (true)) else (iM b (((b.length:Int) - 0:Int).toNat+1) 0)
theorem Cs{f:VL}{e:List cJ}(H:Sep w (Fo) rs)(d:rSl bN f e ∈ rs){r:Bool}(m:nW e=some r) :
    Cf 40 [f] w λv w'=>.bool r=v/\Sep w' (Fo) (rs):=by
 unfold nW at m;refine ent func40 z ntmps40 z z λa E=>sq<|pn 1 E z λa E=>wS<|sp 1 E z λa E=>lS E H d U26 z λa E=>pr 1 E z λa E=>nt<|wif E m z (λm=>?_) λm=>?_
 ·refine sq<|pn 1 E z λa E=>wR<|aH<|o1 E z<|?_;cases m;exact ⟨z,H.reads Y0⟩
 ·refine wK<|aA<|wS<|sq<|pn 1 E z λa E=>wB<|bF (λc a w=>∃ g,Jn 19 a w [(0,f),(3,.int .i64 g)] (Fo) rs (iM e c g=some r)) (((e.length:Int) - 0:Int).toNat+1) ?_ ?_
  ·exact ⟨_,_,E.to z,H,Y0,m⟩
  ·clear E H m;rintro c a w ⟨g,l,E,H,b,m⟩;cases c with
   | zero=>exact (bD m z).elim
   | succ c=>
    unfold iM at m;refine wS<|sp 2 E z λa E=>lS E H (b _ d) U26 z λa E=>pn 1 E z λa E=>wif E m z (λm=>?_) λm=>?_
    ·refine wK<|aA<|wS<|wB<|sp 2 E z λa E=>bd m λk j m=>dC E H (wn z) z z z z z (b _ d) U26 Z2 j λq9 a H E=>have H:=H.derive1 m0 (rAt cP (q9.add 1) k.Part) (λok h=>Ej h);pr 1 E z λa E=>ldf Ek E H z z z z z m0 U97 z mR λa E=>bd m λn i m=>xk2 E z (cf_ 89) (Dt H i) λw H a E=>nt<|wif E m z (λm=>?_) λm=>?_
     ·refine sq<|pn 1 E z λa E=>wR<|bJ<|aH<|aH<|bJ<|aH<|o1 E z<|?_;cases m;exact ⟨z,H.reads (Y2 b)⟩
     exact wK<|bM<|aA<|wG<|pn 3 E z λa E=>⟨c,nL c,_,_,E.to z,H,(Y2 b),m⟩
    ·refine wX<|aT<|aT<|cL<|aA<|sq<|pn 1 E z λa E=>wR<|o1 E z<|?_;cases m;exact ⟨z,H.reads b⟩

def lT(x1:aK)(e:aK):Nat->Int->Option Bool
  | 0,_=>none
  | f+1,b=>
    if (decide (b < (x1.Turns.length:Int)))=true then ((idx x1.Turns b).bind λc=>(idx e.Turns b).bind λd=>if (!((sEq c.Dir d.Dir) && (c.Next == d.Next)))=true then (some (false)) else (lT x1 e f (IntKind.i64.wrap (b+1)))) else (some (true))
def sK(x1:aK)(c:aK)(b:Bool):Option Bool:=
  if b=true then (some (false)) else (lT x1 c (((x1.Turns.length:Int) - 0:Int).toNat+1) 0)
def mF(x1:aK)(b:aK):Option Bool:=
  (sF x1.Nodes b.Nodes).bind λc=>if (!c)=true then (sK x1 b true) else (sK x1 b ((x1.Turns.length:Int) != (b.Turns.length:Int)))
theorem M4{x1 j:aK}{s t u x:VL}(H:Sep w (Fo) rs)(I:rSl aB s x1.Nodes ∈ rs)(l:rSl aC t x1.Turns ∈ rs)(J:rSl aB u j.Nodes ∈ rs)(n:rSl aC x j.Turns ∈ rs){r:Bool}(m:mF x1 j=some r) :
    Cf 14 [.agg #[s,t],.agg #[u,x]] w λv w'=>.bool r=v/\Sep w' (Fo) (rs):=by
 unfold mF at m;refine ent func14 z ntmps14 z z λa E=>sq<|bx E H z λd w a H E=>bx E H z λe w a H E=>pn 1 E z λa E=>wS<|aL (λa w=>∃ o,Jn 39 a w [(2,pt d 0),(3,pt e 0),(20,.bool o)] (Blk d 25 [s,t]::Blk e 25 [u,x]::Fo) rs (sK x1 j o=some r)) ?_ ?_
 ·refine wG<|pr 1 E z λa E=>lb2 E H 1 U22 z λa E=>pr 1 E z λa E=>lb2 E H 0 U22 z λa E=>bd m λM y m=>xk2 E z (cf_ 55) (Bt H I J y) λw H a E=>pr 2 E z λa E=>cs m (λb m=>?_) λb m=>?_
  ·exact pk 8 E (kc 12 z b) z λa E=>nt<|have H:=H.frs [0,1] z;⟨_,_,E.to z,H,Y0,m⟩
  exact pk 1 E (kc 12 z b) z λa E=>gl 12 E H 1 b U23 z λa E=>gv 12 E b z (xO E H z z l U23) λa E=>pk 1 E (kc 12 z b) z λa E=>gl 12 E H 0 b U23 z λa E=>gv 12 E b z (xO E H z z n U23) λa E=>pk 2 E (kc 12 z b) z λa E=>nt<|have H:=H.frs [0,1] z;⟨_,_,E.to z,H,Y0,m⟩
 ·clear E H m;rintro a w ⟨o,K,E,H,p,m⟩;unfold sK at m;refine wif E m z (λm=>?_) λm=>?_
  ·refine sq<|pn 1 E z λa E=>wR<|aH<|o1 E z<|have H:=H.drs [0,0];?_;cases m;exact ⟨z,H.reads p⟩
  ·refine wK<|aA<|wS<|sq<|pn 1 E z λa E=>wB<|bF (λi a w=>∃ q,Jn 39 a w [(2,pt d 0),(3,pt e 0),(5,.int .i64 q)] (Blk d 25 [s,t]::Blk e 25 [u,x]::Fo) rs (lT x1 j i q=some r)) (((x1.Turns.length:Int) - 0:Int).toNat+1) ?_ ?_
   ·exact ⟨_,_,E.to z,H,p,m⟩
   ·clear E H m;rintro i a w ⟨q,L,E,H,c,m⟩;cases i with
    | zero=>exact (bD m z).elim
    | succ i=>
     unfold lT at m;refine wS<|sp 2 E z λa E=>lb2 E H 0 U23 z λa E=>lS E H (c _ l) U23 z λa E=>pn 1 E z λa E=>wif E m z (λm=>?_) λm=>?_
     ·refine wK<|aA<|wS<|wB<|wS<|?_;obtain ⟨N,H⟩:=H.raw (c _ l);obtain ⟨O,H⟩:=H.raw (t1 (c _ n));refine dw [(0,0),(1,0),(2,0),(3,0),(4,0),(5,0),(6,0),(7,0),(8,0),(9,0),(10,0)] [0,1] [1,0] H (by kernel_rfl) (λ_ _ _ h=>False.elim h.2) λw W0 hI H=>fn 1 E z λa E=>fb2 E m0 U23 z λa E=>fn 1 E z λa E=>bd m λf A m=>?_;obtain ⟨q23,Q,B,C⟩:=gD (P:=Tryz.prog) (k:=.i64) hI (gC (.head _)) U23 rF A;refine fv E z (λw hW=>iO E z z z (B w)) λa E=>fv E z (λw hW=>mW E z z (G9 (cs:=[.string f.Dir,.int .i64 f.Next]) (DR.ir (N8 C)) (λ_ _ _ h=>zS h) U89 z rF w hW)) λa E=>fn 1 E z λa E=>fb2 E mm1 U23 z λa E=>fn 1 E z λa E=>bd m λg D m=>?_;obtain ⟨q29,R,F,G⟩:=gD (P:=Tryz.prog) (k:=.i64) hI (gC (.tail _ (.head _))) U23 rF D;refine fv E z (λw hW=>iO E z z z (F w)) λa E=>fv E z (λw hW=>mW E z z (G9 (cs:=[.string g.Dir,.int .i64 g.Next]) (DR.ir (N8 G)) (λ_ _ _ h=>zS h) U89 z rF w hW)) λa E=>fv E z (λw hW=>(zP E z z z (v:=.bool (!((sEq f.Dir g.Dir) && (f.Next == g.Next)))) (Qf TV (Ea U89 TU (yP (by rfl) (by kernel_rfl) (by kernel_rfl) (Bq U9) (Hi (by rfl) (by kernel_rfl) (by kernel_rfl) (R1 U2))))))) λa E=>bG<|?_;clear hI;refine aA<|wif E m z (λm=>?_) λm=>?_
      ·refine sq<|pn 1 E z λa E=>wR<|bJ<|aH<|aH<|bJ<|aH<|o1 E z<|have H:=H.drs [0,0];?_;cases m;exact ⟨z,H.reads (Y2 c)⟩
      exact wK<|bM<|aA<|wG<|pn 3 E z λa E=>⟨i,nL i,_,_,E.to z,H,(Y2 c),m⟩
     ·refine wX<|aT<|aT<|cL<|aA<|sq<|pn 1 E z λa E=>wR<|o1 E z<|have H:=H.drs [0,0];?_;cases m;exact ⟨z,H.reads c⟩

def yH(g:List cJ)(x1:aK):Nat->Z4->Int->dL->dO->Option (aK×Z4×Int×Int)
  | 0,_,_,_,_=>none
  | j+1,d,c,e,f=>
    if (decide (c < (g.length:Int)))=true then ((idx g c).bind λi=>(Bv (⟨e,f⟩:aK) i.Part).bind λb=>if (b.2.Err != 0)=true then (some (x1,[],b.2.Err,c)) else ((ck (d.length+([b.2]:List cT).length <= LIM)).bind λk=>yH g x1 j (d ++ ([b.2]:List cT)) (IntKind.i64.wrap (c+1)) b.1.Nodes b.1.Turns)) else (some ((⟨e,f⟩:aK),d,0,0))
def A5(x1:aK)(b:List cJ):Option (aK×Z4×Int×Int):=
  yH b x1 (((b.length:Int) - 0:Int).toNat+1) [] 0 x1.Nodes x1.Turns
theorem Bj{x1:aK}{s t K:VL}{y:List cJ}(H:Sep w (Fo) rs)(n:rSl aB s x1.Nodes ∈ rs)(o:rSl aC t x1.Turns ∈ rs)(D:rSl bN K y ∈ rs)(O:U5 Tryz.prog ∈ rs){r:aK×Z4×Int×Int}(m:A5 x1 y=some r) :
    Cf 23 [.agg #[s,t],K] w λv w'=>∃ P Q R,.tuple #[.agg #[P,Q],R,.int .i64 r.2.2.1,.int .i64 r.2.2.2]=v/\Sep w' (Row 93 aX R r.2.1::Fo) (rSl aB P r.1.Nodes::rSl aC Q r.1.Turns::rs):=by
 unfold A5 at m;refine ent func23 z ntmps23 z z λa E=>sq<|bx E H z λF w a H E=>al2 E H z mX λG w a H E=>pr 3 E z λa E=>nx<|ln 1 [s,t] E H U25 z cY λa E=>al2 E H z mX λI w a H E=>ss 0 E H z cY (iQ H n o) λw H=>nx<|pn 1 E z λa E=>wS<|sp 1 E z λa E=>lS E H D U26 z λa E=>pn 1 E z λa E=>wB<|bF (λu a w=>∃ A g j B C p q f,Env 44 a [(2,pt F 0),(4,pt G 0),(8,pt I 0),(9,A),(15,K),(16,.int .i64 (y.length:Int)),(17,.int .i64 C)]/\Sep w (Blk F 25 [s,t]::Blk G 25 [nS,nS]::Blk I 25 [g,j]::Row 93 aX A B::Fo) f/\(∀ r,r ∈ rs->r ∈ f)/\rSl aB g p ∈ f/\rSl aC j q ∈ f/\yH y x1 u B C p q=some r) (((y.length:Int) - 0:Int).toNat+1) ?_ ?_
 ·exact have H:=H.nilRow 93 aX;have H:=H.frs [0,1,2,3] z;X8 ⟨E.to z,H,Y0,n,o,m⟩
 ·clear E H m;rintro u a w ⟨A,g,j,B,C,p,q,f,E,H,c,k,l,m⟩;cases u with
  | zero=>exact (bD m z).elim
  | succ u=>
   unfold yH at m;refine sq<|pn 1 E z λa E=>wS<|wif E m z (λm=>?_) λm=>?_
   ·refine wK<|aA<|wS<|wB<|sp 1 E z λa E=>bd m λS L m=>dC E H (wn z) z z z z z (c _ D) U26 Z2 L λq26 a H E=>ldf F6 E H z z z z z m0 U99 z Z2 λa E=>al2 E H z CG λW w a H E=>pr 1 E z λa E=>ss 0 E H z Z2 z λw H=>nx<|ln 3 [g,j] E H U25 z cY λa E=>pr 1 E z λa E=>ln 0 (cB S.Part) E H U97 z mR λa E=>bd m λb M m=>xc2 E z (cf_ 64) (FD (x1:=(⟨p,q⟩:aK)) H (t1 k) (t1 l) (t1 (c _ O)) M)<|?_;rintro _ w ⟨T,U,V,rfl,H⟩ a E;refine pr 3 E z λa E=>al2 E H z mX λX w a H E=>al2 E H z PT λY w a H E=>ss 1 E H z cY (iQ H m0 mm1) λw H=>ss 0 E H z L8 (Tc H mm2) λw H=>nt<|wS<|sp 1 E z λa E=>lb2 E H 0 U41 z λa E=>pn 1 E z λa E=>wif E m z (λm=>?_) λm=>?_
    ·refine wS<|dz [0,0,0,0,1,1,1,2] [0,3] H λw W0 hI H=>fbn E [s,t] z (wn z) z z z z mm1 z U25 z cY λa E=>fn 1 E z λa E=>fb2 E m0 U41 z λa E=>fn 1 E z λa E=>bW z<|Qd (i:=4) E H (wn z) z z z z z z cY z (iQ H (t4 (c _ n)) (t4 (c _ o))) λw H=>nt<|⟨sx H [0,3] z,bW z<|pn 1 E z λa E=>⟨sx H [0,3] z,bW z<|pn 1 E z λa E=>⟨sx H [0,3] z,bK z<|pn 1 E z λa E=>bG<|?_⟩⟩⟩
     clear hI;refine aA<|wR<|aH<|bJ<|aH<|aH<|bJ<|aH<|JX E z (qI (i:=4) (us:=[s,t]) H z z z U25 z cY) (rvT z) (rvT z) (rvT z)<|have H:=H.nilRow 93 aX;have H:=H.drs [1,1,1,1,1,1,1];?_;cases m;exact X3 ⟨z,H.reads (aD (t4 (c _ n)) (aD (t4 (c _ o)) (λr hr=>(t4 (c r hr)))))⟩
    refine wK<|aA<|sq<|ln 1 [T,U] E H U25 z cY λa E=>ss 5 E H z cY (iQ H m0 mm1) λw H=>nt<|wG<|pr 1 E z λa E=>ln 0 (Z1 b.2 V) E H U93 z L8 λa E=>?_;obtain ⟨q35,J,rfl⟩:=H.slform mm2;exact sD (e:=93) (d:=aX) (cs:=[.int .i64 b.2.Err,.string b.2.Path,.string b.2.Data,.int .i64 b.2.Version,(.slice q35 b.2.Names.length J)]) (xs:=[b.2]) E H (wn z) z z z (E.evs z) (by kernel_rfl) z (λok hr=>(Rows.single (d:=aX) (cs:=[.int .i64 b.2.Err,.string b.2.Path,.string b.2.Data,.int .i64 b.2.Version,(.slice q35 b.2.Names.length J)]) (x:=b.2) (Qx (hr _ mm2)))) λZ w a H E=>bk m λN m=>eF (i:=6) E H (wn z) z z z z z z (lH m0) U40 TN z N z λb0 w a H E=>pr 1 E z λa E=>wN<|bM<|aA<|wG<|pr 2 E z λa E=>nt<|have H:=H.drs [0,0,0];⟨u,nL u,X8 ⟨E.to z,H,(Y5 c),mm1,mm2,m⟩⟩
   ·refine wX<|aT<|aT<|cL<|aA<|sq<|ln 2 [g,j] E H U25 z cY λa E=>pr 1 E z λa E=>ss 1 E H z cY (iQ H k l) λw H=>pn 3 E z λa E=>wR<|JX E z (qI (i:=1) (us:=[g,j]) H z z z U25 z cY) (rvT z) (rvT z) (rvT z)<|have H:=H.drs [0,0,0];?_;cases m;exact X3 ⟨z,H.reads (aD k (aD l (c)))⟩

def lC(rec_1:Int->Option Bool)(c:Int)(b:Bool):Option Bool:=
  if b=true then (some (false)) else (rec_1 (IntKind.i64.wrap (c+1)))
def fY(b:List aF):Nat->Int->Option Bool
  | 0,_=>none
  | d+1,c=>
    if (decide (c < (b.length:Int)))=true then ((idx b c).bind λe=>(fW e.Prefix).bind λf=>if (!f)=true then (lC (fY b d) c true) else (if (decide (e.Epoch < 0))=true then (lC (fY b d) c true) else (if (decide (e.Epoch > 281474976710656))=true then (lC (fY b d) c true) else (if (decide (e.State < 1))=true then (lC (fY b d) c true) else (if (decide (e.State > 3))=true then (lC (fY b d) c true) else (if (decide (c > 0))=true then ((idx b (IntKind.i64.wrap (c - 1))).bind λg=>lC (fY b d) c (!(sLt g.Prefix e.Prefix))) else (lC (fY b d) c false))))))) else (some (decide ((b.length:Int) <= 32)))
def pK(b:List aF):Option Bool:=
  fY b (((b.length:Int) - 0:Int).toNat+1) 0
theorem I4{p:VL}{l:List aF}(H:Sep w (Fo) rs)(o:rSl aO p l ∈ rs){r:Bool}(m:pK l=some r) :
    Cf 38 [p] w λv w'=>.bool r=v/\Sep w' (Fo) (rs):=by
 unfold pK at m;refine ent func38 z ntmps38 z z λa E=>sq<|pn 1 E z λa E=>wS<|sp 1 E z λa E=>lS E H o U32 z λa E=>pr 1 E z λa E=>nt<|wB<|bF (λn a w=>∃ q,Jn 55 a w [(0,p),(5,p),(6,.int .i64 (l.length:Int)),(7,.int .i64 q)] (Fo) rs (fY l n q=some r)) (((l.length:Int) - 0:Int).toNat+1) ?_ ?_
 ·exact ⟨_,_,E.to z,H,Y0,m⟩
 ·clear E H m;rintro n a w ⟨q,F,E,H,c,m⟩;cases n with
  | zero=>exact (bD m z).elim
  | succ n=>
   unfold fY at m;refine sq<|pn 1 E z λa E=>wS<|wif E m z (λm=>?_) λm=>?_
   ·refine wK<|aA<|wS<|wB<|sp 1 E z λa E=>bd m λM C m=>dC E H (wn z) z z z z z (c _ o) U32 lA C λq9 a H E=>ldf mP E H z z z z z m0 U31 z lA λa E=>al2 E H z Td λG w a H E=>pr 1 E z λa E=>ss 0 E H z lA z λw H=>nt<|aL (λa w=>∃ s,Jn 55 a w [(0,p),(5,p),(6,.int .i64 (l.length:Int)),(7,.int .i64 q),(50,.bool s)] (Fo) rs (lC (fY l n) q s=some r)) ?_ ?_
    ·obtain ⟨I,H⟩:=H.raw (t1 (c _ o));refine dw [(0,0),(1,0),(2,1),(3,0),(4,0),(5,0),(6,0),(7,0),(8,0),(9,0),(10,0),(11,0),(12,0),(13,0),(14,0),(15,0),(16,0),(17,0),(18,0),(19,0),(20,0),(21,0),(22,0),(23,0),(24,0),(25,0),(26,0),(27,0),(28,0),(29,0),(30,0),(31,0),(32,0),(33,0),(34,0),(35,0),(36,0),(37,0),(38,0)] [0] [0] H (by kernel_rfl) (λ_ _ _ h=>False.elim h.2) λw W0 hI H=>fn 1 E z λa E=>fb2 E m0 U9 z λa E=>bW z<|bd m λJ u m=>xk2 E z (cf_ 83) (kQ H u) λw H a E=>nt<|⟨⟨_,_,H,(aV m0 (bQ)),(aD m0 (bT))⟩,fn 2 E z λa E=>cs m (λe m=>?_) λe m=>?_⟩
     ·refine fk 34 E (kc 16 z e) z λa E=>bG<|?_;clear hI;exact aA<|have H:=H.drop 0;⟨_,_,E.to z,H,(Y2 c),m⟩
     refine fk 1 E (kc 16 z e) z λa E=>fb E z (ws' (d:=16) E z z z z e) z z z z m0 z U2 z λa E=>fk 3 E (kc 16 z e) z λa E=>cs m (λf m=>?_) λf m=>?_
     ·refine fk 29 E (kc 21 z f) z λa E=>bG<|?_;clear hI;exact aA<|have H:=H.drop 0;⟨_,_,E.to z,H,(Y2 c),m⟩
     refine fk 1 E (kc 21 z f) z λa E=>fb E z (ws' (d:=21) E z z z z f) z z z z m0 z U2 z λa E=>fk 3 E (kc 21 z f) z λa E=>cs m (λg m=>?_) λg m=>?_
     ·refine fk 24 E (kc 26 z g) z λa E=>bG<|?_;clear hI;exact aA<|have H:=H.drop 0;⟨_,_,E.to z,H,(Y2 c),m⟩
     refine fk 1 E (kc 26 z g) z λa E=>fb E z (ws' (d:=26) E z z z z g) z z z z m0 z U3 z λa E=>fk 3 E (kc 26 z g) z λa E=>cs m (λi m=>?_) λi m=>?_
     ·refine fk 19 E (kc 31 z i) z λa E=>bG<|?_;clear hI;exact aA<|have H:=H.drop 0;⟨_,_,E.to z,H,(Y2 c),m⟩
     refine fk 1 E (kc 31 z i) z λa E=>fb E z (ws' (d:=31) E z z z z i) z z z z m0 z U3 z λa E=>fk 3 E (kc 31 z i) z λa E=>cs m (λj m=>?_) λj m=>?_
     ·refine fk 14 E (kc 36 z j) z λa E=>bG<|?_;clear hI;exact aA<|have H:=H.drop 0;⟨_,_,E.to z,H,(Y2 c),m⟩
     refine fk 3 E (kc 36 z j) z λa E=>cs m (λb m=>?_) λb m=>?_
     ·refine fk 3 E (kc 39 z b) z λa E=>bd m λK x m=>?_;obtain ⟨q25,L,y,A⟩:=gD (P:=Tryz.prog) (k:=.i64) hI (gC (.head _)) U32 lA x;refine dV E z (ws' (d:=39) E z z z z b) z z (λw hW=>iO E z z z (y w)) λa E=>?_;have B:=tC A (λ_ _ _ h=>wZ h);refine fk 1 E (kc 39 z b) z λa E=>fa E z (ws' (d:=39) E z z z z b) z z z z B U9 z λa E=>fk 1 E (kc 39 z b) z λa E=>fb E z (ws' (d:=39) E z z z z b) z z z z m0 z U9 z λa E=>fk 3 E (kc' (kc 39 z b) 36 z j) z λa E=>bG<|?_;clear hI;exact aA<|have H:=H.drop 0;⟨_,_,E.to z,H,(Y2 c),m⟩
     refine fk 11 E (kc' (kc 39 z b) 36 z j) z λa E=>bG<|?_;clear hI;exact aA<|have H:=H.drop 0;⟨_,_,E.to z,H,(Y2 c),m⟩
    clear E H m;rintro a w ⟨s,D,E,H,t,m⟩;unfold lC at m;refine wif E m z (λm=>?_) λm=>?_
    ·refine sq<|pn 1 E z λa E=>wR<|bJ<|aH<|aH<|bJ<|aH<|o1 E z<|?_;cases m;exact ⟨z,H.reads t⟩
    exact wK<|bM<|aA<|wG<|pn 2 E z λa E=>⟨n,nL n,_,_,E.to z,H,t,m⟩
   ·refine wX<|aT<|aT<|cL<|aA<|sp 1 E z λa E=>lS E H (c _ o) U32 z λa E=>pr 2 E z λa E=>nt<|wR<|o1 E z<|?_;cases m;exact ⟨z,H.reads c⟩

def M5(d:BY)(e:BY)(f:Bool):Option Bool:=
  if f=true then (some (false)) else ((iF d (ByteArray.mk #[47])).bind λg=>(lK e g).bind λb=>if b.2=true then (if (sEq b.1 (ByteArray.mk #[]))=true then (some (true)) else ((idx b.1.data.toList 0).bind λc=>some ((c.toNat:Int) == 47))) else (some (false)))
def M6(b:BY)(c:BY):Option Bool:=
  (fW b).bind λd=>if (!d)=true then (M5 c b true) else ((fW c).bind λe=>M5 c b (!e))
theorem Kx{f g:BY}(H:Sep w (Fo) rs){r:Bool}(m:M6 f g=some r) :
    Cf 65 [.string f,.string g] w λv w'=>.bool r=v/\Sep w' (Fo) (rs):=by
 unfold M6 at m;refine ent func65 z ntmps65 z z λa E=>sq<|pn 1 E z λa E=>wS<|aL (λa w=>∃ i,Jn 32 a w [(0,.string f),(1,.string g),(14,.bool i)] (Fo) rs (M5 g f i=some r)) ?_ ?_
 ·refine wG<|pr 1 E z λa E=>bd m λp j m=>xk2 E z (cf_ 83) (kQ H j) λw H a E=>pr 2 E z λa E=>cs m (λb m=>?_) λb m=>?_
  ·exact pk 4 E (kc 10 z b) z λa E=>nt<|⟨_,_,E.to z,H,Y0,m⟩
  refine pk 1 E (kc 10 z b) z λa E=>bd m λq k m=>gc 10 E b z (cf_ 83) (kQ H k)<|?_;rintro _ w ⟨rfl,H⟩ a E;exact pk 2 E (kc 10 z b) z λa E=>nt<|⟨_,_,E.to z,H,Y0,m⟩
 ·clear E H m;rintro a w ⟨i,s,E,H,e,m⟩;unfold M5 at m;refine wif E m z (λm=>?_) λm=>?_
  ·refine sq<|pn 1 E z λa E=>wR<|aH<|o1 E z<|?_;cases m;exact ⟨z,H.reads e⟩
  ·refine wK<|aA<|sp 2 E z λa E=>bd m λu n m=>xk2 E z (cf_ 136) (Z6 H n) λw H a E=>bd m λx o m=>xk2 E z (cf_ 135) (Ag H o) λw H a E=>pr 5 E z λa E=>xp 2 E z λa E=>cs m (λc m=>?_) λc m=>?_
   ·refine pk 3 E (kc 23 z c) z λa E=>cs m (λd m=>?_) λd m=>?_
    ·refine pk 6 E (kc' (kc 26 z d) 23 z c) z λa E=>nt<|wR<|o1 E z<|?_;cases m;exact ⟨z,H.reads e⟩
    refine pk 1 E (kc 26 z d) z λa E=>bd m λt l m=>gv 26 E d z (Jr E z z z U9 l) λa E=>pk 4 E (kc' (kc 26 z d) 23 z c) z λa E=>nt<|wR<|o1 E z<|?_;cases m;exact ⟨z,H.reads e⟩
   ·refine pk 9 E (kc 23 z c) z λa E=>nt<|wR<|o1 E z<|?_;cases m;exact ⟨z,H.reads e⟩

def I5(rec_1:Int->Int->Option Int)(b:Int)(c:Int):Option Int:=
  rec_1 c (IntKind.i64.wrap (b+1))
def zL(rec_1:Int->Int->Option Int)(b:Int)(d:Int)(c:Bool):Option Int:=
  if c=true then (I5 rec_1 b b) else (I5 rec_1 b d)
def mY(b:List aF)(e:BY):Nat->Int->Int->Option Int
  | 0,_,_=>none
  | g+1,c,d=>
    if (decide (d < (b.length:Int)))=true then ((idx b d).bind λf=>(M6 e f.Prefix).bind λi=>if i=true then (if (decide (c < 0))=true then (zL (mY b e g) d c true) else ((idx b c).bind λj=>zL (mY b e g) d c (decide ((f.Prefix.size:Int) > (j.Prefix.size:Int))))) else (zL (mY b e g) d c false)) else ((pK b).bind λk=>if (!k)=true then (some ((-1))) else (some (c)))
def mT(b:List aF)(c:BY):Option Int:=
  mY b c (((b.length:Int) - 0:Int).toNat+1) (-1) 0
theorem F9{g:VL}{f:List aF}{i:BY}(H:Sep w (Fo) rs)(n:rSl aO g f ∈ rs){r:Int}(m:mT f i=some r) :
    Cf 24 [g,.string i] w λv w'=>.int .i64 r=v/\Sep w' (Fo) (rs):=by
 unfold mT at m;refine ent func24 z ntmps24 z z λa E=>sp 1 E z λa E=>nx<|pn 1 E z λa E=>wS<|sp 1 E z λa E=>lS E H n U32 z λa E=>pn 1 E z λa E=>wB<|bF (λj a w=>∃ o l,Jn 41 a w [(0,g),(1,.string i),(5,.int .i64 o),(8,g),(9,.int .i64 (f.length:Int)),(10,.int .i64 l)] (Fo) rs (mY f i j o l=some r)) (((f.length:Int) - 0:Int).toNat+1) ?_ ?_
 ·exact X3 ⟨E.to z,H,Y0,m⟩
 ·clear E H m;rintro j a w ⟨o,l,I,E,H,c,m⟩;cases j with
  | zero=>exact (bD m z).elim
  | succ j=>
   unfold mY at m;refine sq<|pn 1 E z λa E=>wS<|wif E m z (λm=>?_) λm=>?_
   ·refine wK<|aA<|aL (λa w=>∃ s,Jn 41 a w [(0,g),(1,.string i),(5,.int .i64 s),(8,g),(9,.int .i64 (f.length:Int)),(10,.int .i64 l)] (Fo) rs (I5 (mY f i j) l s=some r)) ?_ ?_
    ·refine wB<|sp 1 E z λa E=>bd m λJ t m=>dC E H (wn z) z z z z z (c _ n) U32 lA t λq14 a H E=>ldf mP E H z z z z z m0 U31 z lA λa E=>al2 E H z Td λK w a H E=>pr 1 E z λa E=>ss 0 E H z lA z λw H=>nt<|aL (λa w=>∃ p,Jn 41 a w [(0,g),(1,.string i),(5,.int .i64 o),(6,.int .i64 l),(8,g),(9,.int .i64 (f.length:Int)),(10,.int .i64 l),(34,.bool p)] (Fo) rs (zL (mY f i j) l o p=some r)) ?_ ?_
     ·obtain ⟨L,H⟩:=H.raw (t1 (c _ n));refine dw [(0,0),(1,0),(2,0),(3,1),(4,0),(5,0),(6,0),(7,0),(8,0),(9,0),(10,0),(11,0),(12,0),(13,0),(14,0),(15,0),(16,0),(17,0),(18,0),(19,0)] [0] [0] H (by kernel_rfl) (λ_ _ _ h=>False.elim h.2) λw W0 hI H=>fn 2 E z λa E=>fb2 E m0 U9 z λa E=>bW z<|bd m λM u m=>xk2 E z (cf_ 65) (Kx H u) λw H a E=>nt<|⟨⟨_,_,H,(aV m0 (bQ)),(aD m0 (bT))⟩,fn 1 E z λa E=>cs m (λe m=>?_) λe m=>?_⟩
      ·refine fk 3 E (kc 19 z e) z λa E=>cs m (λb m=>?_) λb m=>?_
       ·refine fk 12 E (kc' (kc 22 z b) 19 z e) z λa E=>bG<|?_;clear hI;exact aA<|have H:=H.drop 0;⟨_,_,E.to z,H,(Y2 c),m⟩
       refine fk 1 E (kc 22 z b) z λa E=>fb E z (ws' (d:=22) E z z z z b) z z z z m0 z U9 z λa E=>fk 3 E (kc 22 z b) z λa E=>bd m λN x m=>?_;obtain ⟨q26,O,y,A⟩:=gD (P:=Tryz.prog) (k:=.i64) hI (gC (.head _)) U32 lA x;refine dV E z (ws' (d:=22) E z z z z b) z z (λw hW=>iO E z z z (y w)) λa E=>?_;have B:=tC A (λ_ _ _ h=>wZ h);refine fk 1 E (kc 22 z b) z λa E=>fa E z (ws' (d:=22) E z z z z b) z z z z B U9 z λa E=>fk 4 E (kc' (kc 22 z b) 19 z e) z λa E=>bG<|?_;clear hI;exact aA<|have H:=H.drop 0;⟨_,_,E.to z,H,(Y2 c),m⟩
      refine fk 15 E (kc 19 z e) z λa E=>bG<|?_;clear hI;exact aA<|have H:=H.drop 0;⟨_,_,E.to z,H,(Y2 c),m⟩
     clear E H m;rintro a w ⟨p,F,E,H,q,m⟩;unfold zL at m;refine wif E m z (λm=>?_) λm=>?_
     ·exact wG<|pr 2 E z λa E=>wN<|bM<|aA<|⟨_,_,E.to z,H,q,m⟩
     exact wK<|bM<|aA<|⟨_,_,E.to z,H,q,m⟩
    clear E H m;rintro a w ⟨s,G,E,H,C,m⟩;unfold I5 at m;exact wG<|pn 2 E z λa E=>⟨j,nL j,X3 ⟨E.to z,H,C,m⟩⟩
   ·refine wX<|aT<|aT<|cL<|aA<|wS<|sp 1 E z λa E=>bd m λQ D m=>xk2 E z (cf_ 38) (I4 H (c _ n) D) λw H a E=>pn 1 E z λa E=>wif E m z (λm=>?_) λm=>?_
    ·refine sq<|pn 1 E z λa E=>wR<|aH<|o1 E z<|?_;cases m;exact ⟨z,H.reads c⟩
    ·refine wK<|aA<|sq<|pn 2 E z λa E=>wR<|o1 E z<|?_;cases m;exact ⟨z,H.reads c⟩

def pP(x1:aF)(b:BY):Option Int:=
  (qK x1.Prefix b).bind λc=>some (c)
theorem Gk{x1:aF}{b:BY}(H:Sep w (Fo) rs){r:Int}(m:pP x1 b=some r) :
    Cf 242 [.agg (rE x1).toArray,.string b] w λv w'=>.int .i64 r=v/\Sep w' (Fo) (rs):=by
 unfold pP at m;refine ent func242 z ntmps242 z z λa E=>sq<|bx E H z λd w a H E=>pr 1 E z λa E=>xp 1 E z λa E=>lb2 E H 0 U9 z λa E=>pr 1 E z λa E=>bd m λe c m=>xk2 E z (cf_ 113) (xP H c) λw H a E=>pn 1 E z λa E=>wR<|o1 E z<|have H:=H.drop 0;?_;cases m;exact ⟨z,H.reads Y0⟩

def cK(c:List aF)(e:BY):Nat->Int->Int->Option zT
  | 0,_,_=>none
  | f+1,b,d=>
    if (decide (b < d))=true then ((idx c (IntKind.i64.wrap (uB .u64 (IntKind.u64.wrap (IntKind.i64.wrap (b+d))) 1))).bind λk=>(pP k e).bind λg=>if (decide (g < 0))=true then (cK c e f (IntKind.i64.wrap ((IntKind.i64.wrap (uB .u64 (IntKind.u64.wrap (IntKind.i64.wrap (b+d))) 1))+1)) d) else (cK c e f b (IntKind.i64.wrap (uB .u64 (IntKind.u64.wrap (IntKind.i64.wrap (b+d))) 1)))) else (if (decide (b < (c.length:Int)))=true then ((idx c b).bind λi=>(pP i e).bind λj=>some (b,j == 0)) else (some (b,false)))
def fA(b:List aF)(c:BY):Option zT:=
  cK b c (((b.length:Int) - 0:Int).toNat+1) 0 (b.length:Int)
theorem xM{j:VL}{f:List aF}{i:BY}(H:Sep w (Fo) rs)(g:rSl aO j f ∈ rs){r:Int×Bool}(m:fA f i=some r) :
    Cf 184 [j,.string i,.func (.func 242) #[] #[]] w λv w'=>.tuple #[.int .i64 r.1,.bool r.2]=v/\Sep w' (Fo) (rs):=by
 unfold fA at m;refine ent func184 z ntmps184 z z λa E=>sp 2 E z λa E=>xp 1 E z λa E=>lS E H g U32 z λa E=>pr 1 E z λa E=>xp 3 E z λa E=>nt<|wS<|wB<|bF (λe a w=>∃ k l,Jn 49 a w [(0,j),(1,.string i),(2,.func (.func 242) #[] #[]),(8,.int .i64 (f.length:Int)),(9,.int .i64 k),(10,.int .i64 l)] (Fo) rs (cK f i e k l=some r)) (((f.length:Int) - 0:Int).toNat+1) ?_ ?_
 ·exact X3 ⟨E.to z,H,Y0,m⟩
 ·clear E H m;rintro e a w ⟨k,l,s,E,H,c,m⟩;cases e with
  | zero=>exact (bD m z).elim
  | succ e=>
   unfold cK at m;refine wS<|sq<|pn 3 E z λa E=>wif E m z (λm=>?_) λm=>?_
   ·refine wK<|aA<|wB<|sp 4 E z λa E=>sv2 E z (He E z z z (by decide)) λa E=>pr 2 E z λa E=>xp 3 E z λa E=>bd m λA n m=>dC E H (wn z) z z z z z (c _ g) U32 lA n λq11 a H E=>ldf mP E H z z z z z m0 U31 z lA λa E=>pr 1 E z λa E=>bd m λt o m=>bI E (wn z) z z (bO E z z z ((cf_ 242) _)) (Gk H o)<|?_;rintro _ w ⟨rfl,H⟩ a E;refine pn 1 E z λa E=>wif E m z (λm=>?_) λm=>?_
    ·exact wG<|pr 3 E z λa E=>wN<|bM<|aA<|⟨e,nL e,X3 ⟨E.to z,H,(Y1 c),m⟩⟩
    exact wG<|pr 2 E z λa E=>wN<|bM<|aA<|⟨e,nL e,X3 ⟨E.to z,H,(Y1 c),m⟩⟩
   ·refine wX<|aT<|aT<|cL<|aA<|sp 5 E z λa E=>cs m (λb m=>?_) λb m=>?_
    ·refine pk 3 E (kc 39 z b) z λa E=>bd m λu p m=>dC E H (ws' (d:=39) E z z z z b) z z z z z (c _ g) U32 lA p λq17 a H E=>Dd E H (ws' (d:=39) E z z z z b) z z z z m0 U31 z lA λx a H E=>?_;obtain ⟨_,hcs⟩:=H.rd (.head _);obtain rfl:=Di hcs;clear hcs;refine pk 1 E (kc 39 z b) z λa E=>bd m λy q m=>bI E (ws' (d:=39) E z z z z b) z z (bO E z z z ((cf_ 242) _)) (Gk H q)<|?_;rintro _ w ⟨rfl,H⟩ a E;refine pk 4 E (kc 39 z b) z λa E=>nt<|wR<|hX E z z z<|?_;cases m;exact ⟨z,H.reads (Y2 c)⟩
    ·refine pk 11 E (kc 39 z b) z λa E=>nt<|wR<|hX E z z z<|?_;cases m;exact ⟨z,H.reads c⟩

def yV(c:List aF)(d:BY):Option zT:=
  (fA c d).bind λb=>some (b.1,b.2)
theorem Dn{b:VL}{c:List aF}{d:BY}(H:Sep w (Fo) rs)(e:rSl aO b c ∈ rs){r:Int×Bool}(m:yV c d=some r) :
    Cf 183 [b,.string d] w λv w'=>.tuple #[.int .i64 r.1,.bool r.2]=v/\Sep w' (Fo) (rs):=by
 unfold yV at m;refine ent func183 z ntmps183 z z λa E=>sp 2 E z λa E=>xp 2 E z λa E=>bd m λg f m=>xk2 E z (cf_ 184) (xM H e f) λw H a E=>pn 4 E z λa E=>wR<|hX E z z z<|?_;cases m;exact ⟨z,H.reads Y0⟩

def C7(c:Int×Bool)(x3:aF)(b:gY):Option Bg:=
  (idx b c.1).bind λd=>some (b.set c.1.toNat x3,true)
def C8(b:Int×Bool)(x3:aF)(c:List aF)(d:Bool):Option Bg:=
  if d=true then (some ([],false)) else ((ck (c.length <= LIM)).bind λe=>if (!b.2)=true then ((ck (0 <= b.1/\b.1 <= c.length/\c.length <= 1000000)).bind λf=>C7 b x3 (c.take b.1.toNat ++ x3::c.drop b.1.toNat)) else (C7 b x3 c))
def pL(b:List aF)(x3:aF):Option Bg:=
  (yV b x3.Prefix).bind λc=>if (!c.2)=true then (C8 c x3 b ((b.length:Int) == 32)) else (C8 c x3 b false)
theorem Fr{p:VL}{q:List aF}{x3:aF}(H:Sep w (Fo) rs)(g:rSl aO p q ∈ rs){r:gY×Bool}(m:pL q x3=some r) :
    Cf 175 [p,.agg (rE x3).toArray] w λv w'=>∃ A,.tuple #[A,.bool r.2]=v/\Sep w' (Row 31 aO A r.1::Fo) (rs):=by
 unfold pL at m;refine ent func175 z ntmps175 z z λa E=>sq<|bx E H z λo w a H E=>pr 2 E z λa E=>xp 2 E z λa E=>lb2 E H 0 U9 z λa E=>bd m λj B m=>xk2 E z (cf_ 183) (Dn H g B) λw H a E=>pn 5 E z λa E=>wS<|aL (λa w=>∃ s,Jn 36 a w [(0,p),(3,pt o 0),(6,.int .i64 j.1),(7,.bool j.2),(21,.bool s)] (Blk o 31 (rE x3)::Fo) rs (C8 j x3 q s=some r)) ?_ ?_
 ·refine wG<|pr 3 E z λa E=>cs m (λb m=>?_) λb m=>?_
  ·exact pk 1 E (kc 17 z b) z λa E=>gv 17 E b z (xO E H z z g U32) λa E=>pk 2 E (kc 17 z b) z λa E=>nt<|⟨_,_,E.to z,H,Y0,m⟩
  exact pk 4 E (kc 17 z b) z λa E=>nt<|⟨_,_,E.to z,H,Y0,m⟩
 ·clear E H m;rintro a w ⟨s,D,E,H,c,m⟩;unfold C8 at m;refine wif E m z (λm=>?_) λm=>?_
  ·refine sq<|pn 2 E z λa E=>wR<|aH<|hX E z z z<|have H:=H.nilRow 31 aO;have H:=H.drop 1;?_;cases m;exact ⟨_,z,H.reads c⟩
  ·refine wK<|aA<|sp 1 E z λa E=>bk m λt m=>xc2 E z (cf_ 66) (tY H (c _ g) t) λF w H a E=>pn 1 E z λa E=>aL (λa w=>∃ k l,Jn 36 a w [(0,k),(3,pt o 0),(6,.int .i64 j.1)] (Row 31 aO k l::Blk o 31 (rE x3)::Fo) rs (C7 j x3 l=some r)) ?_ ?_
   ·refine sq<|pn 2 E z λa E=>wif E m z (λm=>?_) λm=>?_
    ·exact wG<|pr 2 E z λa E=>ln 1 (rE x3) E H U31 z lA λa E=>kH (e:=31) (d:=aO) (cs:=[.string x3.Prefix,.int .i64 x3.Epoch,.int .i64 x3.State]) (xs:=[x3]) E H (wn z) z z z (E.evs z) (by kernel_rfl) z z (λok hr=>(Rows.single (d:=aO) (cs:=[.string x3.Prefix,.int .i64 x3.Epoch,.int .i64 x3.State]) (x:=x3) B9)) λG w a H E=>bk m λu m=>xc2 E z (cf_ 186) (Ra.insert_a (ix:=1) (iu:=0) H z z (by decide) u) λI w H a E=>pn 1 E z λa E=>have H:=H.drop 0;X3 ⟨E.to z,H,c,m⟩
    exact wK<|aA<|X3 ⟨E.to z,H,c,m⟩
   ·clear E H m;rintro a w ⟨k,l,C,E,H,y,m⟩;unfold C7 at m;refine sp 2 E z λa E=>ln 1 (rE x3) E H U31 z lA λa E=>bd m λJ f m=>?_;obtain ⟨K,L,n⟩:=H.rowformNE (i:=0) z f;refine sv2 E z (dP (d:=aO) E n z z z z U32 lA f) λa E=>W8 (d:=aO) (i:=0) (us:=[.string x3.Prefix,.int .i64 x3.Epoch,.int .i64 x3.State]) (z':=x3) E H mP (wn z) z n z z z z z z z f lA λw H=>nx<|pn 3 E z λa E=>wR<|hX E z z z<|have H:=H.drop 1;?_;cases m;exact ⟨_,z,H.reads y⟩

def xU(c:List aF)(e:Int)(f:BY)(g:Bool):Option Bg:=
  if g=true then (some ([],false)) else ((idx c e).bind λd=>(pL c (⟨f,d.Epoch,2⟩:aF)).bind λb=>some (b.1,b.2))
def vC(b:List aF)(d:BY):Option Bg:=
  (mT b d).bind λc=>if (decide (c < 0))=true then (xU b c d true) else ((idx b c).bind λe=>xU b c d (e.State != 1))
theorem Tm{i:VL}{j:List aF}{f:BY}(H:Sep w (Fo) rs)(c:rSl aO i j ∈ rs){r:gY×Bool}(m:vC j f=some r) :
    Cf 105 [i,.string f] w λv w'=>∃ p,.tuple #[p,.bool r.2]=v/\Sep w' (Row 31 aO p r.1::Fo) (rs):=by
 unfold vC at m;refine ent func105 z ntmps105 z z λa E=>sp 2 E z λa E=>xp 2 E z λa E=>bd m λq s m=>xk2 E z (cf_ 24) (F9 H c s) λw H a E=>pn 1 E z λa E=>wS<|aL (λa w=>∃ k,Jn 31 a w [(0,i),(1,.string f),(6,.int .i64 q),(19,.bool k)] (Fo) rs (xU j q f k=some r)) ?_ ?_
 ·refine wG<|pr 3 E z λa E=>cs m (λb m=>?_) λb m=>?_
  ·exact pk 7 E (kc 12 z b) z λa E=>nt<|⟨_,_,E.to z,H,Y0,m⟩
  exact pk 2 E (kc 12 z b) z λa E=>bd m λt l m=>dC E H (ws' (d:=12) E z z z z b) z z z z z c U32 lA l λq19 a H E=>have H:=H.derive1 m0 (rAt (kI .i64) (q19.add 2) t.State) (λok h=>Y9 h);pk 1 E (kc 12 z b) z λa E=>gv 12 E b z (oO E H z z m0 U3 z) λa E=>pk 2 E (kc 12 z b) z λa E=>nt<|⟨_,_,E.to z,H,(Y2 Y0),m⟩
 ·clear E H m;rintro a w ⟨k,u,E,H,e,m⟩;unfold xU at m;refine wif E m z (λm=>?_) λm=>?_
  ·refine sq<|pn 2 E z λa E=>wR<|aH<|hX E z z z<|have H:=H.nilRow 31 aO;?_;cases m;exact ⟨_,z,H.reads e⟩
  ·refine wK<|aA<|sp 4 E z λa E=>bd m λg n m=>dC E H (wn z) z z z z z (e _ c) U32 lA n λq12 a H E=>have H:=H.derive1 m0 (rAt (kI .i64) (q12.add 1) g.Epoch) (λok h=>X2 h);pr 1 E z λa E=>sv2 E z (oO E H z z m0 U2 z) λa E=>sv2 E z (cN E z (E.evs z) (v:=.agg #[.string f,.int .i64 g.Epoch,.int .i64 2]) (by kernel_rfl)) λa E=>bd m λx o m=>xc2 E z (cf_ 175) (Fr (x3:=(⟨f,g.Epoch,2⟩:aF)) H (t2 (e _ c)) o)<|?_;rintro _ w ⟨y,rfl,H⟩ a E;refine pn 4 E z λa E=>wR<|hX E z z z<|?_;cases m;exact ⟨_,z,H.reads (Y2 e)⟩

def wI(d:List aF)(e:BY)(f:Int)(c:Bool):Option Bg:=
  if c=true then (some ([],false)) else ((pL d (⟨e,f,1⟩:aF)).bind λb=>some (b.1,b.2))
def oX(b:List aF)(c:BY)(d:Int)(g:Bool):Option Bg:=
  if g=true then (some ([],false)) else ((yV b c).bind λe=>if e.2=true then ((idx b e.1).bind λf=>wI b c d (decide (f.Epoch ≥ d))) else (wI b c d false))
def qN(c:List aF)(d:BY)(b:Int):Option Bg:=
  (pK c).bind λe=>if (!e)=true then (oX c d b true) else ((fW d).bind λf=>if (!f)=true then (oX c d b true) else (if (decide (b < 0))=true then (oX c d b true) else (oX c d b (decide (b > 281474976710656)))))
theorem Rs{o:VL}{p:List aF}{e:BY}{f:Int}(H:Sep w (Fo) rs)(l:rSl aO o p ∈ rs){r:gY×Bool}(m:qN p e f=some r) :
    Cf 108 [o,.string e,.int .i64 f] w λv w'=>∃ A,.tuple #[A,.bool r.2]=v/\Sep w' (Row 31 aO A r.1::Fo) (rs):=by
 unfold qN at m;refine ent func108 z ntmps108 z z λa E=>sq<|pn 2 E z λa E=>wS<|aL (λa w=>∃ q,Jn 49 a w [(0,o),(1,.string e),(2,.int .i64 f),(25,.bool q)] (Fo) rs (oX p e f q=some r)) ?_ ?_
 ·refine wG<|pr 1 E z λa E=>bd m λD s m=>xk2 E z (cf_ 38) (I4 H l s) λw H a E=>pr 2 E z λa E=>cs m (λc m=>?_) λc m=>?_
  ·exact pk 12 E (kc 13 z c) z λa E=>nt<|⟨_,_,E.to z,H,Y0,m⟩
  refine pk 1 E (kc 13 z c) z λa E=>bd m λF t m=>gc 13 E c z (cf_ 83) (kQ H t)<|?_;rintro _ w ⟨rfl,H⟩ a E;refine pk 3 E (kc 13 z c) z λa E=>cs m (λi m=>?_) λi m=>?_
  ·exact pk 7 E (kc 18 z i) z λa E=>nt<|⟨_,_,E.to z,H,Y0,m⟩
  refine pk 4 E (kc 18 z i) z λa E=>cs m (λj m=>?_) λj m=>?_
  ·exact pk 3 E (kc 22 z j) z λa E=>nt<|⟨_,_,E.to z,H,Y0,m⟩
  exact pk 3 E (kc 22 z j) z λa E=>nt<|⟨_,_,E.to z,H,Y0,m⟩
 ·clear E H m;rintro a w ⟨q,G,E,H,g,m⟩;unfold oX at m;refine wif E m z (λm=>?_) λm=>?_
  ·refine sq<|pn 2 E z λa E=>wR<|aH<|hX E z z z<|have H:=H.nilRow 31 aO;?_;cases m;exact ⟨_,z,H.reads g⟩
  ·refine wK<|aA<|wS<|sp 2 E z λa E=>bd m λK u m=>xk2 E z (cf_ 183) (Dn H (g _ l) u) λw H a E=>pn 5 E z λa E=>aL (λa w=>∃ n,Jn 49 a w [(0,o),(1,.string e),(2,.int .i64 f),(41,.bool n)] (Fo) rs (wI p e f n=some r)) ?_ ?_
   ·refine wG<|pr 2 E z λa E=>cs m (λb m=>?_) λb m=>?_
    ·exact pk 2 E (kc 33 z b) z λa E=>bd m λB x m=>dC E H (ws' (d:=33) E z z z z b) z z z z z (g _ l) U32 lA x λq20 a H E=>have H:=H.derive1 m0 (rAt (kI .i64) (q20.add 1) B.Epoch) (λok h=>X2 h);pk 1 E (kc 33 z b) z λa E=>gv 33 E b z (oO E H z z m0 U2 z) λa E=>pk 3 E (kc 33 z b) z λa E=>nt<|⟨_,_,E.to z,H,(Y2 g),m⟩
    exact pk 8 E (kc 33 z b) z λa E=>nt<|⟨_,_,E.to z,H,g,m⟩
   ·clear E H m;rintro a w ⟨n,C,E,H,k,m⟩;unfold wI at m;refine wif E m z (λm=>?_) λm=>?_
    ·refine sq<|pn 2 E z λa E=>wR<|aH<|hX E z z z<|have H:=H.nilRow 31 aO;?_;cases m;exact ⟨_,z,H.reads k⟩
    ·refine wK<|aA<|sp 3 E z λa E=>sv2 E z (cN E z (E.evs z) (v:=.agg #[.string e,.int .i64 f,.int .i64 1]) (by kernel_rfl)) λa E=>bd m λI y m=>xc2 E z (cf_ 175) (Fr (x3:=(⟨e,f,1⟩:aF)) H (k _ l) y)<|?_;rintro _ w ⟨J,rfl,H⟩ a E;refine pn 4 E z λa E=>wR<|hX E z z z<|?_;cases m;exact ⟨_,z,H.reads k⟩

def xC(d:List aF)(e:BY)(f:Int)(c:Bool):Option Bg:=
  if c=true then (some ([],false)) else ((pL d (⟨e,f,3⟩:aF)).bind λb=>some (b.1,b.2))
def C9(b:List aF)(c:BY)(d:Int):Option Bg:=
  (pK b).bind λi=>if (!i)=true then (some ([],false)) else ((yV b c).bind λe=>if (!e.2)=true then (xC b c d true) else ((idx b e.1).bind λf=>if (f.State != 2)=true then (xC b c d true) else ((idx b e.1).bind λg=>xC b c d (g.Epoch != d))))
theorem Xr{k:VL}{l:List aF}{g:BY}{i:Int}(H:Sep w (Fo) rs)(e:rSl aO k l ∈ rs){r:gY×Bool}(m:C9 l g i=some r) :
    Cf 116 [k,.string g,.int .i64 i] w λv w'=>∃ q,.tuple #[q,.bool r.2]=v/\Sep w' (Row 31 aO q r.1::Fo) (rs):=by
 unfold C9 at m;refine ent func116 z ntmps116 z z λa E=>sq<|pn 2 E z λa E=>wS<|sp 1 E z λa E=>bd m λC s m=>xk2 E z (cf_ 38) (I4 H e s) λw H a E=>pn 1 E z λa E=>wif E m z (λm=>?_) λm=>?_
 ·refine sq<|pn 2 E z λa E=>wR<|aH<|hX E z z z<|have H:=H.nilRow 31 aO;?_;cases m;exact ⟨_,z,H.reads Y0⟩
 ·refine wK<|aA<|sp 2 E z λa E=>bd m λD t m=>xk2 E z (cf_ 183) (Dn H e t) λw H a E=>pn 5 E z λa E=>wS<|aL (λa w=>∃ j,Jn 45 a w [(0,k),(1,.string g),(2,.int .i64 i),(37,.bool j)] (Fo) rs (xC l g i j=some r)) ?_ ?_
  ·refine wG<|pr 3 E z λa E=>cs m (λb m=>?_) λb m=>?_
   ·exact pk 16 E (kc 21 z b) z λa E=>nt<|⟨_,_,E.to z,H,Y0,m⟩
   refine pk 2 E (kc 21 z b) z λa E=>bd m λu n m=>dC E H (ws' (d:=21) E z z z z b) z z z z z e U32 lA n λq19 a H E=>have H:=H.derive1 m0 (rAt (kI .i64) (q19.add 2) u.State) (λok h=>Y9 h);pk 1 E (kc 21 z b) z λa E=>gv 21 E b z (oO E H z z m0 U3 z) λa E=>pk 3 E (kc 21 z b) z λa E=>cs m (λc m=>?_) λc m=>?_
   ·exact pk 8 E (kc 29 z c) z λa E=>nt<|⟨_,_,E.to z,H,(Y2 Y0),m⟩
   exact pk 2 E (kc 29 z c) z λa E=>bd m λx o m=>dC E H (ws' (d:=29) E z z z z c) z z z z z (t2 e) U32 lA o λq23 a H E=>have H:=H.derive1 m0 (rAt (kI .i64) (q23.add 1) x.Epoch) (λok h=>X2 h);pk 1 E (kc 29 z c) z λa E=>gv 29 E c z (oO E H z z m0 U2 z) λa E=>pk 3 E (kc 29 z c) z λa E=>nt<|⟨_,_,E.to z,H,(Y4 Y0),m⟩
  ·clear E H m;rintro a w ⟨j,y,E,H,f,m⟩;unfold xC at m;refine wif E m z (λm=>?_) λm=>?_
   ·refine sq<|pn 2 E z λa E=>wR<|aH<|hX E z z z<|have H:=H.nilRow 31 aO;?_;cases m;exact ⟨_,z,H.reads f⟩
   ·refine wK<|aA<|sp 3 E z λa E=>sv2 E z (cN E z (E.evs z) (v:=.agg #[.string g,.int .i64 i,.int .i64 3]) (by kernel_rfl)) λa E=>bd m λA p m=>xc2 E z (cf_ 175) (Fr (x3:=(⟨g,i,3⟩:aF)) H (f _ e) p)<|?_;rintro _ w ⟨B,rfl,H⟩ a E;refine pn 4 E z λa E=>wR<|hX E z z z<|?_;cases m;exact ⟨_,z,H.reads f⟩

def P3(x1:aF)(b:BY):Option Int:=
  (qK x1.Prefix b).bind λc=>some (c)
theorem Gl{x1:aF}{b:BY}(H:Sep w (Fo) rs){r:Int}(m:P3 x1 b=some r) :
    Cf 185 [.agg (rE x1).toArray,.string b] w λv w'=>.int .i64 r=v/\Sep w' (Fo) (rs):=by
 unfold P3 at m;refine ent func185 z ntmps185 z z λa E=>sq<|bx E H z λd w a H E=>pr 1 E z λa E=>xp 1 E z λa E=>lb2 E H 0 U9 z λa E=>pr 1 E z λa E=>bd m λe c m=>xk2 E z (cf_ 113) (xP H c) λw H a E=>pn 1 E z λa E=>wR<|o1 E z<|have H:=H.drop 0;?_;cases m;exact ⟨z,H.reads Y0⟩

def cG(c:List aF)(e:BY):Nat->Int->Int->Option zT
  | 0,_,_=>none
  | f+1,b,d=>
    if (decide (b < d))=true then ((idx c (IntKind.i64.wrap (uB .u64 (IntKind.u64.wrap (IntKind.i64.wrap (b+d))) 1))).bind λk=>(P3 k e).bind λg=>if (decide (g < 0))=true then (cG c e f (IntKind.i64.wrap ((IntKind.i64.wrap (uB .u64 (IntKind.u64.wrap (IntKind.i64.wrap (b+d))) 1))+1)) d) else (cG c e f b (IntKind.i64.wrap (uB .u64 (IntKind.u64.wrap (IntKind.i64.wrap (b+d))) 1)))) else (if (decide (b < (c.length:Int)))=true then ((idx c b).bind λi=>(P3 i e).bind λj=>some (b,j == 0)) else (some (b,false)))
def dS(b:List aF)(c:BY):Option zT:=
  cG b c (((b.length:Int) - 0:Int).toNat+1) 0 (b.length:Int)
theorem wJ{j:VL}{e:List aF}{p:BY}(H:Sep w (Row 31 aO j e::Fo) rs){r:Int×Bool}(m:dS e p=some r) :
    Cf 184 [j,.string p,.func (.func 185) #[] #[]] w λv w'=>.tuple #[.int .i64 r.1,.bool r.2]=v/\Sep w' (Row 31 aO j e::Fo) (rs):=by
 unfold dS at m;refine ent func184 z ntmps184 z z λa E=>sp 2 E z λa E=>xp 1 E z λa E=>sv2 E z (lQ (i:=0) E H z z z U32) λa E=>pr 1 E z λa E=>xp 3 E z λa E=>nt<|wS<|wB<|bF (λc a w=>∃ q s,Jn 49 a w [(0,j),(1,.string p),(2,.func (.func 185) #[] #[]),(8,.int .i64 (e.length:Int)),(9,.int .i64 q),(10,.int .i64 s)] (Row 31 aO j e::Fo) rs (cG e p c q s=some r)) (((e.length:Int) - 0:Int).toNat+1) ?_ ?_
 ·exact X3 ⟨E.to z,H,Y0,m⟩
 ·clear E H m;rintro c a w ⟨q,s,y,E,H,g,m⟩;cases c with
  | zero=>exact (bD m z).elim
  | succ c=>
   unfold cG at m;refine wS<|sq<|pn 3 E z λa E=>wif E m z (λm=>?_) λm=>?_
   ·refine wK<|aA<|wB<|sp 4 E z λa E=>sv2 E z (He E z z z (by decide)) λa E=>pr 2 E z λa E=>xp 3 E z λa E=>bd m λt k m=>?_;obtain ⟨A,B,l⟩:=H.rowformNE (i:=0) z k;refine sv2 E z (dP (d:=aO) E l z z z z U32 lA k) λa E=>sv2 E z (kJ (i:=0) E H mP l z z z k (us:=[.string t.Prefix,.int .i64 t.Epoch,.int .i64 t.State]) z U31 z lA) λa E=>pr 1 E z λa E=>bd m λC u m=>bI E (wn z) z z (bO E z z z ((cf_ 185) _)) (Gl H u)<|?_;rintro _ w ⟨rfl,H⟩ a E;refine pn 1 E z λa E=>wif E m z (λm=>?_) λm=>?_
    ·exact wG<|pr 3 E z λa E=>wN<|bM<|aA<|⟨c,nL c,X3 ⟨E.to z,H,g,m⟩⟩
    exact wG<|pr 2 E z λa E=>wN<|bM<|aA<|⟨c,nL c,X3 ⟨E.to z,H,g,m⟩⟩
   ·refine wX<|aT<|aT<|cL<|aA<|sp 5 E z λa E=>cs m (λb m=>?_) λb m=>?_
    ·refine pk 3 E (kc 39 z b) z λa E=>bd m λn f m=>?_;obtain ⟨D,F,o⟩:=H.rowformNE (i:=0) z f;refine gv 39 E b z (dP (d:=aO) E o z z z z U32 lA f) λa E=>gv 39 E b z (kJ (i:=0) E H mP o z z z f (us:=[.string n.Prefix,.int .i64 n.Epoch,.int .i64 n.State]) z U31 z lA) λa E=>pk 1 E (kc 39 z b) z λa E=>bd m λG x m=>bI E (ws' (d:=39) E z z z z b) z z (bO E z z z ((cf_ 185) _)) (Gl H x)<|?_;rintro _ w ⟨rfl,H⟩ a E;refine pk 4 E (kc 39 z b) z λa E=>nt<|wR<|hX E z z z<|?_;cases m;exact ⟨z,H.reads g⟩
    ·refine pk 11 E (kc 39 z b) z λa E=>nt<|wR<|hX E z z z<|?_;cases m;exact ⟨z,H.reads g⟩

def zX(rec_1:gY->Int->Option gY)(c:Int)(b:gY):Option gY:=
  rec_1 b (IntKind.i64.wrap (c+1))
def nX(d:List BY):Nat->gY->Int->Option gY
  | 0,_,_=>none
  | g+1,c,e=>
    if (decide (e < (d.length:Int)))=true then ((idx d e).bind λf=>(dS c f).bind λb=>if (!b.2)=true then ((ck (0 <= b.1/\b.1 <= c.length/\c.length <= 1000000)).bind λi=>zX (nX d g) e (c.take b.1.toNat ++ (⟨f,0,3⟩:aF)::c.drop b.1.toNat)) else (zX (nX d g) e c)) else (some (c))
def yW(c:List aF)(b:List BY):Option gY:=
  nX b (((b.length:Int) - 0:Int).toNat+1) c 0
theorem Xs{y l:VL}{A:List aF}{f:List BY}(H:Sep w (Row 31 aO y A::Fo) rs)(n:rSl kS l f ∈ rs){r:gY}(m:yW A f=some r) :
    Cf 109 [y,l] w λv w'=>∃ B,B=v/\Sep w' (Row 31 aO B r::Fo) (rs):=by
 unfold yW at m;refine ent func109 z ntmps109 z z λa E=>sq<|pn 1 E z λa E=>wS<|sp 1 E z λa E=>lS E H n U33 z λa E=>pr 1 E z λa E=>nt<|wB<|bF (λg a w=>∃ o p i,Jn 31 a w [(0,o),(9,l),(10,.int .i64 (f.length:Int)),(11,.int .i64 i)] (Row 31 aO o p::Fo) rs (nX f g p i=some r)) (((f.length:Int) - 0:Int).toNat+1) ?_ ?_
 ·exact X4 ⟨E.to z,H,Y0,m⟩
 ·clear E H m;rintro g a w ⟨o,p,i,D,E,H,b,m⟩;cases g with
  | zero=>exact (bD m z).elim
  | succ g=>
   unfold nX at m;refine sq<|pn 1 E z λa E=>wS<|wif E m z (λm=>?_) λm=>?_
   ·refine wK<|aA<|aL (λa w=>∃ j k,Jn 31 a w [(0,j),(9,l),(10,.int .i64 (f.length:Int)),(11,.int .i64 i)] (Row 31 aO j k::Fo) rs (zX (nX f g) i k=some r)) ?_ ?_
    ·refine wB<|sq<|bd m λc q m=>dC E H (wn z) z z z z z (b _ n) U33 sz9 q λq17 a H E=>sv2 E z (oO E H z z m0 U9 z) λa E=>pr 1 E z λa E=>xp 2 E z λa E=>bd m λF s m=>xk2 E z (cf_ 184) (wJ H s) λw H a E=>pr 5 E z λa E=>nx<|pn 2 E z λa E=>wif E m z (λm=>?_) λm=>?_
     ·exact wG<|pr 3 E z λa E=>sv2 E z (cN E z (E.evs z) (v:=.agg #[.string c,.int .i64 0,.int .i64 3]) (by kernel_rfl)) λa E=>kH (e:=31) (d:=aO) (cs:=[.string c,.int .i64 0,.int .i64 3]) (xs:=[(⟨c,0,3⟩:aF)]) E H (wn z) z z z (E.evs z) (by kernel_rfl) z z (λok hr=>(Rows.single (d:=aO) (cs:=[.string c,.int .i64 0,.int .i64 3]) (x:=(⟨c,0,3⟩:aF)) B9)) λG w a H E=>bk m λt m=>xc2 E z (cf_ 186) (Ra.insert_a (ix:=1) (iu:=0) H z z (by decide) t) λI w H a E=>pr 1 E z λa E=>wN<|bM<|aA<|have H:=H.drop 0;X3 ⟨E.to z,H,(Y1 b),m⟩
     exact wK<|bM<|aA<|X3 ⟨E.to z,H,(Y1 b),m⟩
    clear E H m;rintro a w ⟨j,k,C,E,H,u,m⟩;unfold zX at m;exact wG<|pn 2 E z λa E=>⟨g,nL g,X4 ⟨E.to z,H,u,m⟩⟩
   ·refine wX<|aT<|aT<|cL<|aA<|sq<|pn 2 E z λa E=>wR<|o1 E z<|?_;cases m;exact ⟨_,z,H.reads b⟩

def tJ(b:BY):Option Bool:=
  if (sEq b (ByteArray.mk #[]))=true then (some (true)) else ((fW b).bind λc=>some (c))
theorem Eo{c:BY}(H:Sep w (Fo) rs){r:Bool}(m:tJ c=some r) :
    Cf 123 [.string c] w λv w'=>.bool r=v/\Sep w' (Fo) (rs):=by
 unfold tJ at m;refine ent func123 z ntmps123 z z λa E=>sp 1 E z λa E=>xp 3 E z λa E=>cs m (λb m=>?_) λb m=>?_
 ·refine pk 4 E (kc 5 z b) z λa E=>nt<|wR<|o1 E z<|?_;cases m;exact ⟨z,H.reads Y0⟩
 ·refine pk 1 E (kc 5 z b) z λa E=>bd m λe d m=>gc 5 E b z (cf_ 83) (kQ H d)<|?_;rintro _ w ⟨rfl,H⟩ a E;refine pk 2 E (kc 5 z b) z λa E=>nt<|wR<|o1 E z<|?_;cases m;exact ⟨z,H.reads Y0⟩

def qY(rec_1:Int->Option Bool)(c:Int)(b:Bool):Option Bool:=
  if b=true then (some (false)) else (rec_1 (IntKind.i64.wrap (c+1)))
def lL(b:List Int):Nat->Int->Option Bool
  | 0,_=>none
  | d+1,c=>
    if (decide (c < (b.length:Int)))=true then ((idx b c).bind λe=>if (decide (e < 0))=true then (qY (lL b d) c true) else (qY (lL b d) c (decide (e > 281474976710656)))) else (some (true))
def yX(b:List Int):Option Bool:=
  lL b (((b.length:Int) - 0:Int).toNat+1) 0
theorem Pk{j:VL}{b:List Int}(H:Sep w (Fo) rs)(k:rSl (kI .i64) j b ∈ rs){r:Bool}(m:yX b=some r) :
    Cf 122 [j] w λv w'=>.bool r=v/\Sep w' (Fo) (rs):=by
 unfold yX at m;refine ent func122 z ntmps122 z z λa E=>sq<|pn 1 E z λa E=>wS<|sp 1 E z λa E=>lS E H k U46 z λa E=>pr 1 E z λa E=>nt<|wB<|bF (λc a w=>∃ f,Jn 18 a w [(5,j),(6,.int .i64 (b.length:Int)),(7,.int .i64 f)] (Fo) rs (lL b c f=some r)) (((b.length:Int) - 0:Int).toNat+1) ?_ ?_
 ·exact ⟨_,_,E.to z,H,Y0,m⟩
 ·clear E H m;rintro c a w ⟨f,o,E,H,e,m⟩;cases c with
  | zero=>exact (bD m z).elim
  | succ c=>
   unfold lL at m;refine sq<|pn 1 E z λa E=>wS<|wif E m z (λm=>?_) λm=>?_
   ·refine wK<|aA<|wS<|wB<|sq<|bd m λp l m=>dC E H (wn z) z z z z z (e _ k) U46 sz2 l λq9 a H E=>sv2 E z (oO E H z z m0 U2 z) λa E=>pr 1 E z λa E=>nt<|aL (λa w=>∃ g,Jn 18 a w [(5,j),(6,.int .i64 (b.length:Int)),(7,.int .i64 f),(16,.bool g)] (Fo) rs (qY (lL b c) f g=some r)) ?_ ?_
    ·refine wG<|pr 3 E z λa E=>cs m (λd m=>?_) λd m=>?_
     ·exact pk 3 E (kc 13 z d) z λa E=>nt<|⟨_,_,E.to z,H,(Y1 e),m⟩
     exact pk 3 E (kc 13 z d) z λa E=>nt<|⟨_,_,E.to z,H,(Y1 e),m⟩
    clear E H m;rintro a w ⟨g,n,E,H,i,m⟩;unfold qY at m;refine wif E m z (λm=>?_) λm=>?_
    ·refine sq<|pn 1 E z λa E=>wR<|bJ<|aH<|aH<|bJ<|aH<|o1 E z<|?_;cases m;exact ⟨z,H.reads i⟩
    exact wK<|bM<|aA<|wG<|pn 2 E z λa E=>⟨c,nL c,_,_,E.to z,H,i,m⟩
   ·refine wX<|aT<|aT<|cL<|aA<|sq<|pn 1 E z λa E=>wR<|o1 E z<|?_;cases m;exact ⟨z,H.reads e⟩

def oY(rec_1:Int->Int->Option Bool)(b:cJ)(c:Int)(d:Bool):Option Bool:=
  if d=true then (some (false)) else (rec_1 b.Op (IntKind.i64.wrap (c+1)))
def oZ(rec_2:Int->Option Bool)(b:Int)(c:Bool):Option Bool:=
  if c=true then (some (false)) else (rec_2 (IntKind.i64.wrap (b+1)))
def iL(x1:aI)(b:Bool):Option Bool:=
  if b=true then (if (decide ((x1.Gone.length:Int) <= 32))=true then ((rM x1.Store).bind λc=>if c=true then (if (decide ((x1.Store.Nodes.length:Int) <= 512))=true then (some (decide ((x1.Store.Turns.length:Int) <= 512))) else (some (false))) else (some (false))) else (some (false))) else (some (false))
def eU(x1:aI)(b:Bool):Option Bool:=
  if b=true then ((yX ([x1.Id,x1.Txn,x1.Age,x1.Epoch,x1.Watch.Session,x1.Watch.Num]:List Int)).bind λc=>if c=true then ((tJ x1.Prefix).bind λd=>if d=true then ((tJ x1.Watch.Path).bind λe=>iL x1 e) else (iL x1 false)) else (iL x1 false)) else (iL x1 false)
def eV(x1:aI):Nat->Int->Option Bool
  | 0,_=>none
  | d+1,b=>
    if (decide (b < (x1.Gone.length:Int)))=true then ((idx x1.Gone b).bind λc=>(M6 c x1.Prefix).bind λe=>if (!e)=true then (oZ (eV x1 d) b true) else (if (sEq c x1.Prefix)=true then (oZ (eV x1 d) b true) else (if (decide (b > 0))=true then ((idx x1.Gone (IntKind.i64.wrap (b - 1))).bind λf=>oZ (eV x1 d) b (!(sLt f c))) else (oZ (eV x1 d) b false)))) else (if (decide (x1.Kind ≥ 1))=true then (if (decide (x1.Kind <= 13))=true then (if (decide (x1.To ≥ 0))=true then (if (decide (x1.To < 4))=true then (eU x1 (decide ((x1.Pieces.length:Int) <= 16))) else (eU x1 false)) else (eU x1 false)) else (eU x1 false)) else (eU x1 false))
def gF(x1:aI):Nat->Int->Int->Option Bool
  | 0,_,_=>none
  | d+1,e,c=>
    if (decide (c < (x1.Pieces.length:Int)))=true then ((idx x1.Pieces c).bind λb=>if (decide (b.Op < e))=true then (oY (gF x1 d) b c true) else (if (decide (b.Op ≥ 8))=true then (oY (gF x1 d) b c true) else ((O9 b.Part).bind λf=>if (!f)=true then (oY (gF x1 d) b c true) else (oY (gF x1 d) b c (decide (b.Part.Version ≥ 281474976710656)))))) else (eV x1 (((x1.Gone.length:Int) - 0:Int).toNat+1) 0)
def eE(x1:aI):Option Bool:=
  gF x1 (((x1.Pieces.length:Int) - 0:Int).toNat+1) 0 0
theorem Rt{x1:aI}{I K L J:VL}(H:Sep w (Fo) rs)(S:rSl bN I x1.Pieces ∈ rs)(b1:rSl aB K x1.Store.Nodes ∈ rs)(b2:rSl aC L x1.Store.Turns ∈ rs)(R:rSl kS J x1.Gone ∈ rs){r:Bool}(m:eE x1=some r) :
    Cf 52 [.agg (aN x1 I K L J).toArray] w λv w'=>.bool r=v/\Sep w' (Fo) (rs):=by
 unfold eE at m;refine ent func52 z ntmps52 z z λa E=>sq<|bx E H z λg w a H E=>pr 1 E z λa E=>nx<|pn 1 E z λa E=>wS<|sq<|pr 1 E z λa E=>lb2 E H 0 U26 z λa E=>lS E H S U26 z λa E=>pn 1 E z λa E=>wB<|bF (λP a w=>∃ T N,Jn 154 a w [(1,pt g 0),(3,.int .i64 T),(10,I),(11,.int .i64 (x1.Pieces.length:Int)),(12,.int .i64 N)] (Blk g 37 (aN x1 I K L J)::Fo) rs (gF x1 P T N=some r)) (((x1.Pieces.length:Int) - 0:Int).toNat+1) ?_ ?_
 ·exact X3 ⟨E.to z,H,Y0,m⟩
 ·clear E H m;rintro P a w ⟨T,N,c3,E,H,k,m⟩;cases P with
  | zero=>exact (bD m z).elim
  | succ P=>
   unfold gF at m;refine sq<|pn 1 E z λa E=>wS<|wif E m z (λm=>?_) λm=>?_
   ·refine wK<|aA<|wS<|wB<|sq<|bd m λU b4 m=>dC E H (wn z) z z z z z (k _ S) U26 Z2 b4 λq17 a H E=>ldf F6 E H z z z z z m0 U99 z Z2 λa E=>al2 E H z CG λb3 w a H E=>ss 0 E H z Z2 z λw H=>nt<|wS<|aL (λa w=>∃ V,Jn 154 a w [(1,pt g 0),(5,pt b3 0),(10,I),(11,.int .i64 (x1.Pieces.length:Int)),(12,.int .i64 N),(36,.bool V)] (Blk g 37 (aN x1 I K L J)::Blk b3 99 (Nw U)::Fo) rs (oY (gF x1 P) U N V=some r)) ?_ ?_
    ·refine wG<|pr 1 E z λa E=>lb2 E H 0 U3 z λa E=>pr 3 E z λa E=>cs m (λy m=>?_) λy m=>?_
     ·exact pk 16 E (kc 20 z y) z λa E=>nt<|have H:=H.frs [0,1] z;⟨_,_,E.to z,H,(Y1 k),m⟩
     refine pk 1 E (kc 20 z y) z λa E=>gl 20 E H 0 y U3 z λa E=>pk 3 E (kc 20 z y) z λa E=>cs m (λl m=>?_) λl m=>?_
     ·exact pk 11 E (kc 25 z l) z λa E=>nt<|have H:=H.frs [0,1] z;⟨_,_,E.to z,H,(Y1 k),m⟩
     refine pk 1 E (kc 25 z l) z λa E=>gv 25 E l z (zQ (i:=0) (us:=(cB U.Part)) E H z z z z U97 z mR) λa E=>bd m λc9 b5 m=>gc 25 E l z (cf_ 121) (Rn H b5)<|?_;rintro _ w ⟨rfl,H⟩ a E;refine pk 3 E (kc 25 z l) z λa E=>cs m (λA m=>?_) λA m=>?_
     ·exact pk 5 E (kc 31 z A) z λa E=>nt<|have H:=H.frs [0,1] z;⟨_,_,E.to z,H,(Y1 k),m⟩
     exact pk 2 E (kc 31 z A) z λa E=>gl 31 E H 0 A U2 z λa E=>pk 2 E (kc 31 z A) z λa E=>nt<|have H:=H.frs [0,1] z;⟨_,_,E.to z,H,(Y1 k),m⟩
    clear E H m;rintro a w ⟨V,c4,E,H,W,m⟩;unfold oY at m;refine wif E m z (λm=>?_) λm=>?_
    ·refine sq<|pn 1 E z λa E=>wR<|aH<|bJ<|aH<|aH<|bJ<|aH<|o1 E z<|have H:=H.drs [0,0];?_;cases m;exact ⟨z,H.reads W⟩
    exact wK<|aA<|wG<|pr 1 E z λa E=>lb2 E H 1 U3 z λa E=>pr 1 E z λa E=>wN<|bM<|aA<|wG<|pn 2 E z λa E=>have H:=H.drop 1;⟨P,nL P,X3 ⟨E.to z,H,W,m⟩⟩
   ·refine wX<|aT<|aT<|cL<|aA<|wS<|sp 1 E z λa E=>lb2 E H 0 U33 z λa E=>lS E H (k _ R) U33 z λa E=>pn 1 E z λa E=>wB<|bF (λQ a w=>∃ O,Jn 154 a w [(1,pt g 0),(41,J),(42,.int .i64 (x1.Gone.length:Int)),(43,.int .i64 O)] (Blk g 37 (aN x1 I K L J)::Fo) rs (eV x1 Q O=some r)) (((x1.Gone.length:Int) - 0:Int).toNat+1) ?_ ?_
    ·exact ⟨_,_,E.to z,H,k,m⟩
    ·clear E H m;rintro Q a w ⟨O,c5,E,H,c,m⟩;cases Q with
     | zero=>exact (bD m z).elim
     | succ Q=>
      unfold eV at m;refine sq<|pn 1 E z λa E=>wS<|wif E m z (λm=>?_) λm=>?_
      ·refine wK<|aA<|wS<|wB<|sp 1 E z λa E=>bd m λd0 b6 m=>dC E H (wn z) z z z z z (c _ R) U33 sz9 b6 λq32 a H E=>sv2 E z (oO E H z z m0 U9 z) λa E=>pn 2 E z λa E=>aL (λa w=>∃ X,Jn 154 a w [(1,pt g 0),(41,J),(42,.int .i64 (x1.Gone.length:Int)),(43,.int .i64 O),(72,.bool X)] (Blk g 37 (aN x1 I K L J)::Fo) rs (oZ (eV x1 Q) O X=some r)) ?_ ?_
       ·refine wG<|pr 2 E z λa E=>lb2 E H 0 U9 z λa E=>bd m λd1 b7 m=>xk2 E z (cf_ 65) (Kx H b7) λw H a E=>pr 2 E z λa E=>cs m (λB m=>?_) λB m=>?_
        ·exact pk 19 E (kc 53 z B) z λa E=>nt<|⟨_,_,E.to z,H,(Y1 c),m⟩
        refine pk 2 E (kc 53 z B) z λa E=>gl 53 E H 0 B U9 z λa E=>pk 3 E (kc 53 z B) z λa E=>cs m (λC m=>?_) λC m=>?_
        ·exact pk 13 E (kc 59 z C) z λa E=>nt<|⟨_,_,E.to z,H,(Y1 c),m⟩
        refine pk 3 E (kc 59 z C) z λa E=>cs m (λj m=>?_) λj m=>?_
        ·exact pk 1 E (kc 62 z j) z λa E=>gl 62 E H 0 j U33 z λa E=>pk 2 E (kc 62 z j) z λa E=>bd m λd2 b8 m=>dC E H (ws' (d:=62) E z z z z j) z z z z z (t1 (c _ R)) U33 sz9 b8 λq43 a H E=>gv 62 E j z (oO E H z z m0 U9 z) λa E=>pk 4 E (kc' (kc 62 z j) 59 z C) z λa E=>nt<|⟨_,_,E.to z,H,(Y2 c),m⟩
        exact pk 10 E (kc' (kc 62 z j) 59 z C) z λa E=>nt<|⟨_,_,E.to z,H,(Y1 c),m⟩
       clear E H m;rintro a w ⟨X,c6,E,H,Y,m⟩;unfold oZ at m;refine wif E m z (λm=>?_) λm=>?_
       ·refine sq<|pn 1 E z λa E=>wR<|bJ<|aH<|aH<|bJ<|aH<|o1 E z<|have H:=H.drop 0;?_;cases m;exact ⟨z,H.reads Y⟩
       exact wK<|bM<|aA<|wG<|pn 2 E z λa E=>⟨Q,nL Q,_,_,E.to z,H,Y,m⟩
      ·refine wX<|aT<|aT<|cL<|aA<|aL (λa w=>∃ Z,Jn 154 a w [(1,pt g 0),(8,.bool Z)] (Blk g 37 (aN x1 I K L J)::Fo) rs (eU x1 Z=some r)) ?_ ?_
       ·refine wG<|pr 1 E z λa E=>lb2 E H 0 U3 z λa E=>pr 2 E z λa E=>cs m (λD m=>?_) λD m=>?_
        ·refine pk 1 E (kc 77 z D) z λa E=>gl 77 E H 0 D U3 z λa E=>pk 3 E (kc 77 z D) z λa E=>cs m (λF m=>?_) λF m=>?_
         ·refine pk 1 E (kc 82 z F) z λa E=>gl 82 E H 0 F U3 z λa E=>pk 3 E (kc 82 z F) z λa E=>cs m (λG m=>?_) λG m=>?_
          ·refine pk 1 E (kc 87 z G) z λa E=>gl 87 E H 0 G U3 z λa E=>pk 3 E (kc 87 z G) z λa E=>cs m (λn m=>?_) λn m=>?_
           ·exact pk 1 E (kc 92 z n) z λa E=>gl 92 E H 0 n U26 z λa E=>gv 92 E n z (xO E H z z (c _ S) U26) λa E=>pk 3 E (kc 92 z n) z λa E=>nt<|⟨_,_,E.to z,H,c,m⟩
           exact pk 6 E (kc 92 z n) z λa E=>nt<|⟨_,_,E.to z,H,c,m⟩
          exact pk 11 E (kc 87 z G) z λa E=>nt<|⟨_,_,E.to z,H,c,m⟩
         exact pk 16 E (kc 82 z F) z λa E=>nt<|⟨_,_,E.to z,H,c,m⟩
        exact pk 21 E (kc 77 z D) z λa E=>nt<|⟨_,_,E.to z,H,c,m⟩
       ·clear E H m;rintro a w ⟨Z,c7,E,H,M,m⟩;unfold eU at m;refine aL (λa w=>∃ b0,Jn 154 a w [(1,pt g 0),(8,.bool b0)] (Blk g 37 (aN x1 I K L J)::Fo) rs (iL x1 b0=some r)) ?_ ?_
        ·refine wG<|pr 2 E z λa E=>cs m (λb m=>?_) λb m=>?_
         ·refine pk 1 E (kc 99 z b) z λa E=>gl 99 E H 0 b U2 z λa E=>pk 1 E (kc 99 z b) z λa E=>gl 99 E H 0 b U2 z λa E=>pk 1 E (kc 99 z b) z λa E=>gl 99 E H 0 b U2 z λa E=>pk 1 E (kc 99 z b) z λa E=>gl 99 E H 0 b U2 z λa E=>pk 2 E (kc 99 z b) z λa E=>gl 99 E H 0 b U2 z λa E=>pk 2 E (kc 99 z b) z λa E=>gl 99 E H 0 b U2 z λa E=>kH (e:=2) (d:=(kI .i64)) (cs:=[.int .i64 x1.Id,.int .i64 x1.Txn,.int .i64 x1.Age,.int .i64 x1.Epoch,.int .i64 x1.Watch.Session,.int .i64 x1.Watch.Num]) (xs:=[x1.Id,x1.Txn,x1.Age,x1.Epoch,x1.Watch.Session,x1.Watch.Num]) E H (ws' (d:=99) E z z z z b) z z z (E.evs z) (by kernel_rfl) z z (λok hr=>(Rows.append (Rows.append (Rows.append (Rows.append (Rows.append (Rows.single (d:=(kI .i64)) (cs:=[.int .i64 x1.Id]) (x:=x1.Id) z) (Rows.single (d:=(kI .i64)) (cs:=[.int .i64 x1.Txn]) (x:=x1.Txn) z)) (Rows.single (d:=(kI .i64)) (cs:=[.int .i64 x1.Age]) (x:=x1.Age) z)) (Rows.single (d:=(kI .i64)) (cs:=[.int .i64 x1.Epoch]) (x:=x1.Epoch) z)) (Rows.single (d:=(kI .i64)) (cs:=[.int .i64 x1.Watch.Session]) (x:=x1.Watch.Session) z)) (Rows.single (d:=(kI .i64)) (cs:=[.int .i64 x1.Watch.Num]) (x:=x1.Watch.Num) z))) λd3 w a H E=>have H:=H.thaw (i:=0) z;bd m λd4 b9 m=>gc 99 E b z (cf_ 122) (Pk H m0 b9)<|?_;rintro _ w ⟨rfl,H⟩ a E;refine pk 2 E (kc 99 z b) z λa E=>cs m (λo m=>?_) λo m=>?_
          ·refine pk 1 E (kc 117 z o) z λa E=>gl 117 E H 0 o U9 z λa E=>bd m λd5 c0 m=>gc 117 E o z (cf_ 123) (Eo H c0)<|?_;rintro _ w ⟨rfl,H⟩ a E;refine pk 2 E (kc 117 z o) z λa E=>cs m (λp m=>?_) λp m=>?_
           ·refine pk 2 E (kc 122 z p) z λa E=>gl 122 E H 0 p U9 z λa E=>bd m λd6 c1 m=>gc 122 E p z (cf_ 123) (Eo H c1)<|?_;rintro _ w ⟨rfl,H⟩ a E;exact pk 2 E (kc 122 z p) z λa E=>nt<|⟨_,_,E.to z,H,(Y1 M),m⟩
           exact pk 6 E (kc 122 z p) z λa E=>nt<|⟨_,_,E.to z,H,(Y1 M),m⟩
          exact pk 11 E (kc 117 z o) z λa E=>nt<|⟨_,_,E.to z,H,(Y1 M),m⟩
         exact pk 29 E (kc 99 z b) z λa E=>nt<|⟨_,_,E.to z,H,M,m⟩
        ·clear E H m;rintro a w ⟨b0,c8,E,H,f,m⟩;unfold iL at m;refine sp 2 E z λa E=>cs m (λq m=>?_) λq m=>?_
         ·refine pk 1 E (kc 129 z q) z λa E=>gl 129 E H 0 q U33 z λa E=>gv 129 E q z (xO E H z z (f _ R) U33) λa E=>pk 3 E (kc 129 z q) z λa E=>cs m (λs m=>?_) λs m=>?_
          ·refine pk 1 E (kc 135 z s) z λa E=>gv 135 E s z (zQ (i:=0) (us:=[K,L]) E H z z z z U25 z cY) λa E=>bd m λd7 c2 m=>gc 135 E s z (cf_ 37) (Z7 H (f _ b1) (f _ b2) c2)<|?_;rintro _ w ⟨rfl,H⟩ a E;refine pk 2 E (kc 135 z s) z λa E=>cs m (λt m=>?_) λt m=>?_
           ·refine pk 2 E (kc 140 z t) z λa E=>gl 140 E H 0 t U22 z λa E=>gv 140 E t z (xO E H z z (f _ b1) U22) λa E=>pk 3 E (kc 140 z t) z λa E=>cs m (λu m=>?_) λu m=>?_
            ·refine pk 2 E (kc 147 z u) z λa E=>gl 147 E H 0 u U23 z λa E=>gv 147 E u z (xO E H z z (f _ b2) U23) λa E=>pk 3 E (kc 147 z u) z λa E=>nt<|wR<|o1 E z<|have H:=H.drop 0;?_;cases m;exact ⟨z,H.reads f⟩
            refine pk 7 E (kc 147 z u) z λa E=>nt<|wR<|o1 E z<|have H:=H.drop 0;?_;cases m;exact ⟨z,H.reads f⟩
           refine pk 14 E (kc 140 z t) z λa E=>nt<|wR<|o1 E z<|have H:=H.drop 0;?_;cases m;exact ⟨z,H.reads f⟩
          refine pk 19 E (kc 135 z s) z λa E=>nt<|wR<|o1 E z<|have H:=H.drop 0;?_;cases m;exact ⟨z,H.reads f⟩
         ·refine pk 25 E (kc 129 z q) z λa E=>nt<|wR<|o1 E z<|have H:=H.drop 0;?_;cases m;exact ⟨z,H.reads f⟩

def dK(x1:Int):Option aW:=
  some ((⟨x1,0,false,0,[],(⟨[],[]⟩:aK),[],[],[]⟩:aW))
theorem eW{x1:Int}(H:Sep w (Fo) rs){r:aW}(m:dK x1=some r) :
    Cf 53 [.int .i64 x1] w λv w'=>∃ b c d e f g,.agg (aS r b c d e f g).toArray=v/\Sep w' (Fo) (rSl aX b r.Results::rSl aB c r.Store.Nodes::rSl aC d r.Store.Turns::rSl aQ e r.Events::rSl bB f r.Mounts::rSl (kI .i64) g r.Wounded::rs):=by
 unfold dK at m;refine ent func53 z ntmps53 z z λa E=>sq<|al2 E H z lB λi w a H E=>xp 1 E z λa E=>sv2 E z (cN E z (E.evs z) (v:=.agg #[.int .i64 x1,.int .i64 0,.bool false,.int .i64 0,nS,nS,nS,nS,nS,nS]) (by kernel_rfl)) λa E=>ss 0 E H z bR z λw H=>nt<|wR<|oB 0 [.int .i64 x1,.int .i64 0,.bool false,.int .i64 0,nS,nS,nS,nS,nS,nS] E H U48 z bR<|have H:=H.nilSl aX;have H:=H.nilSl aB;have H:=H.nilSl aC;have H:=H.nilSl aQ;have H:=H.nilSl bB;have H:=H.nilSl (kI .i64);have H:=H.drop 0;?_;cases m;exact X6 ⟨z,H.rdx [5,4,3,2,1,0] z (λr hr=>(t6 hr))⟩

def pY(x20:aI)(b:kO):Option CO:=
  (Vq (kyI .i64) b x20.Txn vW).bind λc=>some (c,b)
def uD(x20:aI)(b:List lN)(c:Bool):Option CO:=
  if (!c)=true then (if ((b.length:Int) == 128)=true then ((dK 2).bind λd=>some (d,b)) else ((mpt (kyI .i64) b x20.Txn (⟨0,0,x20.Yes,x20.Epoch,[],(⟨[],[]⟩:aK),[],[],[]⟩:aW)).bind λe=>pY x20 e)) else (pY x20 b)
def tK(b:List lN)(x20:aI):Option CO:=
  (Q5 (kyI .i64) b x20.Txn vW).bind λc=>uD x20 b c.2
theorem Hw{d b:Nat}{x:List lN}{x20:aI}{p q s t e f g j k l n o:VL}(H:Sep w (Blk d 87 [e,f,g,j,k,l,n,o,.map (some b)]::bX Tryz.prog 2 (kyI .i64) bC true b x::Fo) rs){r:aW×kO}(m:tK x x20=some r) :
    Cf 45 [pt d 0,.agg (aN x20 p q s t).toArray] w λv w'=>∃ J L M N O P,.agg (aS r.1 J L M N O P).toArray=v/\Sep w' (Blk d 87 [e,f,g,j,k,l,n,o,.map (some b)]::bX Tryz.prog 2 (kyI .i64) bC true b r.2::Fo) (rSl aX J r.1.Results::rSl aB L r.1.Store.Nodes::rSl aC M r.1.Store.Turns::rSl aQ N r.1.Events::rSl bB O r.1.Mounts::rSl (kI .i64) P r.1.Wounded::rs):=by
 unfold tK at m;refine ent func45 z ntmps45 z z λa E=>sq<|bx E H z λc w a H E=>al2 E H z lB λy w a H E=>nt<|aL (λa w=>∃ A,Jn 44 a w [(0,pt d 0),(3,pt c 0),(4,pt y 0)] (Blk d 87 [e,f,g,j,k,l,n,o,.map (some b)]::Blk c 37 (aN x20 p q s t)::Blk y 48 bH::bX Tryz.prog 2 (kyI .i64) bC true b A::Fo) rs (pY x20 A=some r)) ?_ ?_
 ·refine aL (λa w=>∃ B,Jn 44 a w [(0,pt d 0),(3,pt c 0),(4,pt y 0),(6,.bool B)] (Blk d 87 [e,f,g,j,k,l,n,o,.map (some b)]::Blk c 37 (aN x20 p q s t)::Blk y 48 bH::bX Tryz.prog 2 (kyI .i64) bC true b x::Fo) rs (uD x20 x B=some r)) ?_ ?_
  ·refine bd m λc4 C m=>?_;have hI:dN [Blk c 37 (aN x20 p q s t),Blk d 87 [e,f,g,j,k,l,n,o,.map (some b)]] [] { w with drawn:=w.drawn+1 }:=⟨_,_,H.kept (Kp.drawn _ w _),(aV mm1 (aV mm2 (bQ))),(bT)⟩
   refine qJ _ (.go 0 0 (.go 1 0 (.go 2 0 (.go 3 0 (.go 4 0 (.go 5 0 (.alt 6 (.go 7 0 (.go 8 0 (.go 9 0 (.go 10 1 (.go 11 1 (.go 12 2 .nil)))))) 10 (.go 6 1 (.go 7 0 (.go 8 0 (.go 9 0 (.go 11 1 (.go 12 2 .nil))))))))))))) [12] qS (by kernel_rfl) (λ_ _ _ h=>False.elim h.2) hI<|have H:=H.kept (Kp.drawn _ w (w.drawn+1));?_;generalize ({ w with drawn:=w.drawn+1 }:WD)=w at H hI ⊢
   replace hI:∃ W,dN [Blk c 37 (aN x20 p q s t),Blk d 87 [e,f,g,j,k,l,n,o,.map (some b)]] [] W:=⟨_,hI⟩
   obtain ⟨W0,hI⟩:=hI;refine om E z λa E=>ov E z (λw hW=>(F2 E z z)) λa E=>ov E z (λw hW=>oR E z z (v:=pt d 8) (EY _ _)) λa E=>ol E mm1 U84 z λa E=>ov E z (λw hW=>oR E z z (v:=pt c 2) (Qy _ _)) λa E=>ol E m0 U2 z λa E=>rD z z ?_ ?_
   ·refine tD (i:=3) (K:=(kyI .i64)) E H (wn z) z z z z z z (fV U2) U84 Z3 Dl C λc5 a H E=>?_;obtain ⟨c6,c7,c8,c9,d0,d1,rfl,h⟩:=oU H;clear H;have H:=h;refine nt<|⟨sx H [1,2] z,om E z λa E=>ox E z λa E=>ox E z λa E=>cO z<|al2 E H z lB λd2 w a H E=>nt<|⟨sx H [2,3] z,cO z<|ss 0 E H z bR (aZ H mm5 mm4 mm3 mm2 mm1 m0) λw H=>nt<|⟨sx H [2,3] z,dF z<|pn 1 E z λa E=>fK<|?_⟩⟩⟩
    clear hI;exact aA<|have H:=H.drop 0;have H:=H.frs [3,1,2,3] z;⟨_,_,E.to z,H,(Y7 Y0),m⟩
   refine al2 E H z lB λd3 w a H E=>nt<|⟨sx H [2,3] z,cO z<|tD (i:=4) (K:=(kyI .i64)) E H (wn z) z z z z z z (fV U2) U84 Z3 Dl C λb5 a H E=>?_⟩
   obtain ⟨b6,b7,b8,b9,c0,c1,rfl,h⟩:=oU H;clear H;have H:=h;refine nt<|⟨sx H [2,3] z,om E z λa E=>ox E z λa E=>ox E z λa E=>cO z<|ss 0 E H z bR (aZ H mm5 mm4 mm3 mm2 mm1 m0) λw H=>nt<|⟨sx H [2,3] z,dF z<|pn 1 E z λa E=>fK<|?_⟩⟩
   clear hI;exact aA<|have H:=H.drop 0;have H:=H.frs [3,1,2,3] z;⟨_,_,E.to z,H,(Y7 Y0),m⟩
  clear E H m;rintro a w ⟨B,c2,E,H,u,m⟩;unfold uD at m;refine sq<|pn 2 E z λa E=>wif E m z (λm=>?_) λm=>?_
  ·refine wS<|sp 3 E z λa E=>lb2 E H 0 U84 z λa E=>sv2 E z (Bs (i:=3) E H z z z U84) λa E=>pn 1 E z λa E=>wif E m z (λm=>?_) λm=>?_
   ·refine sq<|bd m λQ D m=>xc2 E z (cf_ 53) (eW H D)<|?_;rintro _ w ⟨R,S,T,U,V,X,rfl,H⟩ a E;refine ss 2 E H z bR (aZ H m0 mm1 mm2 mm3 mm4 mm5) λw H=>nt<|wR<|aH<|aH<|oB 2 (aS Q R S T U V X) E H U48 z bR<|have H:=H.drs [1,1];?_;cases m;exact X6 ⟨z,H.rdx [0,1,2,3,4,5] z (λr hr=>(t6 (u r hr)))⟩
   refine wK<|aA<|dz [0,0,0,0,0,0,0,0,0,0,0,2] [0,1] H λw W0 hI H=>fn 3 E z λa E=>fb2 E m0 U84 z λa E=>fn 1 E z λa E=>fb2 E mm1 U2 z λa E=>fn 1 E z λa E=>fb2 E mm1 U4 z λa E=>fn 1 E z λa E=>fb2 E mm1 U2 z λa E=>fv E z (λw hW=>(cN E z (E.evs z) (v:=.agg #[.int .i64 0,.int .i64 0,.bool x20.Yes,.int .i64 x20.Epoch,nS,nS,nS,nS,nS,nS]) (by kernel_rfl))) λa E=>bK z<|bd m λd4 F m=>Ar (i:=3) (K:=(kyI .i64)) (v:=(⟨0,0,x20.Yes,x20.Epoch,[],(⟨[],[]⟩:aK),[],[],[]⟩:aW)) (cs:=[.int .i64 0,.int .i64 0,.bool x20.Yes,.int .i64 x20.Epoch,nS,nS,nS,nS,nS,nS]) E H (wn z) z z z z z z (fV U2) U84 F (λok hr=>(tE (Sl.nil _ _ _) (Sl.nil _ _ _) (Sl.nil _ _ _) (Sl.nil _ _ _) (Sl.nil _ _ _) (Sl.nil _ _ _))) λw H=>nt<|bG<|?_;clear hI;exact aA<|⟨_,_,E.to z,H,u,m⟩
  exact wK<|aA<|⟨_,_,E.to z,H,u,m⟩
 ·clear E H m;rintro a w ⟨A,c3,E,H,G,m⟩;unfold pY at m;refine wS<|dz [0,0,0,0,0,0,1,2] [0,1] H λw W0 hI H=>fn 3 E z λa E=>fb2 E m0 U84 z λa E=>fn 1 E z λa E=>fb2 E mm1 U2 z λa E=>bW z<|bd m λY I m=>EN (i:=3) (K:=(kyI .i64)) E H (wn z) z z z z z z (fV U2) U84 Z3 Dl I λd5 a H E=>?_;obtain ⟨Z,b0,b1,b2,b3,b4,rfl,h⟩:=oU H;clear H;have H:=h;refine nt<|⟨sx H [0,1] z,bK z<|ss 2 E H z bR (aZ H mm5 mm4 mm3 mm2 mm1 m0) λw H=>nt<|bG<|?_⟩
  clear hI;refine aA<|wR<|oB 2 (aS Y Z b0 b1 b2 b3 b4) E H U48 z bR<|have H:=H.drs [1,1];?_;cases m;exact X6 ⟨z,H.rdx [5,4,3,2,1,0] z (λr hr=>(t7 (G r hr)))⟩

def zM(e:BY)(b:List aF)(f:BY):Option Bool:=
  (mT b e).bind λc=>if (decide (c ≥ 0))=true then ((idx b c).bind λd=>some (sEq d.Prefix f)) else (some (false))
theorem Iz{p e:BY}{f g:Nat}{i:VL}{q:List aF}(H:Sep w (Blk f 32 [i]::Blk g 9 [.string e]::Fo) rs)(c:rSl aO i q ∈ rs){r:Bool}(m:zM p q e=some r) :
    Cf 177 [.string p,pt f 0,pt g 0] w λv w'=>.bool r=v/\Sep w' (Blk f 32 [i]::Blk g 9 [.string e]::Fo) (rs):=by
 unfold zM at m;refine ent func177 z ntmps177 z z λa E=>sp 1 E z λa E=>nx<|lb2 E H 0 U32 z λa E=>pr 1 E z λa E=>bd m λy s m=>xk2 E z (cf_ 24) (F9 H c s) λw H a E=>pr 1 E z λa E=>nt<|wS<|?_;obtain ⟨t,H⟩:=H.raw c;refine dw [(0,0),(1,0),(2,0),(3,0),(4,0),(5,0),(6,0),(7,0),(8,0),(9,0),(10,0),(11,2)] [0,1] [0] H (by kernel_rfl) (λ_ _ _ h=>False.elim h.2) λw W0 hI H=>fn 3 E z λa E=>cs m (λb m=>?_) λb m=>?_
 ·refine fb E z (ws' (d:=11) E z z z z b) z z z z m0 z U32 z λa E=>fk 1 E (kc 11 z b) z λa E=>bd m λu j m=>?_;obtain ⟨q14,x,l,n⟩:=gD (P:=Tryz.prog) (k:=.i64) hI (gC (.head _)) U32 lA j;refine dV E z (ws' (d:=11) E z z z z b) z z (λw hW=>iO E z z z (l w)) λa E=>?_;have o:=tC n (λ_ _ _ h=>wZ h);refine fk 1 E (kc 11 z b) z λa E=>fa E z (ws' (d:=11) E z z z z b) z z z z o U9 z λa E=>fb E z (ws' (d:=11) E z z z z b) z z z z mm1 z U9 z λa E=>fk 2 E (kc 11 z b) z λa E=>bK z<|pn 1 E z λa E=>bG<|?_;clear hI;refine aA<|wR<|o1 E z<|?_;cases m;exact ⟨z,H.reads (Y1 Y0)⟩
 ·refine fk 8 E (kc 11 z b) z λa E=>bK z<|pn 1 E z λa E=>bG<|?_;clear hI;refine aA<|wR<|o1 E z<|?_;cases m;exact ⟨z,H.reads (Y1 Y0)⟩

def yY(d:List aF)(e:BY)(b:BY):Option Bool:=
  (zM b d e).bind λc=>some (c)
def I6(x1:aG)(c:List aF)(d:BY):Option Bool:=
  (tZ x1.Path).bind λb=>if (!b.2)=true then (yY c d (ByteArray.mk #[47])) else (yY c d b.1)
theorem Vi{x1:aG}{d b c:Nat}{i:VL}{j:List aF}{e:BY}(H:Sep w (Blk d 122 [.func (.func 177) #[] #[pt b 0,pt c 0]]::Blk b 32 [i]::Blk c 9 [.string e]::Fo) rs)(n:rSl aO i j ∈ rs){r:Bool}(m:I6 x1 j e=some r) :
    Cf 179 [.agg (nT x1).toArray,pt d 0] w λv w'=>.bool r=v/\Sep w' (Blk d 122 [.func (.func 177) #[] #[pt b 0,pt c 0]]::Blk b 32 [i]::Blk c 9 [.string e]::Fo) (rs):=by
 unfold I6 at m;refine ent func179 z ntmps179 z z λa E=>sq<|bx E H z λs w a H E=>pr 1 E z λa E=>xp 1 E z λa E=>lb2 E H 0 U9 z λa E=>bd m λp k m=>xk2 E z (cf_ 180) (R9 H k) λw H a E=>pn 5 E z λa E=>aL (λa w=>∃ f,Jn 17 a w [(1,pt d 0),(4,.string f)] (Blk d 122 [.func (.func 177) #[] #[pt b 0,pt c 0]]::Blk b 32 [i]::Blk c 9 [.string e]::Fo) rs (yY j e f=some r)) ?_ ?_
 ·refine sq<|pn 2 E z λa E=>wif E m z (λm=>?_) λm=>?_
  ·exact wG<|pn 1 E z λa E=>have H:=H.drop 0;⟨_,_,E.to z,H,Y0,m⟩
  exact wK<|aA<|have H:=H.drop 0;⟨_,_,E.to z,H,Y0,m⟩
 ·clear E H m;rintro a w ⟨f,o,E,H,g,m⟩;unfold yY at m;refine sq<|lb2 E H 0 QC z λa E=>pr 1 E z λa E=>have H:=H.frs [0,2,2] z;bd m λq l m=>bI E (wn z) z z (bO E z z z ((cf_ 177) _)) (Iz H (g _ n) l)<|?_;rintro _ w ⟨rfl,H⟩ a E;refine pn 1 E z λa E=>wR<|o1 E z<|have H:=H.frs [1,1,2] z;?_;cases m;exact ⟨z,H.reads g⟩

def mZ(rec_1:dL->dL->Int->Option Wc)(b:Int)(c:dL)(d:dL):Option Wc:=
  rec_1 c d (IntKind.i64.wrap (b+1))
def fB(f:List aG)(g:List aF)(i:BY):Nat->dL->dL->Int->Option Wc
  | 0,_,_,_=>none
  | j+1,c,d,e=>
    if (decide (e < (f.length:Int)))=true then ((idx f e).bind λb=>(I6 b g i).bind λk=>if k=true then ((ck (c.length+([b]:List aG).length <= LIM)).bind λl=>mZ (fB f g i j) e (c ++ ([b]:List aG)) d) else ((ck (d.length+([b]:List aG).length <= LIM)).bind λm=>mZ (fB f g i j) e c (d ++ ([b]:List aG)))) else (some (c,d))
def pZ(b:List aG)(c:List aF)(d:BY):Option Wc:=
  fB b c d (((b.length:Int) - 0:Int).toNat+1) [] [] 0
theorem Du{D p:VL}{k:List aG}{l f g:Nat}{F:List aF}{n:BY}(H:Sep w (Blk l 122 [.func (.func 177) #[] #[pt f 0,pt g 0]]::Blk f 32 [p]::Blk g 9 [.string n]::Fo) rs)(G:rSl aB D k ∈ rs)(I:rSl aO p F ∈ rs){r:dL×dL}(m:pZ k F n=some r) :
    Cf 178 [D,.func (.func 179) #[] #[pt l 0]] w λv w'=>∃ O P,.tuple #[O,P]=v/\Sep w' (Row 107 aB O r.1::Row 107 aB P r.2::Blk l 122 [.func (.func 177) #[] #[pt f 0,pt g 0]]::Blk f 32 [p]::Blk g 9 [.string n]::Fo) (rs):=by
 unfold pZ at m;refine ent func178 z ntmps178 z z λa E=>sp 2 E z λa E=>nx<|pn 2 E z λa E=>wS<|sp 1 E z λa E=>lS E H G U22 z λa E=>pn 1 E z λa E=>wB<|bF (λo a w=>∃ q s t u j,Jn 30 a w [(1,.func (.func 179) #[] #[pt l 0]),(6,q),(7,s),(10,D),(11,.int .i64 (k.length:Int)),(12,.int .i64 j)] (Blk l 122 [.func (.func 177) #[] #[pt f 0,pt g 0]]::Row 107 aB q t::Row 107 aB s u::Blk f 32 [p]::Blk g 9 [.string n]::Fo) rs (fB k F n o t u j=some r)) (((k.length:Int) - 0:Int).toNat+1) ?_ ?_
 ·exact have H:=H.nilRow 107 aB;have H:=H.nilRow 107 aB;have H:=H.frs [4,4,2,3,4] z;X6 ⟨E.to z,H,Y0,m⟩
 ·clear E H m;rintro o a w ⟨q,s,t,u,j,Q,E,H,c,m⟩;cases o with
  | zero=>exact (bD m z).elim
  | succ o=>
   unfold fB at m;refine sq<|pn 1 E z λa E=>wS<|wif E m z (λm=>?_) λm=>?_
   ·refine wK<|aA<|aL (λa w=>∃ y A B C,Jn 30 a w [(1,.func (.func 179) #[] #[pt l 0]),(6,y),(7,A),(10,D),(11,.int .i64 (k.length:Int)),(12,.int .i64 j)] (Blk l 122 [.func (.func 177) #[] #[pt f 0,pt g 0]]::Row 107 aB y B::Row 107 aB A C::Blk f 32 [p]::Blk g 9 [.string n]::Fo) rs (mZ (fB k F n o) j B C=some r)) ?_ ?_
    ·refine wB<|sq<|bd m λb J m=>dC E H (wn z) z z z z z (c _ G) U22 gM J λq26 a H E=>ldf cM E H z z z z z m0 w6 z gM λa E=>al2 E H z CM λS w a H E=>ss 0 E H z gM z λw H=>xp 1 E z λa E=>ln 0 (nT b) E H w6 z gM λa E=>have H:=H.frs [3,3,2,5,5,5] z;bd m λT K m=>bI E (wn z) z z (bO E z z z ((cf_ 179) _)) (Vi H (t1 (c _ I)) K)<|?_;rintro _ w ⟨rfl,H⟩ a E;refine nt<|wif E m z (λm=>?_) λm=>?_
     ·exact wG<|pr 1 E z λa E=>ln 3 (nT b) E H w6 z gM λa E=>sD (e:=107) (d:=aB) (cs:=[.string b.Path,.string b.Data,.int .i64 b.Version,.int .i64 b.Turn,.int .i64 b.Owner]) (xs:=[b]) E H (wn z) z z z (E.evs z) (by kernel_rfl) z (λok hr=>(Rows.single (d:=aB) (cs:=[.string b.Path,.string b.Data,.int .i64 b.Version,.int .i64 b.Turn,.int .i64 b.Owner]) (x:=b) zG)) λU w a H E=>bk m λL m=>eF (i:=4) E H (wn z) z z z z z z (lH m0) U22 Kk z L z λV w a H E=>pr 1 E z λa E=>wN<|bM<|aA<|have H:=H.drop 3;have H:=H.frs [2,2,4,4,4] z;X5 ⟨E.to z,H,(Y2 c),m⟩
     exact wG<|pr 1 E z λa E=>ln 3 (nT b) E H w6 z gM λa E=>sD (e:=107) (d:=aB) (cs:=[.string b.Path,.string b.Data,.int .i64 b.Version,.int .i64 b.Turn,.int .i64 b.Owner]) (xs:=[b]) E H (wn z) z z z (E.evs z) (by kernel_rfl) z (λok hr=>(Rows.single (d:=aB) (cs:=[.string b.Path,.string b.Data,.int .i64 b.Version,.int .i64 b.Turn,.int .i64 b.Owner]) (x:=b) zG)) λW w a H E=>bk m λM m=>eF (i:=5) E H (wn z) z z z z z z (lH m0) U22 Kk z M z λX w a H E=>pr 1 E z λa E=>wN<|bM<|aA<|have H:=H.drop 3;have H:=H.frs [2,2,4,4,4] z;X5 ⟨E.to z,H,(Y2 c),m⟩
    clear E H m;rintro a w ⟨y,A,B,C,R,E,H,N,m⟩;unfold mZ at m;exact wG<|pn 2 E z λa E=>⟨o,nL o,X6 ⟨E.to z,H,N,m⟩⟩
   ·refine wX<|aT<|aT<|cL<|aA<|sq<|pn 4 E z λa E=>wR<|hX E z z z<|have H:=H.frs [4,4,2,4,4] z;?_;cases m;exact ⟨_,_,z,H.reads c⟩

def I7(x1:aM)(c:List aF)(d:BY):Option Bool:=
  (zM x1.Dir c d).bind λb=>some (b)
theorem Vj{x1:aM}{d b c:Nat}{e:VL}{i:List aF}{f:BY}(H:Sep w (Blk d 122 [.func (.func 177) #[] #[pt b 0,pt c 0]]::Blk b 32 [e]::Blk c 9 [.string f]::Fo) rs)(j:rSl aO e i ∈ rs){r:Bool}(m:I7 x1 i f=some r) :
    Cf 182 [.agg #[.string x1.Dir,.int .i64 x1.Next],pt d 0] w λv w'=>.bool r=v/\Sep w' (Blk d 122 [.func (.func 177) #[] #[pt b 0,pt c 0]]::Blk b 32 [e]::Blk c 9 [.string f]::Fo) (rs):=by
 unfold I7 at m;refine ent func182 z ntmps182 z z λa E=>sq<|bx E H z λl w a H E=>pr 1 E z λa E=>nx<|lb2 E H 1 QC z λa E=>pr 1 E z λa E=>lb2 E H 0 U9 z λa E=>have H:=H.frs [1,1,3,3] z;bd m λk g m=>bI E (wn z) z z (bO E z z z ((cf_ 177) _)) (Iz H j g)<|?_;rintro _ w ⟨rfl,H⟩ a E;refine pn 1 E z λa E=>wR<|o1 E z<|have H:=H.drop 2;have H:=H.frs [1,1,2] z;?_;cases m;exact ⟨z,H.reads Y0⟩

def nA(rec_1:dO->dO->Int->Option Wb)(b:Int)(c:dO)(d:dO):Option Wb:=
  rec_1 c d (IntKind.i64.wrap (b+1))
def fC(f:List aM)(g:List aF)(i:BY):Nat->dO->dO->Int->Option Wb
  | 0,_,_,_=>none
  | j+1,c,d,e=>
    if (decide (e < (f.length:Int)))=true then ((idx f e).bind λb=>(I7 b g i).bind λk=>if k=true then ((ck (c.length+([b]:List aM).length <= LIM)).bind λl=>nA (fC f g i j) e (c ++ ([b]:List aM)) d) else ((ck (d.length+([b]:List aM).length <= LIM)).bind λm=>nA (fC f g i j) e c (d ++ ([b]:List aM)))) else (some (c,d))
def qA(b:List aM)(c:List aF)(d:BY):Option Wb:=
  fC b c d (((b.length:Int) - 0:Int).toNat+1) [] [] 0
theorem Dv{D p:VL}{k:List aM}{l f g:Nat}{F:List aF}{n:BY}(H:Sep w (Blk l 122 [.func (.func 177) #[] #[pt f 0,pt g 0]]::Blk f 32 [p]::Blk g 9 [.string n]::Fo) rs)(G:rSl aC D k ∈ rs)(I:rSl aO p F ∈ rs){r:dO×dO}(m:qA k F n=some r) :
    Cf 181 [D,.func (.func 182) #[] #[pt l 0]] w λv w'=>∃ O P,.tuple #[O,P]=v/\Sep w' (Row 89 aC O r.1::Row 89 aC P r.2::Blk l 122 [.func (.func 177) #[] #[pt f 0,pt g 0]]::Blk f 32 [p]::Blk g 9 [.string n]::Fo) (rs):=by
 unfold qA at m;refine ent func181 z ntmps181 z z λa E=>sp 2 E z λa E=>nx<|pn 2 E z λa E=>wS<|sp 1 E z λa E=>lS E H G U23 z λa E=>pn 1 E z λa E=>wB<|bF (λo a w=>∃ q s t u j,Jn 30 a w [(1,.func (.func 182) #[] #[pt l 0]),(6,q),(7,s),(10,D),(11,.int .i64 (k.length:Int)),(12,.int .i64 j)] (Blk l 122 [.func (.func 177) #[] #[pt f 0,pt g 0]]::Row 89 aC q t::Row 89 aC s u::Blk f 32 [p]::Blk g 9 [.string n]::Fo) rs (fC k F n o t u j=some r)) (((k.length:Int) - 0:Int).toNat+1) ?_ ?_
 ·exact have H:=H.nilRow 89 aC;have H:=H.nilRow 89 aC;have H:=H.frs [4,4,2,3,4] z;X6 ⟨E.to z,H,Y0,m⟩
 ·clear E H m;rintro o a w ⟨q,s,t,u,j,Q,E,H,c,m⟩;cases o with
  | zero=>exact (bD m z).elim
  | succ o=>
   unfold fC at m;refine sq<|pn 1 E z λa E=>wS<|wif E m z (λm=>?_) λm=>?_
   ·refine wK<|aA<|aL (λa w=>∃ y A B C,Jn 30 a w [(1,.func (.func 182) #[] #[pt l 0]),(6,y),(7,A),(10,D),(11,.int .i64 (k.length:Int)),(12,.int .i64 j)] (Blk l 122 [.func (.func 177) #[] #[pt f 0,pt g 0]]::Row 89 aC y B::Row 89 aC A C::Blk f 32 [p]::Blk g 9 [.string n]::Fo) rs (nA (fC k F n o) j B C=some r)) ?_ ?_
    ·refine wB<|sq<|bd m λb J m=>dC E H (wn z) z z z z z (c _ G) U23 rF J λq26 a H E=>ldf eD E H z z z z z m0 U89 z rF λa E=>al2 E H z UJ λS w a H E=>ss 0 E H z rF z λw H=>xp 1 E z λa E=>ln 0 [.string b.Dir,.int .i64 b.Next] E H U89 z rF λa E=>have H:=H.frs [3,3,2,5,5,5] z;bd m λT K m=>bI E (wn z) z z (bO E z z z ((cf_ 182) _)) (Vj H (t1 (c _ I)) K)<|?_;rintro _ w ⟨rfl,H⟩ a E;refine nt<|wif E m z (λm=>?_) λm=>?_
     ·exact wG<|pr 1 E z λa E=>ln 3 [.string b.Dir,.int .i64 b.Next] E H U89 z rF λa E=>sD (e:=89) (d:=aC) (cs:=[.string b.Dir,.int .i64 b.Next]) (xs:=[b]) E H (wn z) z z z (E.evs z) (by kernel_rfl) z (λok hr=>(Rows.single (d:=aC) (cs:=[.string b.Dir,.int .i64 b.Next]) (x:=b) zH)) λU w a H E=>bk m λL m=>eF (i:=4) E H (wn z) z z z z z z (lH m0) U23 Vt z L z λV w a H E=>pr 1 E z λa E=>wN<|bM<|aA<|have H:=H.drop 3;have H:=H.frs [2,2,4,4,4] z;X5 ⟨E.to z,H,(Y2 c),m⟩
     exact wG<|pr 1 E z λa E=>ln 3 [.string b.Dir,.int .i64 b.Next] E H U89 z rF λa E=>sD (e:=89) (d:=aC) (cs:=[.string b.Dir,.int .i64 b.Next]) (xs:=[b]) E H (wn z) z z z (E.evs z) (by kernel_rfl) z (λok hr=>(Rows.single (d:=aC) (cs:=[.string b.Dir,.int .i64 b.Next]) (x:=b) zH)) λW w a H E=>bk m λM m=>eF (i:=5) E H (wn z) z z z z z z (lH m0) U23 Vt z M z λX w a H E=>pr 1 E z λa E=>wN<|bM<|aA<|have H:=H.drop 3;have H:=H.frs [2,2,4,4,4] z;X5 ⟨E.to z,H,(Y2 c),m⟩
    clear E H m;rintro a w ⟨y,A,B,C,R,E,H,N,m⟩;unfold nA at m;exact wG<|pn 2 E z λa E=>⟨o,nL o,X6 ⟨E.to z,H,N,m⟩⟩
   ·refine wX<|aT<|aT<|cL<|aA<|sq<|pn 4 E z λa E=>wR<|hX E z z z<|have H:=H.frs [4,4,2,4,4] z;?_;cases m;exact ⟨_,_,z,H.reads c⟩

def D2(x1:aK)(d:List aF)(e:BY)(f:Bool):Option QX:=
  if f=true then (some ([],[],[],[])) else ((pZ x1.Nodes d e).bind λb=>(qA x1.Turns d e).bind λc=>some (b.1,c.1,b.2,c.2))
def vR(x1:aK)(b:List aF)(c:BY):Option QX:=
  (rM x1).bind λd=>if (!d)=true then (D2 x1 b c true) else ((pK b).bind λe=>D2 x1 b c (!e))
theorem pM{x1:aK}{j k L:VL}{l:List aF}{n:BY}(H:Sep w (Fo) rs)(o:rSl aB j x1.Nodes ∈ rs)(p:rSl aC k x1.Turns ∈ rs)(d:rSl aO L l ∈ rs){r:dL×dO×dL×dO}(m:vR x1 l n=some r) :
    Cf 107 [.agg #[j,k],L,.string n] w λv w'=>∃ M N O P,.tuple #[.agg #[M,N],.agg #[O,P]]=v/\Sep w' (Row 107 aB M r.1::Row 89 aC N r.2.1::Row 107 aB O r.2.2.1::Row 89 aC P r.2.2.2::Fo) (rs):=by
 unfold vR at m;refine ent func107 z ntmps107 z z λa E=>sq<|bx E H z λq w a H E=>?_;obtain ⟨q12,Q,rfl⟩:=H.slform d;refine bx E H z λs w a H E=>bx E H z λt w a H E=>al2 E H z mX λu w a H E=>al2 E H z mX λx w a H E=>nx<|al2 E H z mX λy w a H E=>al2 E H z mX λA w a H E=>nt<|wS<|aL (λa w=>∃ g,Jn 42 a w [(3,pt q 0),(4,pt s 0),(5,pt t 0),(6,pt u 0),(7,pt x 0),(8,pt y 0),(9,pt A 0),(18,.bool g)] (Blk q 25 [j,k]::Blk s 32 [(.slice q12 l.length Q)]::Blk t 9 [.string n]::Blk u 25 [nS,nS]::Blk x 25 [nS,nS]::Blk y 25 [nS,nS]::Blk A 25 [nS,nS]::Fo) rs (D2 x1 l n g=some r)) ?_ ?_
 ·refine wG<|ln 6 [j,k] E H U25 z cY λa E=>bd m λS G m=>xk2 E z (cf_ 37) (Z7 H o p G) λw H a E=>pr 2 E z λa E=>cs m (λc m=>?_) λc m=>?_
  ·exact pk 4 E (kc 14 z c) z λa E=>nt<|have H:=H.frs [0,1,2,3,4,5,6] z;⟨_,_,E.to z,H,Y0,m⟩
  refine gl 14 E H 5 c U32 z λa E=>bd m λT I m=>gc 14 E c z (cf_ 38) (I4 H d I)<|?_;rintro _ w ⟨rfl,H⟩ a E;exact pk 2 E (kc 14 z c) z λa E=>nt<|have H:=H.frs [0,1,2,3,4,5,6] z;⟨_,_,E.to z,H,Y0,m⟩
 ·clear E H m;rintro a w ⟨g,R,E,H,b,m⟩;unfold D2 at m;refine wif E m z (λm=>?_) λm=>?_
  ·refine wS<|dz [0,0,1,2] [5,6] H λw W0 hI H=>fbn E [nS,nS] z (wn z) z z z z m0 z U25 z cY λa E=>fbn E [nS,nS] z (wn z) z z z z mm1 z U25 z cY λa E=>bW z<|ss 3 E H z cY z λw H=>nt<|⟨sx H [5,6] z,bK z<|ss 4 E H z cY z λw H=>nt<|bG<|?_⟩
   clear hI;refine aA<|wR<|aH<|A9 E z (qI (i:=3) (us:=[nS,nS]) H z z z U25 z cY) (qI (i:=4) (us:=[nS,nS]) H z z z U25 z cY)<|have H:=H.nilRow 107 aB;have H:=H.nilRow 89 aC;have H:=H.nilRow 107 aB;have H:=H.nilRow 89 aC;have H:=H.drs [4,4,4,4,4,4,4];have H:=H.frs [0,1,2,3] z;?_;cases m;exact X4 ⟨z,H.reads b⟩
  ·refine wK<|aA<|sq<|sv2 E z (nR E z z z) λa E=>al1 E H z z z z TQ z λU w a H E=>ss 0 E H z TR z λw H=>xp 1 E z λa E=>lb2 E H 1 U22 z λa E=>sv2 E z (nR E z z z) λa E=>have H:=H.frs [7,7,7,7,5,7,7,7] z;bd m λe J m=>xc2 E z (cf_ 178) (Du H (b _ o) (b _ d) J)<|?_;rintro _ w ⟨V,W,rfl,H⟩ a E;refine pr 4 E z λa E=>?_;obtain ⟨q27,B,rfl⟩:=H.rowform (i:=0) z;refine ss 8 E H z Tg z λw H=>pr 1 E z λa E=>?_;obtain ⟨q29,C,rfl⟩:=H.rowform (i:=1) z;refine ss 9 E H z Tg z λw H=>xp 1 E z λa E=>lb2 E H 5 U23 z λa E=>sv2 E z (nR E z z z) λa E=>have H:=H.frs [9,9,9,9,9,6,6,9,9,9] z;bd m λf K m=>xc2 E z (cf_ 181) (Dv H (b _ p) (b _ d) K)<|?_;rintro _ w ⟨X,Y,rfl,H⟩ a E;refine pr 4 E z λa E=>?_;obtain ⟨q35,D,rfl⟩:=H.rowform (i:=0) z;refine ss 10 E H z Hn z λw H=>pr 1 E z λa E=>?_;obtain ⟨q37,F,rfl⟩:=H.rowform (i:=1) z;refine ss 11 E H z Hn z λw H=>nt<|wS<|dz [0,0,1,2] [10,11] H λw W0 hI H=>fbn E [(.slice q27 e.1.length B),(.slice q35 f.1.length D)] z (wn z) z z z z m0 z U25 z cY λa E=>fbn E [(.slice q29 e.2.length C),(.slice q37 f.2.length F)] z (wn z) z z z z mm1 z U25 z cY λa E=>bW z<|ss 8 E H z cY z λw H=>nt<|⟨⟨_,_,H,(aV (t4 mm6) (aV (t5 mm6) (bQ))),(bT)⟩,bK z<|ss 9 E H z cY z λw H=>nt<|bG<|?_⟩
   clear hI;refine aA<|wR<|A9 E z (qI (i:=8) (us:=[(.slice q27 e.1.length B),(.slice q35 f.1.length D)]) H z z z U25 z cY) (qI (i:=9) (us:=[(.slice q29 e.2.length C),(.slice q37 f.2.length F)]) H z z z U25 z cY)<|have H:=H.drs [2,2,2,4,4,4,4,4];have H:=H.frs [1,3,2,3] z;?_;cases m;exact X4 ⟨z,H.reads b⟩

def sL(b:dL)(c:dO)(d:gY):Option Ht:=
  some (b,c,d)
def wL(e:List aG)(f:List aM)(d:List aF)(x20:aI):Option Ht:=
  (C9 d x20.Prefix x20.Epoch).bind λb=>if b.2=true then ((vR (⟨e,f⟩:aK) d x20.Prefix).bind λc=>sL c.2.2.1 c.2.2.2 b.1) else (sL e f d)
theorem Kz{x:Nat}{A B M N O P Q d e f g j k:VL}{C:List aG}{D:List aM}{R:List aF}{x20:aI}(H:Sep w (Blk x 87 [A,B,M,d,e,f,g,j,k]::Fo) rs)(l:rSl aB A C ∈ rs)(n:rSl aC B D ∈ rs)(c:rSl aO M R ∈ rs){r:dL×dO×gY}(m:wL C D R x20=some r) :
    Cf 48 [pt x 0,.agg (aN x20 N O P Q).toArray] w λv w'=>∃ S T U,.agg bH.toArray=v/\Sep w' (Blk x 87 [S,T,U,d,e,f,g,j,k]::Fo) (rSl aB S r.1::rSl aC T r.2.1::rSl aO U r.2.2::rs):=by
 unfold wL at m;refine ent func48 z ntmps48 z z λa E=>sq<|bx E H z λV w a H E=>al2 E H z lB λy w a H E=>nt<|aL (λa w=>∃ o p q s t u b,Env 42 a [(4,pt y 0)]/\Sep w (Blk y 48 bH::Blk x 87 [o,p,q,d,e,f,g,j,k]::Fo) b/\(∀ r,r ∈ rs->r ∈ b)/\rSl aB o s ∈ b/\rSl aC p t ∈ b/\rSl aO q u ∈ b/\sL s t u=some r) ?_ ?_
 ·refine wS<|dz [0,0,0,0,0,0,0,0,1,0,0,0,1,2] [1,2] H λw W0 hI H=>fn 3 E z λa E=>fb2 E mm1 U32 z λa E=>fn 1 E z λa E=>fb2 E m0 U9 z λa E=>fn 1 E z λa E=>fb2 E m0 U2 z λa E=>bW z<|bd m λW F m=>xc2 E z (cf_ 116) (Xr H c F)<|?_;rintro _ w ⟨X,rfl,H⟩ a E;refine nt<|⟨sx H [2,3] z,fn 3 E z λa E=>bW z<|pn 1 E z λa E=>⟨sx H [2,3] z,bK z<|pn 1 E z λa E=>bG<|?_⟩⟩
  clear hI;refine aA<|sq<|pn 1 E z λa E=>wif E m z (λm=>?_) λm=>?_
  ·refine wS<|dz [0,0,0,0,0,0,0,0,0,0,0,1,0,0,0,2,2,2] [2,3] H λw W0 hI H=>fn 4 E z λa E=>fbn E [A,B] z (wn z) z z z z mm1 z U25 z cY λa E=>fn 3 E z λa E=>fb2 E mm1 U32 z λa E=>fn 1 E z λa E=>fb2 E m0 U9 z λa E=>bW z<|bd m λY G m=>xc2 E z (cf_ 107) (pM (x1:=(⟨C,D⟩:aK)) H l n c G)<|?_;rintro _ w ⟨Z,b0,b1,b2,rfl,H⟩ a E;refine nt<|⟨⟨_,_,H,(aV mm6 (aV (t1 mm6) (bQ))),(bT)⟩,fn 3 E z λa E=>bK z<|pn 1 E z λa E=>bK z<|pn 1 E z λa E=>bK z<|?_⟩
   obtain ⟨q60,b3,rfl⟩:=H.rowform (i:=2) z;obtain ⟨q62,b4,rfl⟩:=H.rowform (i:=3) z;refine ss 7 E H z cY z λw H=>nt<|bG<|?_;clear hI;refine aA<|wG<|pr 4 E z λa E=>?_;obtain ⟨q64,b5,rfl⟩:=H.rowform (i:=4) z;exact ss 7 E H z HP z λw H=>nt<|have H:=H.thaw (i:=2) z;have H:=H.thaw (i:=2) z;have H:=H.thaw (i:=2) z;have H:=H.drs [0,0,1];X7 ⟨E.to z,H,(Y3 Y0),mm2,mm1,m0,m⟩
  exact wK<|aA<|have H:=H.drs [0,1];X7 ⟨E.to z,H,Y0,l,n,c,m⟩
 ·clear E H m;rintro a w ⟨o,p,q,s,t,u,b,E,H,I,J,K,L,m⟩;unfold sL at m;refine sq<|sv2 E z (cN E z (E.evs z) (v:=.agg bH.toArray) (by kernel_rfl)) λa E=>ss 0 E H z bR z λw H=>nt<|wR<|Hg E z (qI (i:=0) (us:=bH) H z z z U48 z bR)<|have H:=H.drop 0;?_;cases m;exact X3 ⟨z,H.reads (aD J (aD K (aD L (I))))⟩

def vD(x1:aU)(x3:Int):Option Bool:=
  some (x1.Txn == x3)
theorem Gm{x1:aU}{b:Nat}{x3:Int}(H:Sep w (Blk b 2 [.int .i64 x3]::Fo) rs){r:Bool}(m:vD x1 x3=some r) :
    Cf 172 [.agg (vK x1).toArray,pt b 0] w λv w'=>.bool r=v/\Sep w' (Blk b 2 [.int .i64 x3]::Fo) (rs):=by
 unfold vD at m;refine ent func172 z ntmps172 z z λa E=>sq<|bx E H z λc w a H E=>pr 1 E z λa E=>xp 1 E z λa E=>lb2 E H 0 U2 z λa E=>lb2 E H 1 U2 z λa E=>pr 2 E z λa E=>nt<|wR<|o1 E z<|have H:=H.drop 0;?_;cases m;exact ⟨z,H.reads Y0⟩

def eJ(c:List aU)(d:Int):Nat->Int->Option Int
  | 0,_=>none
  | f+1,b=>
    if (decide (b < (c.length:Int)))=true then ((idx c b).bind λg=>(vD g d).bind λe=>if e=true then (some (b)) else (eJ c d f (IntKind.i64.wrap (b+1)))) else (some ((-1)))
def jG(b:List aU)(c:Int):Option Int:=
  eJ b c (((b.length:Int) - 0:Int).toNat+1) 0
theorem K3{e:VL}{b:List aU}{f:Nat}{g:Int}(H:Sep w (Row 78 bA e b::Blk f 2 [.int .i64 g]::Fo) rs){r:Int}(m:jG b g=some r) :
    Cf 154 [e,.func (.func 172) #[] #[pt f 0]] w λv w'=>.int .i64 r=v/\Sep w' (Blk f 2 [.int .i64 g]::Row 78 bA e b::Fo) (rs):=by
 unfold jG at m;refine ent func154 z ntmps154 z z λa E=>sq<|pn 1 E z λa E=>wS<|sp 1 E z λa E=>sv2 E z (lQ (i:=0) E H z z z U58) λa E=>pr 1 E z λa E=>nt<|wB<|bF (λc a w=>∃ n,Jn 19 a w [(0,e),(1,.func (.func 172) #[] #[pt f 0]),(7,.int .i64 (b.length:Int)),(8,.int .i64 n)] (Row 78 bA e b::Blk f 2 [.int .i64 g]::Fo) rs (eJ b g c n=some r)) (((b.length:Int) - 0:Int).toNat+1) ?_ ?_
 ·exact ⟨_,_,E.to z,H,Y0,m⟩
 ·clear E H m;rintro c a w ⟨n,q,E,H,j,m⟩;cases c with
  | zero=>exact (bD m z).elim
  | succ c=>
   unfold eJ at m;refine sq<|pn 1 E z λa E=>wS<|wif E m z (λm=>?_) λm=>?_
   ·refine wK<|aA<|wS<|wB<|sp 2 E z λa E=>xp 3 E z λa E=>bd m λo k m=>?_;obtain ⟨s,t,l⟩:=H.rowformNE (i:=0) z k;refine sv2 E z (dP (d:=bA) E l z z z z U58 rG k) λa E=>sv2 E z (kJ (i:=0) E H gN l z z z k (us:=[.string o.Dir,.int .i64 o.Txn,.int .i64 o.Age]) z U78 z rG) λa E=>have H:=H.frs [0,1] z;bd m λu p m=>bI E (wn z) z z (bO E z z z ((cf_ 172) _)) (Gm H p)<|?_;rintro _ w ⟨rfl,H⟩ a E;refine nt<|wif E m z (λm=>?_) λm=>?_
    ·refine sq<|pn 2 E z λa E=>wR<|bJ<|aH<|aH<|bJ<|aH<|o1 E z<|?_;cases m;exact ⟨z,H.reads j⟩
    exact wK<|bM<|aA<|wG<|pn 2 E z λa E=>have H:=H.frs [0,1] z;⟨c,nL c,_,_,E.to z,H,j,m⟩
   ·refine wX<|aT<|aT<|cL<|aA<|sq<|pn 1 E z λa E=>wR<|o1 E z<|have H:=H.frs [0,1] z;?_;cases m;exact ⟨z,H.reads j⟩

def fZ(rec_1:kN->Int->Int->Option kN)(d:Int)(b:kN)(c:Int):Option kN:=
  rec_1 b c (IntKind.i64.wrap (d+1))
def dI(f:Int):Nat->kN->Int->Int->Option kN
  | 0,_,_,_=>none
  | g+1,c,b,d=>
    if (decide (d < (c.length:Int)))=true then ((idx c d).bind λe=>(vD e f).bind λi=>if (!i)=true then ((idx c b).bind λj=>fZ (dI f g) d (c.set b.toNat e) (IntKind.i64.wrap (b+1))) else (fZ (dI f g) d c b)) else ((ck (0 <= b/\b <= c.length)).bind λk=>(ck (0 <= b/\b <= (c.take b.toNat ++ List.replicate (c.length - b.toNat) (⟨⟨#[]⟩,0,0⟩:aU)).length)).bind λl=>some ((c.take b.toNat ++ List.replicate (c.length - b.toNat) (⟨⟨#[]⟩,0,0⟩:aU)).take b.toNat))
def jW(b:List aU)(d:Int):Option kN:=
  (jG b d).bind λc=>if (c == (-1))=true then (some (b)) else (dI d (((b.length:Int) - (IntKind.i64.wrap (c+1)):Int).toNat+1) b c (IntKind.i64.wrap (c+1)))
theorem L4{l:VL}{u:List aU}{c:Nat}{e:Int}(H:Sep w (Row 78 bA l u::Blk c 2 [.int .i64 e]::Fo) rs){r:kN}(m:jW u e=some r) :
    Cf 171 [l,.func (.func 172) #[] #[pt c 0]] w λv w'=>∃ D,D=v/\Sep w' (Row 78 bA D r::Blk c 2 [.int .i64 e]::Fo) (rs):=by
 unfold jW at m;refine ent func171 z ntmps171 z z λa E=>sp 1 E z λa E=>xp 2 E z λa E=>bd m λG F m=>xk2 E z (cf_ 154) (K3 H F) λw H a E=>pn 1 E z λa E=>wS<|sq<|pn 2 E z λa E=>wif E m z (λm=>?_) λm=>?_
 ·refine sq<|pn 2 E z λa E=>wR<|aH<|o1 E z<|have H:=H.frs [0,1] z;?_;cases m;exact ⟨_,z,H.reads Y0⟩
 ·refine wK<|aA<|wS<|sq<|pn 3 E z λa E=>wB<|bF (λf a w=>∃ x y n,Jn 42 a w [(0,l),(1,.func (.func 172) #[] #[pt c 0]),(5,.int .i64 y),(6,.int .i64 n)] (Row 78 bA l x::Blk c 2 [.int .i64 e]::Fo) rs (dI e f x y n=some r)) (((u.length:Int) - (IntKind.i64.wrap (G+1)):Int).toNat+1) ?_ ?_
  ·exact have H:=H.frs [0,1] z;X4 ⟨E.to z,H,Y0,m⟩
  ·clear E H m;rintro f a w ⟨x,y,n,I,E,H,g,m⟩;cases f with
   | zero=>exact (bD m z).elim
   | succ f=>
    unfold dI at m;refine wS<|sp 2 E z λa E=>sv2 E z (lQ (i:=0) E H z z z U58) λa E=>pn 1 E z λa E=>wif E m z (λm=>?_) λm=>?_
    ·refine wK<|aA<|aL (λa w=>∃ o p,Jn 42 a w [(0,l),(1,.func (.func 172) #[] #[pt c 0]),(5,.int .i64 p),(6,.int .i64 n)] (Row 78 bA l o::Blk c 2 [.int .i64 e]::Fo) rs (fZ (dI e f) n o p=some r)) ?_ ?_
     ·refine wB<|sp 2 E z λa E=>bd m λb j m=>?_;obtain ⟨K,L,q⟩:=H.rowformNE (i:=0) z j;refine sv2 E z (dP (d:=bA) E q z z z z U58 rG j) λa E=>sv2 E z (kJ (i:=0) E H gN q z z z j (us:=[.string b.Dir,.int .i64 b.Txn,.int .i64 b.Age]) z U78 z rG) λa E=>al2 E H z HQ λM w a H E=>ss 0 E H z rG z λw H=>xp 1 E z λa E=>ln 0 (vK b) E H U78 z rG λa E=>have H:=H.frs [1,1,2] z;bd m λN A m=>bI E (wn z) z z (bO E z z z ((cf_ 172) _)) (Gm H A)<|?_;rintro _ w ⟨rfl,H⟩ a E;refine pn 1 E z λa E=>wif E m z (λm=>?_) λm=>?_
      ·refine sp 2 E z λa E=>ln 1 (vK b) E H U78 z rG λa E=>bd m λO k m=>?_;obtain ⟨P,Q,s⟩:=H.rowformNE (i:=2) z k;exact sv2 E z (dP (d:=bA) E s z z z z U58 rG k) λa E=>W8 (d:=bA) (i:=2) (us:=[.string b.Dir,.int .i64 b.Txn,.int .i64 b.Age]) (z':=b) E H gN (wn z) z s z z z z z z z k rG λw H=>nt<|wG<|pr 3 E z λa E=>wN<|bM<|aA<|have H:=H.drop 1;have H:=H.frs [0,1] z;X3 ⟨E.to z,H,g,m⟩
      exact wK<|bM<|aA<|have H:=H.drop 1;have H:=H.frs [0,1] z;X3 ⟨E.to z,H,g,m⟩
     clear E H m;rintro a w ⟨o,p,J,E,H,B,m⟩;unfold fZ at m;exact wG<|pn 3 E z λa E=>⟨f,nL f,X4 ⟨E.to z,H,B,m⟩⟩
    ·refine wX<|aT<|aT<|cL<|aA<|sp 2 E z λa E=>bk m λt m=>sv2 E z (Hj (d:=bA) (i:=0) E H z z z z U58 rG t) λa E=>Ba (i:=0) (z0:=(⟨⟨#[]⟩,0,0⟩:aU)) E H gN (wn z) z z z U58 TT z z z t λw H=>xp 2 E z λa E=>bk m λC m=>Ec (i:=0) E H gN (wn z) z z z z z z U58 rG C λR a H E=>pn 1 E z λa E=>wR<|o1 E z<|?_;cases m;exact ⟨_,z,H.reads g⟩

def M7(b:List aU)(x3:Int):Option kN:=
  (ck (b.length <= LIM)).bind λd=>(jW b x3).bind λc=>some (c)
theorem Xt{c:VL}{d:List aU}{x3:Int}(H:Sep w (Fo) rs)(e:rSl bA c d ∈ rs){r:kN}(m:M7 d x3=some r) :
    Cf 103 [c,.int .i64 x3] w λv w'=>∃ f,f=v/\Sep w' (Row 78 bA f r::Fo) (rs):=by
 unfold M7 at m;refine ent func103 z ntmps103 z z λa E=>sq<|bx E H z λj w a H E=>pr 1 E z λa E=>xp 1 E z λa E=>bk m λg m=>xc2 E z (cf_ 60) (oA H e g) λk w H a E=>sv2 E z (nR E z z z) λa E=>bd m λl b m=>xc2 E z (cf_ 171) (L4 H b)<|?_;rintro _ w ⟨i,rfl,H⟩ a E;refine pn 1 E z λa E=>wR<|o1 E z<|have H:=H.drop 1;?_;cases m;exact ⟨_,z,H.reads Y0⟩

def xV(x1:Int):Option Bool:=
  some (x1 != x1)
theorem Cn{x1:Int}(H:Sep w (Fo) rs){r:Bool}(m:xV x1=some r) :
    Cf 320 [.int .i64 x1] w λv w'=>.bool r=v/\Sep w' (Fo) (rs):=by
 unfold xV at m;refine ent func320 z ntmps320 z z λa E=>sp 1 E z λa E=>nx<|pn 4 E z λa E=>wR<|o1 E z<|?_;cases m;exact ⟨z,H.reads Y0⟩

def zD(x1:Int)(b:Int):Option Int:=
  (xV x1).bind λd=>(xV b).bind λc=>if d=true then (if c=true then (some (0)) else (some ((-1)))) else (if c=true then (some (1)) else (if (decide (x1 < b))=true then (some ((-1))) else (if (decide (x1 > b))=true then (some (1)) else (some (0)))))
theorem Jk{x1 b:Int}(H:Sep w (Fo) rs){r:Int}(m:zD x1 b=some r) :
    Cf 270 [.int .i64 x1,.int .i64 b] w λv w'=>.int .i64 r=v/\Sep w' (Fo) (rs):=by
 unfold zD at m;refine ent func270 z ntmps270 z z λa E=>sp 1 E z λa E=>xp 1 E z λa E=>bd m λe c m=>xk2 E z (cf_ 320) (Cn H c) λw H a E=>pr 1 E z λa E=>nx<|pr 1 E z λa E=>bd m λf d m=>xk2 E z (cf_ 320) (Cn H d) λw H a E=>pn 1 E z λa E=>wS<|sq<|pn 1 E z λa E=>wif E m z (λm=>?_) λm=>?_
 ·refine wS<|sq<|pn 1 E z λa E=>wif E m z (λm=>?_) λm=>?_
  ·refine sq<|pn 1 E z λa E=>wR<|aH<|aH<|o1 E z<|?_;cases m;exact ⟨z,H.reads Y0⟩
  refine wK<|aA<|sq<|pn 1 E z λa E=>wR<|aH<|o1 E z<|?_;cases m;exact ⟨z,H.reads Y0⟩
 ·refine wK<|aA<|wS<|sq<|pn 1 E z λa E=>wif E m z (λm=>?_) λm=>?_
  ·refine sq<|pn 1 E z λa E=>wR<|aH<|o1 E z<|?_;cases m;exact ⟨z,H.reads Y0⟩
  ·refine wK<|aA<|wS<|sq<|pn 3 E z λa E=>wif E m z (λm=>?_) λm=>?_
   ·refine sq<|pn 1 E z λa E=>wR<|aH<|o1 E z<|?_;cases m;exact ⟨z,H.reads Y0⟩
   ·refine wK<|aA<|wS<|sq<|pn 3 E z λa E=>wif E m z (λm=>?_) λm=>?_
    ·refine sq<|pn 1 E z λa E=>wR<|aH<|o1 E z<|?_;cases m;exact ⟨z,H.reads Y0⟩
    ·refine wK<|aA<|sq<|pn 1 E z λa E=>wR<|o1 E z<|?_;cases m;exact ⟨z,H.reads Y0⟩

def rV(x1:aE)(x3:Int):Option Int:=
  (zD x1.Num x3).bind λb=>some (b)
theorem Ct{x1:aE}{c:VL}{x3:Int}(H:Sep w (Fo) rs){r:Int}(m:rV x1 x3=some r) :
    Cf 196 [.agg (rT x1 c).toArray,.int .i64 x3] w λv w'=>.int .i64 r=v/\Sep w' (Fo) (rs):=by
 unfold rV at m;refine ent func196 z ntmps196 z z λa E=>sq<|bx E H z λd w a H E=>pr 1 E z λa E=>xp 1 E z λa E=>lb2 E H 0 U2 z λa E=>pr 1 E z λa E=>bd m λe b m=>xk2 E z (cf_ 270) (Jk H b) λw H a E=>pn 1 E z λa E=>wR<|o1 E z<|have H:=H.drop 0;?_;cases m;exact ⟨z,H.reads Y0⟩

def cC(c:List aE)(x3:Int):Nat->Int->Int->Option zT
  | 0,_,_=>none
  | e+1,b,d=>
    if (decide (b < d))=true then ((idx c (IntKind.i64.wrap (uB .u64 (IntKind.u64.wrap (IntKind.i64.wrap (b+d))) 1))).bind λj=>(rV j x3).bind λf=>if (decide (f < 0))=true then (cC c x3 e (IntKind.i64.wrap ((IntKind.i64.wrap (uB .u64 (IntKind.u64.wrap (IntKind.i64.wrap (b+d))) 1))+1)) d) else (cC c x3 e b (IntKind.i64.wrap (uB .u64 (IntKind.u64.wrap (IntKind.i64.wrap (b+d))) 1)))) else (if (decide (b < (c.length:Int)))=true then ((idx c b).bind λg=>(rV g x3).bind λi=>some (b,i == 0)) else (some (b,false)))
def eQ(b:List aE)(x3:Int):Option zT:=
  cC b x3 (((b.length:Int) - 0:Int).toNat+1) 0 (b.length:Int)
theorem uR{j:VL}{e:List aE}{x3:Int}(H:Sep w (Row 126 aJ j e::Fo) rs){r:Int×Bool}(m:eQ e x3=some r) :
    Cf 195 [j,.int .i64 x3,.func (.func 196) #[] #[]] w λv w'=>.tuple #[.int .i64 r.1,.bool r.2]=v/\Sep w' (Row 126 aJ j e::Fo) (rs):=by
 unfold eQ at m;refine ent func195 z ntmps195 z z λa E=>sp 2 E z λa E=>xp 1 E z λa E=>sv2 E z (lQ (i:=0) E H z z z U71) λa E=>pr 1 E z λa E=>xp 3 E z λa E=>nt<|wS<|wB<|bF (λc a w=>∃ u x,Jn 49 a w [(0,j),(1,.int .i64 x3),(2,.func (.func 196) #[] #[]),(8,.int .i64 (e.length:Int)),(9,.int .i64 u),(10,.int .i64 x)] (Row 126 aJ j e::Fo) rs (cC e x3 c u x=some r)) (((e.length:Int) - 0:Int).toNat+1) ?_ ?_
 ·exact X3 ⟨E.to z,H,Y0,m⟩
 ·clear E H m;rintro c a w ⟨u,x,C,E,H,g,m⟩;cases c with
  | zero=>exact (bD m z).elim
  | succ c=>
   unfold cC at m;refine wS<|sq<|pn 3 E z λa E=>wif E m z (λm=>?_) λm=>?_
   ·refine wK<|aA<|wB<|sp 4 E z λa E=>sv2 E z (He E z z z (by decide)) λa E=>pr 2 E z λa E=>xp 3 E z λa E=>bd m λB l m=>?_;obtain ⟨D,F,n⟩:=H.rowformNE (i:=0) z l;refine sv2 E z (dP (d:=aJ) E n z z z z U71 B3 l) λa E=>Qn (i:=0) (k:=0) (s:=3) E H n (wn z) z z z z z l z Tf z B3 λG a H E=>?_;obtain ⟨_,hcs⟩:=H.rd (.head _);obtain ⟨p,rfl,-⟩:=eA hcs;clear hcs;refine have H:=H.derive1 m0 (rSl aQ p B.Events) (λok h=>kK h);?_
    replace E:Env 49 a ((28,.agg (rT B p).toArray)::_):=E
    refine pr 1 E z λa E=>bd m λI y m=>bI E (wn z) z z (bO E z z z ((cf_ 196) _)) (Ct H y)<|?_;rintro _ w ⟨rfl,H⟩ a E;refine pn 1 E z λa E=>wif E m z (λm=>?_) λm=>?_
    ·exact wG<|pr 3 E z λa E=>wN<|bM<|aA<|⟨c,nL c,X3 ⟨E.to z,H,(Y2 g),m⟩⟩
    exact wG<|pr 2 E z λa E=>wN<|bM<|aA<|⟨c,nL c,X3 ⟨E.to z,H,(Y2 g),m⟩⟩
   ·refine wX<|aT<|aT<|cL<|aA<|sp 5 E z λa E=>cs m (λb m=>?_) λb m=>?_
    ·refine pk 3 E (kc 39 z b) z λa E=>bd m λq f m=>?_;obtain ⟨J,K,o⟩:=H.rowformNE (i:=0) z f;refine gv 39 E b z (dP (d:=aJ) E o z z z z U71 B3 f) λa E=>Qn (i:=0) (k:=0) (s:=3) E H o (ws' (d:=39) E z z z z b) z z z z z f z Tf z B3 λL a H E=>?_;obtain ⟨_,hcs⟩:=H.rd (.head _);obtain ⟨t,rfl,-⟩:=eA hcs;clear hcs;refine have H:=H.derive1 m0 (rSl aQ t q.Events) (λok h=>kK h);?_
     replace E:Env 49 a ((44,.agg (rT q t).toArray)::_):=E
     refine pk 1 E (kc 39 z b) z λa E=>bd m λM A m=>bI E (ws' (d:=39) E z z z z b) z z (bO E z z z ((cf_ 196) _)) (Ct H A)<|?_;rintro _ w ⟨rfl,H⟩ a E;refine pk 4 E (kc 39 z b) z λa E=>nt<|wR<|hX E z z z<|?_;cases m;exact ⟨z,H.reads (Y2 g)⟩
    ·refine pk 11 E (kc 39 z b) z λa E=>nt<|wR<|hX E z z z<|?_;cases m;exact ⟨z,H.reads g⟩

def xD(c:aP)(d:aE)(b:dY):Option Hs:=
  if c.Deep=true then (some (decide ((d.Events.length:Int) < 7),b)) else (some (false,b))
def zY(c:aP)(b:aE)(d:Int)(e:BY)(f:List aE)(g:Int)(i:Bool):Option Hs:=
  if i=true then ((ck ((({ b with Count:=IntKind.i64.wrap (b.Count+1) }:aE).Events).length <= LIM)).bind λj=>(ck ((({ b with Count:=IntKind.i64.wrap (b.Count+1) }:aE).Events).length+([(⟨IntKind.i64.wrap (b.Count+1),d,e,c.Num⟩:bP)]:List bP).length <= LIM)).bind λk=>xD c b ((f.set g.toNat ({ b with Count:=IntKind.i64.wrap (b.Count+1) }:aE)).set g.toNat ({ ({ b with Count:=IntKind.i64.wrap (b.Count+1) }:aE) with Events:=(({ b with Count:=IntKind.i64.wrap (b.Count+1) }:aE).Events) ++ ([(⟨IntKind.i64.wrap (b.Count+1),d,e,c.Num⟩:bP)]:List bP) }:aE))) else (xD c b f)
def xE(c:aP)(b:aE)(f:List aE)(g:Int)(d:Int)(e:BY):Option Hs:=
  if (decide ((b.Events.length:Int) < 8))=true then (zY c b d e f g (decide (b.Count < 281474976710656))) else (zY c b d e f g false)
def M8(d:List aE)(e:Int)(c:aE)(b:aP)(f:Int)(g:BY):Option Hs:=
  if ((c.Events.length:Int) == 7)=true then (xE b c d e 4 b.Path) else (xE b c d e f g)
theorem Xu{n:VL}{D U V:Nat}{y:List aE}{t F:Int}{b:aE}{c:aP}{G:BY}(j:idx y t=some b)(l:n= .slice (some ⟨D,0,none⟩) U V)(H:Sep w (Row 126 aJ n y::Fo) rs){r:Bool×dY}(m:M8 y t b c F G=some r) :
    Cf 335 [.pointer (some ⟨D,t.toNat * 3,none⟩),.agg (eG c).toArray,.int .i64 F,.string G] w λv w'=>.bool r.1=v/\Sep w' (Row 126 aJ n r.2::Fo) (rs):=by
 unfold M8 at m;refine ent func335 z ntmps335 z z λa E=>sq<|bx E H z λp w a H E=>pr 1 E z λa E=>xp 3 E z λa E=>V8 (i:=1) (k:=2) E H l (wn z) z z z z z j z U44 z λb0 a H E=>?_;obtain ⟨_,hcs⟩:=H.rd (.head _);obtain ⟨M,rfl,-⟩:=eA hcs;clear hcs;refine have H:=H.derive1 m0 (rSl aQ M b.Events) (λok h=>kK h);?_
 replace E:Env 65 a ((14,M)::_):=E
 refine lS E H m0 U44 z λa E=>pn 1 E z λa E=>wS<|dz [0,0,0,0,0,0,0,0,0,0,1,2] [0,1] H λw W0 hI H=>fn 3 E z λa E=>fv E z (λw hW=>EM (d:=aJ) (k:=1) (u:=.int .i64 b.Count) E l j mm1 (λw ok cs h=>by obtain ⟨n,rfl,-⟩:=eA h;rfl) z z U2 z hW) λa E=>fn 4 E z λa E=>fb2 E m0 U2 z λa E=>fv E z (λw hW=>(cN E z (E.evs z) (v:=.agg #[.int .i64 (IntKind.i64.wrap (b.Count+1)),.int .i64 F,.string G,.int .i64 c.Num]) (by kernel_rfl))) λa E=>bW z<|al2 E H z CH λq w a H E=>nt<|⟨sx H [1,2] z,bK z<|ss 0 E H z xA z λw H=>nt<|bG<|?_⟩
 clear hI;refine aA<|aL (λa w=>∃ f g,Jn 65 a w [(0,.pointer (some ⟨D,t.toNat * 3,none⟩)),(5,pt p 0),(9,.int .i64 (b.Events.length:Int)),(10,pt q 0)] (Row 126 aJ n y::Blk p 35 (eG c)::Blk q 131 [.int .i64 (IntKind.i64.wrap (b.Count+1)),.int .i64 f,.string g,.int .i64 c.Num]::Fo) rs (xE c b y t f g=some r)) ?_ ?_
 ·refine sq<|pn 2 E z λa E=>wif E m z (λm=>?_) λm=>?_
  ·refine dz [0,0,0,1,2,2] [1] H λw W0 hI H=>fn 1 E z λa E=>fb2 E m0 U9 z λa E=>fn 1 E z λa E=>bW z<|ss 0 E H z sz3 z λw H=>nt<|⟨sx H [1] z,bK z<|pn 1 E z λa E=>bK z<|ss 0 E H z sz9 z λw H=>nt<|bG<|?_⟩
   clear hI;exact aA<|have H:=H.frs [0,1,2] z;X3 ⟨E.to z,H,(Y2 Y0),m⟩
  exact wK<|aA<|have H:=H.frs [0,1,2] z;X3 ⟨E.to z,H,(Y2 Y0),m⟩
 ·clear E H m;rintro a w ⟨f,g,X,E,H,I,m⟩;unfold xE at m;refine aL (λa w=>∃ J,Jn 65 a w [(5,pt p 0),(9,.int .i64 (b.Events.length:Int))] (Blk p 35 (eG c)::Row 126 aJ n J::Fo) rs (xD c b J=some r)) ?_ ?_
  ·refine aL (λa w=>∃ K,Jn 65 a w [(0,.pointer (some ⟨D,t.toNat * 3,none⟩)),(5,pt p 0),(9,.int .i64 (b.Events.length:Int)),(10,pt q 0),(40,.bool K)] (Row 126 aJ n y::Blk p 35 (eG c)::Blk q 131 [.int .i64 (IntKind.i64.wrap (b.Count+1)),.int .i64 f,.string g,.int .i64 c.Num]::Fo) rs (zY c b f g y t K=some r)) ?_ ?_
   ·refine wG<|pr 3 E z λa E=>cs m (λo m=>?_) λo m=>?_
    ·refine pk 3 E (kc 34 z o) z λa E=>V8 (i:=0) (k:=1) E H l (ws' (d:=34) E z z z z o) z z z z z j z U2 z λb1 a H E=>?_;obtain ⟨_,hcs⟩:=H.rd (.head _);obtain ⟨P,rfl,-⟩:=eA hcs;clear hcs;refine have H:=H.derive1 m0 (rSl aQ P b.Events) (λok h=>kK h);?_
     replace E:Env 65 a ((38,.int .i64 b.Count)::_):=E
     exact pk 2 E (kc 34 z o) z λa E=>nt<|⟨_,_,E.to z,H,(Y2 I),m⟩
    exact pk 6 E (kc 34 z o) z λa E=>nt<|⟨_,_,E.to z,H,I,m⟩
   clear E H m;rintro a w ⟨K,Y,E,H,s,m⟩;unfold zY at m;refine wif E m z (λm=>?_) λm=>?_
   ·refine sp 3 E z λa E=>V8 (i:=0) (k:=1) E H l (wn z) z z z z z j z U2 z λb2 a H E=>?_;obtain ⟨_,hcs⟩:=H.rd (.head _);obtain ⟨Q,rfl,-⟩:=eA hcs;clear hcs;refine have H:=H.derive1 m0 (rSl aQ Q b.Events) (λok h=>kK h);?_
    replace E:Env 65 a ((44,.int .i64 b.Count)::_):=E
    refine pr 3 E z λa E=>W9 (i:=0) (k:=1) (us:=[.int .i64 (IntKind.i64.wrap (b.Count+1))]) (y':=({ b with Count:=IntKind.i64.wrap (b.Count+1) }:aE)) E H l (wn z) z z z z z z j z sz2 z (λok cs hr h=>by obtain ⟨n,rfl,g1⟩:=eA h;exact oT (x:=({ b with Count:=IntKind.i64.wrap (b.Count+1) }:aE)) g1) λw H=>nt<|bk m λA m=>bk m λB m=>?_;have hI:dN [Blk q 131 [.int .i64 (IntKind.i64.wrap (b.Count+1)),.int .i64 f,.string g,.int .i64 c.Num]] [] { w with drawn:=w.drawn+1 }:=⟨_,_,H.kept (Kp.drawn _ w _),(aV mm2 (bQ)),(bT)⟩
    refine qJ _ (.go 0 0 (.go 1 0 (.go 2 0 (.go 3 0 (.go 6 0 (.alt 4 (.alt 5 (.go 7 1 (.go 8 1 (.go 9 2 (.go 10 2 (.go 11 2 .nil))))) 7 (.go 5 1 (.go 8 1 (.go 9 2 (.go 10 2 (.go 11 2 .nil)))))) 7 (.go 4 1 (.go 5 1 (.go 8 1 (.go 9 2 (.go 10 2 (.go 11 2 .nil)))))))))))) [9,10,11] qS (by kernel_rfl) (λ_ _ _ h=>False.elim h.2) hI<|have H:=H.kept (Kp.drawn _ w (w.drawn+1));?_;generalize ({ w with drawn:=w.drawn+1 }:WD)=w at H hI ⊢
    replace hI:∃ W,dN [Blk q 131 [.int .i64 (IntKind.i64.wrap (b.Count+1)),.int .i64 f,.string g,.int .i64 c.Num]] [] W:=⟨_,hI⟩
    obtain ⟨W0,hI⟩:=hI;refine om E z λa E=>om E z λa E=>ov E z (λw hW=>(F2 E z z)) λa E=>ov E z (λw hW=>oR E z z (v:=.pointer (some ⟨D,t.toNat * 3+2,none⟩)) (AQ _ _)) λa E=>ov E z (λw hW=>mW E z z (W7 (us:=[.int .i64 (IntKind.i64.wrap (b.Count+1)),.int .i64 f,.string g,.int .i64 c.Num]) m0 z Hm z xA w hW)) λa E=>rD z z ?_ ?_
    ·refine V8 (i:=0) (k:=2) E H l (wn z) z z z z z (F5 j) z U44 z λb3 a H E=>?_;obtain ⟨_,hcs⟩:=H.rd (.head _);obtain ⟨N,rfl,-⟩:=eA hcs;clear hcs;refine have H:=H.derive1 m0 (rSl aQ N (({ b with Count:=IntKind.i64.wrap (b.Count+1) }:aE).Events)) (λok h=>kK h);?_
     replace E:Env 65 a ((52,N)::_):=E
     refine nt<|⟨sx H [2] z,rD z z ?_ ?_⟩
     ·refine xc2 E z (cf_ 76) (gE H m0 A) λb4 w H a E=>nt<|⟨sx H [3] z,cO z<|sD (e:=131) (d:=aQ) (cs:=[.int .i64 (IntKind.i64.wrap (b.Count+1)),.int .i64 f,.string g,.int .i64 c.Num]) (xs:=[(⟨IntKind.i64.wrap (b.Count+1),f,g,c.Num⟩:bP)]) E H (wn z) z z z (E.evs z) (by kernel_rfl) z (λok hr=>(Rows.single (d:=aQ) (cs:=[.int .i64 (IntKind.i64.wrap (b.Count+1)),.int .i64 f,.string g,.int .i64 c.Num]) (x:=(⟨IntKind.i64.wrap (b.Count+1),f,g,c.Num⟩:bP)) N9)) λb5 w a H E=>nt<|⟨sx H [3] z,cO z<|eF (i:=0) E H (wn z) z z z z z z (lH m0) U44 Rb z B z λb6 w a H E=>nt<|⟨sx H [3] z,dF z<|pn 1 E z λa E=>dF z<|pn 1 E z λa E=>dF z<|?_⟩⟩⟩
      obtain ⟨q70,R,rfl⟩:=H.rowform (i:=0) z;refine have H:=H.thaw (i:=0) z;W9 (i:=0) (k:=2) (us:=[(.slice q70 ((({ b with Count:=IntKind.i64.wrap (b.Count+1) }:aE).Events) ++ ([(⟨IntKind.i64.wrap (b.Count+1),f,g,c.Num⟩:bP)]:List bP)).length R)]) (y':=({ ({ b with Count:=IntKind.i64.wrap (b.Count+1) }:aE) with Events:=(({ b with Count:=IntKind.i64.wrap (b.Count+1) }:aE).Events) ++ ([(⟨IntKind.i64.wrap (b.Count+1),f,g,c.Num⟩:bP)]:List bP) }:aE)) E H l (wn z) z z z z z z (F5 j) z CI z (λok cs hr h=>by obtain ⟨n,rfl,g1⟩:=eA h;exact oT (x:=({ ({ b with Count:=IntKind.i64.wrap (b.Count+1) }:aE) with Events:=(({ b with Count:=IntKind.i64.wrap (b.Count+1) }:aE).Events) ++ ([(⟨IntKind.i64.wrap (b.Count+1),f,g,c.Num⟩:bP)]:List bP) }:aE)) (hr _ m0)) λw H=>nt<|fK<|?_;clear hI;exact aA<|have H:=H.drop 2;have H:=H.frs [0,1] z;⟨_,_,E.to z,H,(Y6 s),m⟩
     refine sD (e:=131) (d:=aQ) (cs:=[.int .i64 (IntKind.i64.wrap (b.Count+1)),.int .i64 f,.string g,.int .i64 c.Num]) (xs:=[(⟨IntKind.i64.wrap (b.Count+1),f,g,c.Num⟩:bP)]) E H (wn z) z z z (E.evs z) (by kernel_rfl) z (λok hr=>(Rows.single (d:=aQ) (cs:=[.int .i64 (IntKind.i64.wrap (b.Count+1)),.int .i64 f,.string g,.int .i64 c.Num]) (x:=(⟨IntKind.i64.wrap (b.Count+1),f,g,c.Num⟩:bP)) N9)) λb7 w a H E=>nt<|⟨sx H [2] z,cO z<|xc2 E z (cf_ 76) (gE H mm1 A) λb8 w H a E=>nt<|⟨sx H [3] z,cO z<|eF (i:=0) E H (wn z) z z z z z z (lH m0) U44 Rb z B z λb9 w a H E=>nt<|⟨sx H [3] z,dF z<|pn 1 E z λa E=>dF z<|pn 1 E z λa E=>dF z<|?_⟩⟩⟩
     obtain ⟨q79,S,rfl⟩:=H.rowform (i:=0) z;refine have H:=H.thaw (i:=0) z;W9 (i:=0) (k:=2) (us:=[(.slice q79 ((({ b with Count:=IntKind.i64.wrap (b.Count+1) }:aE).Events) ++ ([(⟨IntKind.i64.wrap (b.Count+1),f,g,c.Num⟩:bP)]:List bP)).length S)]) (y':=({ ({ b with Count:=IntKind.i64.wrap (b.Count+1) }:aE) with Events:=(({ b with Count:=IntKind.i64.wrap (b.Count+1) }:aE).Events) ++ ([(⟨IntKind.i64.wrap (b.Count+1),f,g,c.Num⟩:bP)]:List bP) }:aE)) E H l (wn z) z z z z z z (F5 j) z CI z (λok cs hr h=>by obtain ⟨n,rfl,g1⟩:=eA h;exact oT (x:=({ ({ b with Count:=IntKind.i64.wrap (b.Count+1) }:aE) with Events:=(({ b with Count:=IntKind.i64.wrap (b.Count+1) }:aE).Events) ++ ([(⟨IntKind.i64.wrap (b.Count+1),f,g,c.Num⟩:bP)]:List bP) }:aE)) (hr _ m0)) λw H=>nt<|fK<|?_;clear hI;exact aA<|have H:=H.drop 2;have H:=H.frs [0,1] z;⟨_,_,E.to z,H,(Y6 s),m⟩
    refine sD (e:=131) (d:=aQ) (cs:=[.int .i64 (IntKind.i64.wrap (b.Count+1)),.int .i64 f,.string g,.int .i64 c.Num]) (xs:=[(⟨IntKind.i64.wrap (b.Count+1),f,g,c.Num⟩:bP)]) E H (wn z) z z z (E.evs z) (by kernel_rfl) z (λok hr=>(Rows.single (d:=aQ) (cs:=[.int .i64 (IntKind.i64.wrap (b.Count+1)),.int .i64 f,.string g,.int .i64 c.Num]) (x:=(⟨IntKind.i64.wrap (b.Count+1),f,g,c.Num⟩:bP)) N9)) λc0 w a H E=>nt<|⟨sx H [2] z,cO z<|V8 (i:=0) (k:=2) E H l (wn z) z z z z z (F5 j) z U44 z λc1 a H E=>?_⟩
    obtain ⟨_,hcs⟩:=H.rd (.head _);obtain ⟨O,rfl,-⟩:=eA hcs;clear hcs;refine have H:=H.derive1 m0 (rSl aQ O (({ b with Count:=IntKind.i64.wrap (b.Count+1) }:aE).Events)) (λok h=>kK h);?_
    replace E:Env 65 a ((52,O)::_):=E
    refine nt<|⟨sx H [2] z,cO z<|xc2 E z (cf_ 76) (gE H m0 A) λc2 w H a E=>nt<|⟨sx H [3] z,cO z<|eF (i:=0) E H (wn z) z z z z z z (lH mm2) U44 Rb z B z λc3 w a H E=>nt<|⟨sx H [3] z,dF z<|pn 1 E z λa E=>dF z<|pn 1 E z λa E=>dF z<|?_⟩⟩⟩
    obtain ⟨q90,T,rfl⟩:=H.rowform (i:=0) z;refine have H:=H.thaw (i:=0) z;W9 (i:=0) (k:=2) (us:=[(.slice q90 ((({ b with Count:=IntKind.i64.wrap (b.Count+1) }:aE).Events) ++ ([(⟨IntKind.i64.wrap (b.Count+1),f,g,c.Num⟩:bP)]:List bP)).length T)]) (y':=({ ({ b with Count:=IntKind.i64.wrap (b.Count+1) }:aE) with Events:=(({ b with Count:=IntKind.i64.wrap (b.Count+1) }:aE).Events) ++ ([(⟨IntKind.i64.wrap (b.Count+1),f,g,c.Num⟩:bP)]:List bP) }:aE)) E H l (wn z) z z z z z z (F5 j) z CI z (λok cs hr h=>by obtain ⟨n,rfl,g1⟩:=eA h;exact oT (x:=({ ({ b with Count:=IntKind.i64.wrap (b.Count+1) }:aE) with Events:=(({ b with Count:=IntKind.i64.wrap (b.Count+1) }:aE).Events) ++ ([(⟨IntKind.i64.wrap (b.Count+1),f,g,c.Num⟩:bP)]:List bP) }:aE)) (hr _ m0)) λw H=>nt<|fK<|?_;clear hI;exact aA<|have H:=H.drop 2;have H:=H.frs [0,1] z;⟨_,_,E.to z,H,(Y6 s),m⟩
   exact wK<|aA<|have H:=H.drop 2;have H:=H.frs [0,1] z;⟨_,_,E.to z,H,s,m⟩
  ·clear E H m;rintro a w ⟨J,Z,E,H,L,m⟩;unfold xD at m;refine sp 1 E z λa E=>lb2 E H 0 U4 z λa E=>pr 1 E z λa E=>cs m (λC m=>?_) λC m=>?_
   ·refine pk 4 E (kc 61 z C) z λa E=>nt<|wR<|o1 E z<|have H:=H.drop 0;?_;cases m;exact ⟨z,H.reads L⟩
   ·refine pk 4 E (kc 61 z C) z λa E=>nt<|wR<|o1 E z<|have H:=H.drop 0;?_;cases m;exact ⟨z,H.reads L⟩

def xW(b:Int×Bool)(x1:aP)(e:Int)(g:BY)(c:dY):Option Hs:=
  (idx c b.1).bind λf=>(M8 c b.1 f x1 e g).bind λd=>some (!d.1,d.2)
def qL(x1:aP)(d:Int)(e:BY)(c:List aE)(f:Bool):Option Hs:=
  if f=true then (some (false,c)) else ((eQ c x1.Session).bind λb=>if (!b.2)=true then ((ck (0 <= b.1/\b.1 <= c.length/\c.length <= 1000000)).bind λg=>xW b x1 d e (c.take b.1.toNat ++ (⟨x1.Session,0,[]⟩:aE)::c.drop b.1.toNat)) else (xW b x1 d e c))
def vE(x1:aP)(b:BY)(d:List aE)(c:Int):Option Hs:=
  if (!(sEq x1.Path b))=true then (if (!x1.Deep)=true then (qL x1 c b d true) else ((M6 b x1.Path).bind λe=>qL x1 c b d (!e))) else (qL x1 c b d false)
theorem Gn{x1:aP}{g j k:Nat}{l:BY}{A p:VL}{B:List aE}{f:Int}(H:Sep w (Blk g 9 [.string l]::Blk j 73 [p,A]::Row 126 aJ A B::Blk k 3 [.int .i64 f]::Fo) rs){r:Bool×dY}(m:vE x1 l B f=some r) :
    Cf 334 [.agg (eG x1).toArray,pt g 0,pt j 0,pt k 0] w λv w'=>∃ K,.bool r.1=v/\Sep w' (Blk g 9 [.string l]::Blk j 73 [p,K]::Blk k 3 [.int .i64 f]::Row 126 aJ K r.2::Fo) (rs):=by
 unfold vE at m;refine ent func334 z ntmps334 z z λa E=>sq<|bx E H z λq w a H E=>pn 1 E z λa E=>wS<|aL (λa w=>∃ s,Jn 52 a w [(1,pt g 0),(2,pt j 0),(3,pt k 0),(4,pt q 0),(23,.bool s)] (Blk g 9 [.string l]::Blk j 73 [p,A]::Blk k 3 [.int .i64 f]::Blk q 35 (eG x1)::Row 126 aJ A B::Fo) rs (qL x1 f l B s=some r)) ?_ ?_
 ·refine wG<|pr 1 E z λa E=>lb2 E H 0 U9 z λa E=>lb2 E H 1 U9 z λa E=>pr 2 E z λa E=>cs m (λb m=>?_) λb m=>?_
  ·refine pk 1 E (kc 12 z b) z λa E=>gl 12 E H 0 b U4 z λa E=>pk 2 E (kc 12 z b) z λa E=>cs m (λc m=>?_) λc m=>?_
   ·exact pk 7 E (kc' (kc 16 z c) 12 z b) z λa E=>nt<|have H:=H.frs [3,1,4,4,4] z;⟨_,_,E.to z,H,Y0,m⟩
   refine gl 16 E H 1 c U9 z λa E=>pk 1 E (kc 16 z c) z λa E=>gl 16 E H 0 c U9 z λa E=>bd m λN D m=>gc 16 E c z (cf_ 65) (Kx H D)<|?_;rintro _ w ⟨rfl,H⟩ a E;exact pk 3 E (kc' (kc 16 z c) 12 z b) z λa E=>nt<|have H:=H.frs [3,1,4,4,4] z;⟨_,_,E.to z,H,Y0,m⟩
  exact pk 11 E (kc 12 z b) z λa E=>nt<|have H:=H.frs [3,1,4,4,4] z;⟨_,_,E.to z,H,Y0,m⟩
 ·clear E H m;rintro a w ⟨s,L,E,H,n,m⟩;unfold qL at m;refine wif E m z (λm=>?_) λm=>?_
  ·refine sq<|pn 1 E z λa E=>wR<|aH<|o1 E z<|have H:=H.drop 3;?_;cases m;exact ⟨_,z,H.reads n⟩
  ·refine wK<|aA<|sp 1 E z λa E=>lb2 E H 1 U71 z λa E=>pr 1 E z λa E=>lb2 E H 3 U2 z λa E=>have H:=H.frs [3,3,3,3,4] z;bd m λC F m=>xk2 E z (cf_ 195) (uR H F) λw H a E=>pn 5 E z λa E=>aL (λa w=>∃ t u,Jn 52 a w [(1,pt g 0),(2,pt j 0),(3,pt k 0),(4,pt q 0),(6,.int .i64 C.1)] (Blk g 9 [.string l]::Blk j 73 [p,t]::Blk k 3 [.int .i64 f]::Blk q 35 (eG x1)::Row 126 aJ t u::Fo) rs (xW C x1 f l u=some r)) ?_ ?_
   ·refine sq<|pn 2 E z λa E=>wif E m z (λm=>?_) λm=>?_
    ·refine wG<|pr 1 E z λa E=>lb2 E H 2 U71 z λa E=>pr 2 E z λa E=>lb2 E H 4 U2 z λa E=>sv2 E z (cN E z (E.evs z) (v:=.agg #[.int .i64 x1.Session,.int .i64 0,nS]) (by kernel_rfl)) λa E=>kH (e:=126) (d:=aJ) (cs:=[.int .i64 x1.Session,.int .i64 0,nS]) (xs:=[(⟨x1.Session,0,[]⟩:aE)]) E H (wn z) z z z (E.evs z) (by kernel_rfl) z z (λok hr=>(Rows.single (d:=aJ) (cs:=[.int .i64 x1.Session,.int .i64 0,nS]) (x:=(⟨x1.Session,0,[]⟩:aE)) (oT (Sl.nil _ _ _)))) λO w a H E=>bk m λG m=>xc2 E z (cf_ 197) (Se.insert_a (ix:=1) (iu:=0) H z z (by decide) G) λP w H a E=>pr 1 E z λa E=>?_;obtain ⟨q33,Q,rfl⟩:=H.rowform (i:=1) z;exact ss 3 E H z Xn z λw H=>nt<|have H:=H.drop 0;have H:=H.frs [0,4,4,4,4] z;X3 ⟨E.to z,H,n,m⟩
    exact wK<|aA<|have H:=H.frs [0,4,4,4,4] z;X3 ⟨E.to z,H,n,m⟩
   ·clear E H m;rintro a w ⟨t,u,M,E,H,I,m⟩;unfold xW at m;refine wS<|dz [0,0,0,0,0,0,0,1,0,2] [0,1,2,3] H λw W0 hI H=>fn 1 E z λa E=>fb2 E mm1 U71 z λa E=>fn 1 E z λa E=>bd m λR o m=>?_;obtain ⟨S,T,y⟩:=H.rowformNE (i:=4) z o;refine fv E z (λw hW=>dP (d:=aJ) E y z z z z U71 B3 o) λa E=>fbn E (eG x1) z (wn z) z z z z mm3 z U35 z yQ λa E=>fb2 E mm2 U3 z λa E=>fb2 E m0 U9 z λa E=>bW z<|have H:=H.frs [3,3,3,3,4] z;bd m λU J m=>xk2 E z (cf_ 335) (Xu o y H J) λw H a E=>nt<|⟨sx H [1,2,3,4] z,fn 1 E z λa E=>bK z<|pn 1 E z λa E=>bG<|?_⟩
    clear hI;refine aA<|wR<|o1 E z<|have H:=H.drop 4;have H:=H.frs [0,3,3,3] z;?_;cases m;exact ⟨_,z,H.reads I⟩

def dM(f:List aP)(g:BY)(d:Int):Nat->Int->dY->Option (Int×dY)
  | 0,_,_=>none
  | j+1,b,e=>
    if (decide (b < (f.length:Int)))=true then ((idx f b).bind λi=>(vE i g e d).bind λc=>if c.1=true then (some (b,c.2)) else (dM f g d j (IntKind.i64.wrap (b+1)) c.2)) else (some ((-1),e))
def iH(b:List aP)(d:BY)(e:List aE)(c:Int):Option (Int×dY):=
  dM b d c (((b.length:Int) - 0:Int).toNat+1) 0 e
theorem G1{l A n:VL}{e:List aP}{o p b:Nat}{q:BY}{B:List aE}{c:Int}(H:Sep w (Row 35 aR l e::Blk o 9 [.string q]::Blk p 73 [n,A]::Row 126 aJ A B::Blk b 3 [.int .i64 c]::Fo) rs){r:Int×dY}(m:iH e q B c=some r) :
    Cf 268 [l,.func (.func 334) #[] #[pt o 0,pt p 0,pt b 0]] w λv w'=>∃ C,.int .i64 r.1=v/\Sep w' (Blk o 9 [.string q]::Blk p 73 [n,C]::Blk b 3 [.int .i64 c]::Row 35 aR l e::Row 126 aJ C r.2::Fo) (rs):=by
 unfold iH at m;refine ent func268 z ntmps268 z z λa E=>sq<|pn 1 E z λa E=>wS<|sp 1 E z λa E=>sv2 E z (lQ (i:=0) E H z z z U70) λa E=>pr 1 E z λa E=>nt<|wB<|bF (λk a w=>∃ s t u,Jn 19 a w [(0,l),(1,.func (.func 334) #[] #[pt o 0,pt p 0,pt b 0]),(7,.int .i64 (e.length:Int)),(8,.int .i64 t)] (Row 35 aR l e::Blk o 9 [.string q]::Blk p 73 [n,s]::Blk b 3 [.int .i64 c]::Row 126 aJ s u::Fo) rs (dM e q c k t u=some r)) (((e.length:Int) - 0:Int).toNat+1) ?_ ?_
 ·exact have H:=H.frs [3,4,4,4,4] z;X4 ⟨E.to z,H,Y0,m⟩
 ·clear E H m;rintro k a w ⟨s,t,u,D,E,H,f,m⟩;cases k with
  | zero=>exact (bD m z).elim
  | succ k=>
   unfold dM at m;refine sq<|pn 1 E z λa E=>wS<|wif E m z (λm=>?_) λm=>?_
   ·refine wK<|aA<|wS<|wB<|sp 2 E z λa E=>xp 3 E z λa E=>bd m λj g m=>?_;obtain ⟨F,G,x⟩:=H.rowformNE (i:=0) z g;refine sv2 E z (dP (d:=aR) E x z z z z U70 yQ g) λa E=>sv2 E z (kJ (i:=0) E H mQ x z z z g (us:=[.int .i64 j.Session,.int .i64 j.Num,.string j.Path,.bool j.Deep]) z U35 z yQ) λa E=>have H:=H.frs [0,3,4,4,4] z;bd m λI y m=>bI E (wn z) z z (bO E z z z ((cf_ 334) _)) (Gn H y)<|?_;rintro _ w ⟨J,rfl,H⟩ a E;refine nt<|wif E m z (λm=>?_) λm=>?_
    ·refine sq<|pn 2 E z λa E=>wR<|bJ<|aH<|aH<|bJ<|aH<|o1 E z<|have H:=H.frs [3,4,4,4,4] z;?_;cases m;exact ⟨_,z,H.reads f⟩
    exact wK<|bM<|aA<|wG<|pn 2 E z λa E=>have H:=H.frs [3,3,3,3,4] z;⟨k,nL k,X4 ⟨E.to z,H,f,m⟩⟩
   ·refine wX<|aT<|aT<|cL<|aA<|sq<|pn 1 E z λa E=>wR<|o1 E z<|have H:=H.frs [4,1,4,4,4] z;?_;cases m;exact ⟨_,z,H.reads f⟩

def fL(rec_1:eZ->Int->Int->dY->Option Z5)(b:Int)(c:eZ)(d:Int)(e:dY):Option Z5:=
  rec_1 c d (IntKind.i64.wrap (b+1)) e
def cU(j:BY)(e:Int):Nat->eZ->Int->Int->dY->Option Z5
  | 0,_,_,_,_=>none
  | k+1,c,b,d,g=>
    if (decide (d < (c.length:Int)))=true then ((idx c d).bind λi=>(vE i j g e).bind λf=>if (!f.1)=true then ((idx c b).bind λl=>fL (cU j e k) d (c.set b.toNat i) (IntKind.i64.wrap (b+1)) f.2) else (fL (cU j e k) d c b f.2)) else ((ck (0 <= b/\b <= c.length)).bind λm=>(ck (0 <= b/\b <= (c.take b.toNat ++ List.replicate (c.length - b.toNat) (⟨0,0,⟨#[]⟩,false⟩:aP)).length)).bind λn=>some ((c.take b.toNat ++ List.replicate (c.length - b.toNat) (⟨0,0,⟨#[]⟩,false⟩:aP)).take b.toNat,g))
def gG(c:List aP)(e:BY)(f:List aE)(d:Int):Option Z5:=
  (iH c e f d).bind λb=>if (b.1 == (-1))=true then (some (c,b.2)) else (cU e d (((c.length:Int) - (IntKind.i64.wrap (b.1+1)):Int).toNat+1) c b.1 (IntKind.i64.wrap (b.1+1)) b.2)
theorem I8{s O q:VL}{J:List aP}{g j c:Nat}{k:BY}{P:List aE}{e:Int}(H:Sep w (Row 35 aR s J::Blk g 9 [.string k]::Blk j 73 [q,O]::Row 126 aJ O P::Blk c 3 [.int .i64 e]::Fo) rs){r:eZ×dY}(m:gG J k P e=some r) :
    Cf 333 [s,.func (.func 334) #[] #[pt g 0,pt j 0,pt c 0]] w λv w'=>∃ Q R,Q=v/\Sep w' (Row 35 aR Q r.1::Blk g 9 [.string k]::Blk j 73 [q,R]::Blk c 3 [.int .i64 e]::Row 126 aJ R r.2::Fo) (rs):=by
 unfold gG at m;refine ent func333 z ntmps333 z z λa E=>sp 1 E z λa E=>xp 2 E z λa E=>bd m λS K m=>xc2 E z (cf_ 268) (G1 H K)<|?_;rintro _ w ⟨V,rfl,H⟩ a E;refine pn 1 E z λa E=>wS<|sq<|pn 2 E z λa E=>wif E m z (λm=>?_) λm=>?_
 ·refine sq<|pn 2 E z λa E=>wR<|aH<|o1 E z<|have H:=H.frs [4,3,3,3,4] z;?_;cases m;exact ⟨_,_,z,H.reads Y0⟩
 ·refine wK<|aA<|wS<|sq<|pn 3 E z λa E=>wB<|bF (λl a w=>∃ t u x f y,Jn 42 a w [(0,s),(1,.func (.func 334) #[] #[pt g 0,pt j 0,pt c 0]),(5,.int .i64 x),(6,.int .i64 f)] (Row 35 aR s u::Blk g 9 [.string k]::Blk j 73 [q,t]::Blk c 3 [.int .i64 e]::Row 126 aJ t y::Fo) rs (cU k e l u x f y=some r)) (((J.length:Int) - (IntKind.i64.wrap (S.1+1)):Int).toNat+1) ?_ ?_
  ·exact have H:=H.frs [4,3,3,3,4] z;X6 ⟨E.to z,H,Y0,m⟩
  ·clear E H m;rintro l a w ⟨t,u,x,f,y,T,E,H,n,m⟩;cases l with
   | zero=>exact (bD m z).elim
   | succ l=>
    unfold cU at m;refine wS<|sp 2 E z λa E=>sv2 E z (lQ (i:=0) E H z z z U70) λa E=>pn 1 E z λa E=>wif E m z (λm=>?_) λm=>?_
    ·refine wK<|aA<|aL (λa w=>∃ A B C D,Jn 42 a w [(0,s),(1,.func (.func 334) #[] #[pt g 0,pt j 0,pt c 0]),(5,.int .i64 C),(6,.int .i64 f)] (Row 35 aR s B::Blk g 9 [.string k]::Blk j 73 [q,A]::Blk c 3 [.int .i64 e]::Row 126 aJ A D::Fo) rs (fL (cU k e l) f B C D=some r)) ?_ ?_
     ·refine wB<|sp 2 E z λa E=>bd m λb o m=>?_;obtain ⟨W,X,F⟩:=H.rowformNE (i:=0) z o;refine sv2 E z (dP (d:=aR) E F z z z z U70 yQ o) λa E=>sv2 E z (kJ (i:=0) E H mQ F z z z o (us:=[.int .i64 b.Session,.int .i64 b.Num,.string b.Path,.bool b.Deep]) z U35 z yQ) λa E=>al2 E H z PM λY w a H E=>ss 0 E H z yQ z λw H=>xp 1 E z λa E=>ln 0 (eG b) E H U35 z yQ λa E=>have H:=H.frs [1,1,4,5,5,5] z;bd m λZ L m=>bI E (wn z) z z (bO E z z z ((cf_ 334) _)) (Gn H L)<|?_;rintro _ w ⟨b0,rfl,H⟩ a E;refine pn 1 E z λa E=>wif E m z (λm=>?_) λm=>?_
      ·refine sp 2 E z λa E=>ln 4 (eG b) E H U35 z yQ λa E=>bd m λb1 p m=>?_;obtain ⟨b2,b3,G⟩:=H.rowformNE (i:=5) z p;exact sv2 E z (dP (d:=aR) E G z z z z U70 yQ p) λa E=>W8 (d:=aR) (i:=5) (us:=[.int .i64 b.Session,.int .i64 b.Num,.string b.Path,.bool b.Deep]) (z':=b) E H mQ (wn z) z G z z z z z z z p yQ λw H=>nt<|wG<|pr 3 E z λa E=>wN<|bM<|aA<|have H:=H.drop 4;have H:=H.frs [3,3,3,3,4] z;X5 ⟨E.to z,H,n,m⟩
      exact wK<|bM<|aA<|have H:=H.drop 4;have H:=H.frs [3,3,3,3,4] z;X5 ⟨E.to z,H,n,m⟩
     clear E H m;rintro a w ⟨A,B,C,D,U,E,H,M,m⟩;unfold fL at m;exact wG<|pn 3 E z λa E=>⟨l,nL l,X6 ⟨E.to z,H,M,m⟩⟩
    ·refine wX<|aT<|aT<|cL<|aA<|sp 2 E z λa E=>bk m λI m=>sv2 E z (Hj (d:=aR) (i:=0) E H z z z z U70 yQ I) λa E=>Ba (i:=0) (z0:=(⟨0,0,⟨#[]⟩,false⟩:aP)) E H mQ (wn z) z z z U70 TO z z z I λw H=>xp 2 E z λa E=>bk m λN m=>Ec (i:=0) E H mQ (wn z) z z z z z z U70 yQ N λb4 a H E=>pn 1 E z λa E=>wR<|o1 E z<|?_;cases m;exact ⟨_,_,z,H.reads n⟩

def sM(x1:Int):Option Bool:=
  if (decide (x1 ≥ 1))=true then (some (decide (x1 <= 281474976710656))) else (some (false))
theorem P4{x1:Int}(H:Sep w (Fo) rs){r:Bool}(m:sM x1=some r) :
    Cf 267 [.int .i64 x1] w λv w'=>.bool r=v/\Sep w' (Fo) (rs):=by
 unfold sM at m;refine ent func267 z ntmps267 z z λa E=>sp 1 E z λa E=>xp 3 E z λa E=>cs m (λb m=>?_) λb m=>?_
 ·refine pk 4 E (kc 5 z b) z λa E=>nt<|wR<|o1 E z<|?_;cases m;exact ⟨z,H.reads Y0⟩
 ·refine pk 4 E (kc 5 z b) z λa E=>nt<|wR<|o1 E z<|?_;cases m;exact ⟨z,H.reads Y0⟩

def kW(rec_1:Int->Option Bool)(c:Int)(b:Bool):Option Bool:=
  if b=true then (some (false)) else (rec_1 (IntKind.i64.wrap (c+1)))
def fM(x1:aE):Nat->Int->Option Bool
  | 0,_=>none
  | d+1,c=>
    if (decide (c < (x1.Events.length:Int)))=true then ((idx x1.Events c).bind λb=>if (b.Num != (IntKind.i64.wrap ((IntKind.i64.wrap ((IntKind.i64.wrap (x1.Count - (x1.Events.length:Int)))+1))+c)))=true then (kW (fM x1 d) c true) else (if (decide (b.Num < 1))=true then (kW (fM x1 d) c true) else (if (decide (b.Kind < 1))=true then (kW (fM x1 d) c true) else (if (decide (b.Kind > 4))=true then (kW (fM x1 d) c true) else ((fW b.Path).bind λe=>if (!e)=true then (kW (fM x1 d) c true) else ((sM b.Watch).bind λf=>kW (fM x1 d) c (!f))))))) else (some (true))
def pA(x1:aE)(b:Bool):Option Bool:=
  if b=true then (some (false)) else (fM x1 (((x1.Events.length:Int) - 0:Int).toNat+1) 0)
def zZ(x1:aE):Option Bool:=
  (sM x1.Num).bind λb=>if (!b)=true then (pA x1 true) else (if (decide (x1.Count < 0))=true then (pA x1 true) else (if (decide (x1.Count > 281474976710656))=true then (pA x1 true) else (pA x1 (decide ((x1.Events.length:Int) > 8)))))
theorem Ru{x1:aE}{p:VL}(H:Sep w (Fo) rs)(n:rSl aQ p x1.Events ∈ rs){r:Bool}(m:zZ x1=some r) :
    Cf 266 [.agg (rT x1 p).toArray] w λv w'=>.bool r=v/\Sep w' (Fo) (rs):=by
 unfold zZ at m;refine ent func266 z ntmps266 z z λa E=>sq<|bx E H z λC w a H E=>pn 1 E z λa E=>wS<|aL (λa w=>∃ u,Jn 75 a w [(1,pt C 0),(25,.bool u)] (Blk C 126 (rT x1 p)::Fo) rs (pA x1 u=some r)) ?_ ?_
 ·refine wG<|pr 1 E z λa E=>lb2 E H 0 U2 z λa E=>bd m λF x m=>xk2 E z (cf_ 267) (P4 H x) λw H a E=>pr 2 E z λa E=>cs m (λf m=>?_) λf m=>?_
  ·exact pk 15 E (kc 10 z f) z λa E=>nt<|⟨_,_,E.to z,H,Y0,m⟩
  refine pk 1 E (kc 10 z f) z λa E=>gl 10 E H 0 f U2 z λa E=>pk 3 E (kc 10 z f) z λa E=>cs m (λg m=>?_) λg m=>?_
  ·exact pk 10 E (kc 15 z g) z λa E=>nt<|⟨_,_,E.to z,H,Y0,m⟩
  refine pk 1 E (kc 15 z g) z λa E=>gl 15 E H 0 g U2 z λa E=>pk 3 E (kc 15 z g) z λa E=>cs m (λc m=>?_) λc m=>?_
  ·exact pk 5 E (kc 20 z c) z λa E=>nt<|⟨_,_,E.to z,H,Y0,m⟩
  exact pk 1 E (kc 20 z c) z λa E=>gl 20 E H 0 c U44 z λa E=>gv 20 E c z (xO E H z z n U44) λa E=>pk 2 E (kc 20 z c) z λa E=>nt<|⟨_,_,E.to z,H,Y0,m⟩
 ·clear E H m;rintro a w ⟨u,G,E,H,o,m⟩;unfold pA at m;refine wif E m z (λm=>?_) λm=>?_
  ·refine sq<|pn 1 E z λa E=>wR<|aH<|o1 E z<|have H:=H.drop 0;?_;cases m;exact ⟨z,H.reads o⟩
  ·refine wK<|aA<|sp 1 E z λa E=>lb2 E H 0 U2 z λa E=>pr 1 E z λa E=>lb2 E H 0 U44 z λa E=>lS E H (o _ n) U44 z λa E=>pr 3 E z λa E=>nt<|wS<|sp 1 E z λa E=>lb2 E H 0 U44 z λa E=>lS E H (o _ n) U44 z λa E=>pn 1 E z λa E=>wB<|bF (λl a w=>∃ q,Jn 75 a w [(3,.int .i64 (IntKind.i64.wrap ((IntKind.i64.wrap (x1.Count - (x1.Events.length:Int)))+1))),(34,p),(35,.int .i64 (x1.Events.length:Int)),(36,.int .i64 q)] (Fo) rs (fM x1 l q=some r)) (((x1.Events.length:Int) - 0:Int).toNat+1) ?_ ?_
   ·exact have H:=H.drop 0;⟨_,_,E.to z,H,o,m⟩
   ·clear E H m;rintro l a w ⟨q,I,E,H,b,m⟩;cases l with
    | zero=>exact (bD m z).elim
    | succ l=>
     unfold fM at m;refine sq<|pn 1 E z λa E=>wS<|wif E m z (λm=>?_) λm=>?_
     ·refine wK<|aA<|wS<|wB<|sp 1 E z λa E=>bd m λJ y m=>dC E H (wn z) z z z z z (b _ n) U44 xA y λq13 a H E=>ldf uZ E H z z z z z m0 Hm z xA λa E=>al2 E H z CH λK w a H E=>pr 1 E z λa E=>ss 0 E H z xA z λw H=>nt<|aL (λa w=>∃ s,Jn 75 a w [(3,.int .i64 (IntKind.i64.wrap ((IntKind.i64.wrap (x1.Count - (x1.Events.length:Int)))+1))),(34,p),(35,.int .i64 (x1.Events.length:Int)),(36,.int .i64 q),(73,.bool s)] (Fo) rs (kW (fM x1 l) q s=some r)) ?_ ?_
      ·refine wG<|pr 1 E z λa E=>lb2 E H 0 U2 z λa E=>pr 5 E z λa E=>cs m (λi m=>?_) λi m=>?_
       ·exact pk 26 E (kc 47 z i) z λa E=>nt<|have H:=H.drop 0;⟨_,_,E.to z,H,(Y1 b),m⟩
       refine pk 1 E (kc 47 z i) z λa E=>gl 47 E H 0 i U2 z λa E=>pk 3 E (kc 47 z i) z λa E=>cs m (λj m=>?_) λj m=>?_
       ·exact pk 21 E (kc 52 z j) z λa E=>nt<|have H:=H.drop 0;⟨_,_,E.to z,H,(Y1 b),m⟩
       refine pk 1 E (kc 52 z j) z λa E=>gl 52 E H 0 j U3 z λa E=>pk 3 E (kc 52 z j) z λa E=>cs m (λk m=>?_) λk m=>?_
       ·exact pk 16 E (kc 57 z k) z λa E=>nt<|have H:=H.drop 0;⟨_,_,E.to z,H,(Y1 b),m⟩
       refine pk 1 E (kc 57 z k) z λa E=>gl 57 E H 0 k U3 z λa E=>pk 3 E (kc 57 z k) z λa E=>cs m (λd m=>?_) λd m=>?_
       ·exact pk 11 E (kc 62 z d) z λa E=>nt<|have H:=H.drop 0;⟨_,_,E.to z,H,(Y1 b),m⟩
       refine pk 1 E (kc 62 z d) z λa E=>gl 62 E H 0 d U9 z λa E=>bd m λL A m=>gc 62 E d z (cf_ 83) (kQ H A)<|?_;rintro _ w ⟨rfl,H⟩ a E;refine pk 3 E (kc 62 z d) z λa E=>cs m (λe m=>?_) λe m=>?_
       ·exact pk 5 E (kc 68 z e) z λa E=>nt<|have H:=H.drop 0;⟨_,_,E.to z,H,(Y1 b),m⟩
       refine pk 1 E (kc 68 z e) z λa E=>gl 68 E H 0 e U2 z λa E=>bd m λM B m=>gc 68 E e z (cf_ 267) (P4 H B)<|?_;rintro _ w ⟨rfl,H⟩ a E;exact pk 2 E (kc 68 z e) z λa E=>nt<|have H:=H.drop 0;⟨_,_,E.to z,H,(Y1 b),m⟩
      clear E H m;rintro a w ⟨s,D,E,H,t,m⟩;unfold kW at m;refine wif E m z (λm=>?_) λm=>?_
      ·refine sq<|pn 1 E z λa E=>wR<|bJ<|aH<|aH<|bJ<|aH<|o1 E z<|?_;cases m;exact ⟨z,H.reads t⟩
      exact wK<|bM<|aA<|wG<|pn 2 E z λa E=>⟨l,nL l,_,_,E.to z,H,t,m⟩
     ·refine wX<|aT<|aT<|cL<|aA<|sq<|pn 1 E z λa E=>wR<|o1 E z<|?_;cases m;exact ⟨z,H.reads b⟩

def lF(x1:aE):Option Bool:=
  (zZ x1).bind λb=>some (!b)
theorem Cu{x1:aE}{b:VL}{c:Nat}(H:Sep w (Blk c 124 [.func (.func 266) #[] #[]]::Fo) rs)(d:rSl aQ b x1.Events ∈ rs){r:Bool}(m:lF x1=some r) :
    Cf 319 [.agg (rT x1 b).toArray,pt c 0] w λv w'=>.bool r=v/\Sep w' (Blk c 124 [.func (.func 266) #[] #[]]::Fo) (rs):=by
 unfold lF at m;refine ent func319 z ntmps319 z z λa E=>sq<|bx E H z λf w a H E=>pr 1 E z λa E=>nx<|lb2 E H 1 UH z λa E=>ln 0 (rT x1 b) E H Tf z B3 λa E=>bd m λg e m=>bI E (wn z) z z (bO E z z z ((cf_ 266) _)) (Ru H d e)<|?_;rintro _ w ⟨rfl,H⟩ a E;refine pn 2 E z λa E=>wR<|o1 E z<|have H:=H.drop 0;?_;cases m;exact ⟨z,H.reads Y0⟩

def dU(c:List aE):Nat->Int->Option Int
  | 0,_=>none
  | e+1,b=>
    if (decide (b < (c.length:Int)))=true then ((idx c b).bind λf=>(lF f).bind λd=>if d=true then (some (b)) else (dU c e (IntKind.i64.wrap (b+1)))) else (some ((-1)))
def hB(b:List aE):Option Int:=
  dU b (((b.length:Int) - 0:Int).toNat+1) 0
theorem D3{g:VL}{d:List aE}{e:Nat}(H:Sep w (Blk e 124 [.func (.func 266) #[] #[]]::Fo) rs)(f:rSl aJ g d ∈ rs){r:Int}(m:hB d=some r) :
    Cf 350 [g,.func (.func 319) #[] #[pt e 0]] w λv w'=>.int .i64 r=v/\Sep w' (Blk e 124 [.func (.func 266) #[] #[]]::Fo) (rs):=by
 unfold hB at m;refine ent func350 z ntmps350 z z λa E=>sq<|pn 1 E z λa E=>wS<|sp 1 E z λa E=>lS E H f U71 z λa E=>pr 1 E z λa E=>nt<|wB<|bF (λc a w=>∃ i,Jn 19 a w [(0,g),(1,.func (.func 319) #[] #[pt e 0]),(7,.int .i64 (d.length:Int)),(8,.int .i64 i)] (Blk e 124 [.func (.func 266) #[] #[]]::Fo) rs (dU d c i=some r)) (((d.length:Int) - 0:Int).toNat+1) ?_ ?_
 ·exact ⟨_,_,E.to z,H,Y0,m⟩
 ·clear E H m;rintro c a w ⟨i,l,E,H,b,m⟩;cases c with
  | zero=>exact (bD m z).elim
  | succ c=>
   unfold dU at m;refine sq<|pn 1 E z λa E=>wS<|wif E m z (λm=>?_) λm=>?_
   ·refine wK<|aA<|wS<|wB<|sp 2 E z λa E=>xp 3 E z λa E=>bd m λq k m=>dC E H (wn z) z z z z z (b _ f) U71 B3 k λq10 a H E=>Dd E H (wn z) z z z z m0 Tf z B3 λn a H E=>?_;obtain ⟨o,rfl,h⟩:=Cc H;clear H;have H:=h;refine bd m λp j m=>bI E (wn z) z z (bO E z z z ((cf_ 319) _)) (Cu H m0 j)<|?_;rintro _ w ⟨rfl,H⟩ a E;refine nt<|wif E m z (λm=>?_) λm=>?_
    ·refine sq<|pn 2 E z λa E=>wR<|bJ<|aH<|aH<|bJ<|aH<|o1 E z<|?_;cases m;exact ⟨z,H.reads (Y3 b)⟩
    exact wK<|bM<|aA<|wG<|pn 2 E z λa E=>⟨c,nL c,_,_,E.to z,H,(Y3 b),m⟩
   ·refine wX<|aT<|aT<|cL<|aA<|sq<|pn 1 E z λa E=>wR<|o1 E z<|?_;cases m;exact ⟨z,H.reads b⟩

def gO(b:List aE):Option Bool:=
  (hB b).bind λc=>some (decide (c ≥ 0))
theorem r6{c:VL}{d:List aE}{b:Nat}(H:Sep w (Blk b 124 [.func (.func 266) #[] #[]]::Fo) rs)(e:rSl aJ c d ∈ rs){r:Bool}(m:gO d=some r) :
    Cf 318 [c,.func (.func 319) #[] #[pt b 0]] w λv w'=>.bool r=v/\Sep w' (Blk b 124 [.func (.func 266) #[] #[]]::Fo) (rs):=by
 unfold gO at m;refine ent func318 z ntmps318 z z λa E=>sp 1 E z λa E=>xp 2 E z λa E=>bd m λg f m=>xk2 E z (cf_ 350) (D3 H e f) λw H a E=>pn 2 E z λa E=>wR<|o1 E z<|?_;cases m;exact ⟨z,H.reads Y0⟩

def qB(b:List aE):Option Bool:=
  (gO b).bind λc=>some (!c)
theorem Dw{b:VL}{c:List aE}(H:Sep w (Fo) rs)(d:rSl aJ b c ∈ rs){r:Bool}(m:qB c=some r) :
    Cf 265 [b,.func (.func 266) #[] #[]] w λv w'=>.bool r=v/\Sep w' (Fo) (rs):=by
 unfold qB at m;refine ent func265 z ntmps265 z z λa E=>sq<|bx E H z λf w a H E=>pr 1 E z λa E=>xp 1 E z λa E=>sv2 E z (nR E z z z) λa E=>bd m λg e m=>xk2 E z (cf_ 318) (r6 H d e) λw H a E=>pn 2 E z λa E=>wR<|o1 E z<|have H:=H.drop 0;?_;cases m;exact ⟨z,H.reads Y0⟩

def zN(x1:aP):Option Bool:=
  (sM x1.Session).bind λb=>if b=true then ((sM x1.Num).bind λc=>if c=true then ((fW x1.Path).bind λd=>some (d)) else (some (false))) else (some (false))
theorem Ja{x1:aP}(H:Sep w (Fo) rs){r:Bool}(m:zN x1=some r) :
    Cf 193 [.agg (eG x1).toArray] w λv w'=>.bool r=v/\Sep w' (Fo) (rs):=by
 unfold zN at m;refine ent func193 z ntmps193 z z λa E=>sq<|bx E H z λg w a H E=>pr 1 E z λa E=>xp 1 E z λa E=>lb2 E H 0 U2 z λa E=>bd m λi e m=>xk2 E z (cf_ 267) (P4 H e) λw H a E=>pr 1 E z λa E=>cs m (λb m=>?_) λb m=>?_
 ·refine pk 1 E (kc 6 z b) z λa E=>gl 6 E H 0 b U2 z λa E=>bd m λj f m=>gc 6 E b z (cf_ 267) (P4 H f)<|?_;rintro _ w ⟨rfl,H⟩ a E;refine pk 2 E (kc 6 z b) z λa E=>cs m (λc m=>?_) λc m=>?_
  ·refine pk 1 E (kc 11 z c) z λa E=>gl 11 E H 0 c U9 z λa E=>bd m λk d m=>gc 11 E c z (cf_ 83) (kQ H d)<|?_;rintro _ w ⟨rfl,H⟩ a E;refine pk 2 E (kc 11 z c) z λa E=>nt<|wR<|o1 E z<|have H:=H.drop 0;?_;cases m;exact ⟨z,H.reads Y0⟩
  refine pk 5 E (kc 11 z c) z λa E=>nt<|wR<|o1 E z<|have H:=H.drop 0;?_;cases m;exact ⟨z,H.reads Y0⟩
 ·refine pk 10 E (kc 6 z b) z λa E=>nt<|wR<|o1 E z<|have H:=H.drop 0;?_;cases m;exact ⟨z,H.reads Y0⟩

def mG(x1:aP):Option Bool:=
  (zN x1).bind λb=>some (!b)
theorem Dx{x1:aP}{b:Nat}(H:Sep w (Blk b 236 [.func (.func 193) #[] #[]]::Fo) rs){r:Bool}(m:mG x1=some r) :
    Cf 317 [.agg (eG x1).toArray,pt b 0] w λv w'=>.bool r=v/\Sep w' (Blk b 236 [.func (.func 193) #[] #[]]::Fo) (rs):=by
 unfold mG at m;refine ent func317 z ntmps317 z z λa E=>sq<|bx E H z λd w a H E=>pr 1 E z λa E=>nx<|lb2 E H 1 UG z λa E=>ln 0 (eG x1) E H U35 z yQ λa E=>bd m λe c m=>bI E (wn z) z z (bO E z z z ((cf_ 193) _)) (Ja H c)<|?_;rintro _ w ⟨rfl,H⟩ a E;refine pn 2 E z λa E=>wR<|o1 E z<|have H:=H.drop 0;?_;cases m;exact ⟨z,H.reads Y0⟩

def eK(c:List aP):Nat->Int->Option Int
  | 0,_=>none
  | e+1,b=>
    if (decide (b < (c.length:Int)))=true then ((idx c b).bind λf=>(mG f).bind λd=>if d=true then (some (b)) else (eK c e (IntKind.i64.wrap (b+1)))) else (some ((-1)))
def jH(b:List aP):Option Int:=
  eK b (((b.length:Int) - 0:Int).toNat+1) 0
theorem K4{g:VL}{d:List aP}{e:Nat}(H:Sep w (Blk e 236 [.func (.func 193) #[] #[]]::Fo) rs)(f:rSl aR g d ∈ rs){r:Int}(m:jH d=some r) :
    Cf 268 [g,.func (.func 317) #[] #[pt e 0]] w λv w'=>.int .i64 r=v/\Sep w' (Blk e 236 [.func (.func 193) #[] #[]]::Fo) (rs):=by
 unfold jH at m;refine ent func268 z ntmps268 z z λa E=>sq<|pn 1 E z λa E=>wS<|sp 1 E z λa E=>lS E H f U70 z λa E=>pr 1 E z λa E=>nt<|wB<|bF (λc a w=>∃ i,Jn 19 a w [(0,g),(1,.func (.func 317) #[] #[pt e 0]),(7,.int .i64 (d.length:Int)),(8,.int .i64 i)] (Blk e 236 [.func (.func 193) #[] #[]]::Fo) rs (eK d c i=some r)) (((d.length:Int) - 0:Int).toNat+1) ?_ ?_
 ·exact ⟨_,_,E.to z,H,Y0,m⟩
 ·clear E H m;rintro c a w ⟨i,l,E,H,b,m⟩;cases c with
  | zero=>exact (bD m z).elim
  | succ c=>
   unfold eK at m;refine sq<|pn 1 E z λa E=>wS<|wif E m z (λm=>?_) λm=>?_
   ·refine wK<|aA<|wS<|wB<|sp 2 E z λa E=>xp 3 E z λa E=>bd m λo k m=>dC E H (wn z) z z z z z (b _ f) U70 yQ k λq10 a H E=>ldf mQ E H z z z z z m0 U35 z yQ λa E=>bd m λn j m=>bI E (wn z) z z (bO E z z z ((cf_ 317) _)) (Dx H j)<|?_;rintro _ w ⟨rfl,H⟩ a E;refine nt<|wif E m z (λm=>?_) λm=>?_
    ·refine sq<|pn 2 E z λa E=>wR<|bJ<|aH<|aH<|bJ<|aH<|o1 E z<|?_;cases m;exact ⟨z,H.reads (Y1 b)⟩
    exact wK<|bM<|aA<|wG<|pn 2 E z λa E=>⟨c,nL c,_,_,E.to z,H,(Y1 b),m⟩
   ·refine wX<|aT<|aT<|cL<|aA<|sq<|pn 1 E z λa E=>wR<|o1 E z<|?_;cases m;exact ⟨z,H.reads b⟩

def iC(b:List aP):Option Bool:=
  (jH b).bind λc=>some (decide (c ≥ 0))
theorem E6{c:VL}{d:List aP}{b:Nat}(H:Sep w (Blk b 236 [.func (.func 193) #[] #[]]::Fo) rs)(e:rSl aR c d ∈ rs){r:Bool}(m:iC d=some r) :
    Cf 316 [c,.func (.func 317) #[] #[pt b 0]] w λv w'=>.bool r=v/\Sep w' (Blk b 236 [.func (.func 193) #[] #[]]::Fo) (rs):=by
 unfold iC at m;refine ent func316 z ntmps316 z z λa E=>sp 1 E z λa E=>xp 2 E z λa E=>bd m λg f m=>xk2 E z (cf_ 268) (K4 H e f) λw H a E=>pn 2 E z λa E=>wR<|o1 E z<|?_;cases m;exact ⟨z,H.reads Y0⟩

def sN(b:List aP):Option Bool:=
  (iC b).bind λc=>some (!c)
theorem Gp{b:VL}{c:List aP}(H:Sep w (Fo) rs)(d:rSl aR b c ∈ rs){r:Bool}(m:sN c=some r) :
    Cf 264 [b,.func (.func 193) #[] #[]] w λv w'=>.bool r=v/\Sep w' (Fo) (rs):=by
 unfold sN at m;refine ent func264 z ntmps264 z z λa E=>sq<|bx E H z λf w a H E=>pr 1 E z λa E=>xp 1 E z λa E=>sv2 E z (nR E z z z) λa E=>bd m λg e m=>xk2 E z (cf_ 316) (E6 H d e) λw H a E=>pn 2 E z λa E=>wR<|o1 E z<|have H:=H.drop 0;?_;cases m;exact ⟨z,H.reads Y0⟩

def G2(rec_1:Int->Vy->Option Bool)(c:Int)(b:Vy):Option Bool:=
  rec_1 (IntKind.i64.wrap (c+1)) b
def yZ(rec_2:Bool->Int->Option Bool)(b:Int)(c:Bool):Option Bool:=
  rec_2 c (IntKind.i64.wrap (b+1))
def iZ(x1:aY)(d:Vy):Nat->Bool->Int->Option Bool
  | 0,_,_=>none
  | e+1,c,b=>
    if (decide (b < (x1.Sessions.length:Int)))=true then (if c=true then ((idx x1.Sessions (IntKind.i64.wrap (b - 1))).bind λf=>(idx x1.Sessions b).bind λg=>yZ (iZ x1 d e) b (decide (f.Num < g.Num))) else (yZ (iZ x1 d e) b false)) else (if (decide ((x1.Watches.length:Int) <= 64))=true then (if ((d.length:Int) == (x1.Watches.length:Int))=true then ((sN x1.Watches).bind λi=>if i=true then ((qB x1.Sessions).bind λj=>if j=true then (some (c)) else (some (false))) else (some (false))) else (some (false))) else (some (false)))
def pB(x1:aY):Nat->Int->Vy->Option Bool
  | 0,_,_=>none
  | f+1,d,c=>
    if (decide (d < (x1.Watches.length:Int)))=true then ((idx x1.Watches d).bind λb=>(mlk Q4 c (b.Session,b.Num)).bind λe=>(ck (Q4.ok (b.Session,b.Num)=true/\c.length+1 < maxLen)).bind λg=>G2 (pB x1 f) d (hY c (b.Session,b.Num) (IntKind.i64.wrap ((e.getD 0)+1)))) else (iZ x1 c (((x1.Sessions.length:Int) - 1:Int).toNat+1) true 1)
def uA(x1:aY):Option Bool:=
  pB x1 (((x1.Watches.length:Int) - 0:Int).toNat+1) 0 []
theorem S7{x1:aY}{n D:VL}(H:Sep w (Fo) rs)(o:rSl aR n x1.Watches ∈ rs)(F:rSl aJ D x1.Sessions ∈ rs){r:Bool}(m:uA x1=some r) :
    Cf 192 [.agg #[n,D]] w λv w'=>.bool r=v/\Sep w' (Fo) (rs):=by
 unfold uA at m;refine ent func192 z ntmps192 z z λa E=>sq<|bx E H z λp w a H E=>pr 1 E z λa E=>nx<|J4 (k:=294) (K:=Q4) (d:=(kI .i64)) (g:=false) E H (wn z) z z z λq w a H E=>pn 1 E z λa E=>wS<|sp 1 E z λa E=>lb2 E H 1 U70 z λa E=>lS E H o U70 z λa E=>pn 1 E z λa E=>wB<|bF (λt a w=>∃ G x,Jn 76 a w [(1,pt p 0),(3,.map (some q)),(10,n),(11,.int .i64 (x1.Watches.length:Int)),(12,.int .i64 G)] (Blk p 73 [n,D]::bX Tryz.prog 294 Q4 (kI .i64) false q x::Fo) rs (pB x1 t G x=some r)) (((x1.Watches.length:Int) - 0:Int).toNat+1) ?_ ?_
 ·exact have H:=H.frs [0,1] z;X3 ⟨E.to z,H,Y0,m⟩
 ·clear E H m;rintro t a w ⟨G,x,b4,E,H,l,m⟩;cases t with
  | zero=>exact (bD m z).elim
  | succ t=>
   unfold pB at m;refine sq<|pn 1 E z λa E=>wS<|wif E m z (λm=>?_) λm=>?_
   ·refine wK<|aA<|aL (λa w=>∃ I,Jn 76 a w [(1,pt p 0),(3,.map (some q)),(10,n),(11,.int .i64 (x1.Watches.length:Int)),(12,.int .i64 G)] (Blk p 73 [n,D]::bX Tryz.prog 294 Q4 (kI .i64) false q I::Fo) rs (G2 (pB x1 t) G I=some r)) ?_ ?_
    ·refine wB<|sq<|bd m λB Q m=>dC E H (wn z) z z z z z (l _ o) U70 yQ Q λq17 a H E=>ldf mQ E H z z z z z m0 U35 z yQ λa E=>al2 E H z PM λC w a H E=>ss 0 E H z yQ z λw H=>nt<|bd m λO J m=>bk m λL m=>?_;have hI:dN [Blk C 35 (eG B)] [] { w with drawn:=w.drawn+1 }:=⟨_,_,H.kept (Kp.drawn _ w _),(aV m0 (bQ)),(bT)⟩
     refine qJ _ (.go 0 0 (.go 1 0 (.go 2 0 (.go 3 0 (.go 4 0 (.go 5 0 (.alt 6 (.go 7 0 (.go 8 1 (.go 9 0 (.go 10 2 .nil)))) 8 (.go 9 0 (.go 6 1 (.go 7 0 (.go 10 2 .nil))))))))))) [10] qS (by kernel_rfl) (λ_ _ _ h=>False.elim h.2) hI<|have H:=H.kept (Kp.drawn _ w (w.drawn+1));?_;generalize ({ w with drawn:=w.drawn+1 }:WD)=w at H hI ⊢
     replace hI:∃ W,dN [Blk C 35 (eG B)] [] W:=⟨_,hI⟩
     obtain ⟨W0,hI⟩:=hI;refine om E z λa E=>ov E z (λw hW=>oR E z z (v:=pt C 0) (Qz _ _)) λa E=>ol E m0 U2 z λa E=>ov E z (λw hW=>oR E z z (v:=pt C 1) (Xk _ _)) λa E=>ol E m0 U2 z λa E=>ov E z (λw hW=>(cN E z (E.evs z) (v:=.agg #[.int .i64 B.Session,.int .i64 B.Num]) (by kernel_rfl))) λa E=>rD z z ?_ ?_
     ·refine sv2 E z (Xa (i:=2) (K:=Q4) (z0:=0) (u:=O) E H z z z z Gf Pe Xm J) λa E=>nt<|⟨sx H [0] z,ov E z (λw hW=>(oN E z z z z)) λa E=>cO z<|Nt (i:=2) (K:=Q4) (z0:=0) E H (wn z) z z z z z z Gf Pe Xm L λq33 w a H E=>nt<|⟨sx H [0] z,ox E z λa E=>dF z<|It (i:=2) (K:=Q4) E H (wn z) z z z z z z Gf Pe λw H=>nt<|fK<|?_⟩⟩
      clear hI;exact bM<|aA<|have H:=H.drop 0;⟨_,_,E.to z,H,(Y1 l),m⟩
     refine Nt (i:=2) (K:=Q4) (z0:=0) E H (wn z) z z z z z z Gf Pe Xm L λq36 w a H E=>nt<|⟨sx H [0] z,ox E z λa E=>cO z<|sv2 E z (HI (i:=2) (K:=Q4) (z0:=0) (u:=O) E H z z z z Gf Pe Xm J) λa E=>nt<|⟨sx H [0] z,ov E z (λw hW=>(oN E z z z z)) λa E=>dF z<|It (i:=2) (K:=Q4) E H (wn z) z z z z z z Gf Pe λw H=>nt<|fK<|?_⟩⟩
     clear hI;exact bM<|aA<|have H:=H.drop 0;⟨_,_,E.to z,H,(Y1 l),m⟩
    clear E H m;rintro a w ⟨I,b5,E,H,R,m⟩;unfold G2 at m;exact wG<|pn 2 E z λa E=>⟨t,nL t,X3 ⟨E.to z,H,R,m⟩⟩
   ·refine wX<|aT<|aT<|cL<|aA<|sq<|pn 1 E z λa E=>wS<|sq<|pn 1 E z λa E=>wB<|bF (λy a w=>∃ M s,Jn 76 a w [(1,pt p 0),(3,.map (some q)),(6,.bool M),(7,.int .i64 s)] (Blk p 73 [n,D]::bX Tryz.prog 294 Q4 (kI .i64) false q x::Fo) rs (iZ x1 x y M s=some r)) (((x1.Sessions.length:Int) - 1:Int).toNat+1) ?_ ?_
    ·exact X3 ⟨E.to z,H,l,m⟩
    ·clear E H m;rintro y a w ⟨M,s,b6,E,H,c,m⟩;cases y with
     | zero=>exact (bD m z).elim
     | succ y=>
      unfold iZ at m;refine wS<|sp 2 E z λa E=>lb2 E H 0 U71 z λa E=>lS E H (c _ F) U71 z λa E=>pn 1 E z λa E=>wif E m z (λm=>?_) λm=>?_
      ·refine wK<|aA<|aL (λa w=>∃ N,Jn 76 a w [(1,pt p 0),(3,.map (some q)),(6,.bool N),(7,.int .i64 s)] (Blk p 73 [n,D]::bX Tryz.prog 294 Q4 (kI .i64) false q x::Fo) rs (yZ (iZ x1 x y) s N=some r)) ?_ ?_
       ·refine wB<|?_;obtain ⟨b8,H⟩:=H.raw (c _ F);refine dw [(0,0),(1,0),(2,0),(3,0),(4,0),(5,0),(6,0),(7,0),(8,0),(9,0),(10,0),(11,0),(12,0),(13,0),(14,0),(15,0),(16,0),(17,2)] [0] [0] H (by kernel_rfl) (λ_ _ _ h=>False.elim h.2) λw W0 hI H=>fn 2 E z λa E=>cs m (λb m=>?_) λb m=>?_
        ·refine fk 1 E (kc 35 z b) z λa E=>fb E z (ws' (d:=35) E z z z z b) z z z z m0 z U71 z λa E=>fk 2 E (kc 35 z b) z λa E=>bd m λb9 S m=>?_;obtain ⟨q50,c0,T,U⟩:=gD (P:=Tryz.prog) (k:=.i64) hI (gC (.head _)) U71 B3 S;refine dV E z (ws' (d:=35) E z z z z b) z z (λw hW=>iO E z z z (T w)) λa E=>?_;have V:=tC U (λ_ _ _ h=>Cj h);refine fk 1 E (kc 35 z b) z λa E=>fa E z (ws' (d:=35) E z z z z b) z z z z V U2 z λa E=>fk 1 E (kc 35 z b) z λa E=>fb E z (ws' (d:=35) E z z z z b) z z z z m0 z U71 z λa E=>fk 1 E (kc 35 z b) z λa E=>bd m λc1 X m=>?_;obtain ⟨q57,c2,Y,Z⟩:=gD (P:=Tryz.prog) (k:=.i64) hI (gC (.head _)) U71 B3 X;refine dV E z (ws' (d:=35) E z z z z b) z z (λw hW=>iO E z z z (Y w)) λa E=>?_;have b0:=tC Z (λ_ _ _ h=>Cj h);refine fk 1 E (kc 35 z b) z λa E=>fa E z (ws' (d:=35) E z z z z b) z z z z b0 U2 z λa E=>fk 2 E (kc 35 z b) z λa E=>bK z<|pn 1 E z λa E=>bG<|?_;clear hI;exact bM<|aA<|⟨_,_,E.to z,H,(Y1 c),m⟩
        refine fk 15 E (kc 35 z b) z λa E=>bK z<|pn 1 E z λa E=>bG<|?_;clear hI;exact bM<|aA<|⟨_,_,E.to z,H,(Y1 c),m⟩
       clear E H m;rintro a w ⟨N,b7,E,H,b1,m⟩;unfold yZ at m;exact wG<|pn 3 E z λa E=>⟨y,nL y,X3 ⟨E.to z,H,b1,m⟩⟩
      ·refine wX<|aT<|aT<|cL<|aA<|sp 1 E z λa E=>lb2 E H 0 U70 z λa E=>lS E H (c _ o) U70 z λa E=>pr 2 E z λa E=>cs m (λe m=>?_) λe m=>?_
       ·refine pk 1 E (kc 55 z e) z λa E=>gv 55 E e z (Bs (i:=1) E H z z z Pe) λa E=>pk 1 E (kc 55 z e) z λa E=>gl 55 E H 0 e U70 z λa E=>gv 55 E e z (xO E H z z (c _ o) U70) λa E=>pk 3 E (kc 55 z e) z λa E=>cs m (λf m=>?_) λf m=>?_
        ·refine pk 1 E (kc 63 z f) z λa E=>gl 63 E H 0 f U70 z λa E=>bd m λc3 b2 m=>gc 63 E f z (cf_ 264) (Gp H (c _ o) b2)<|?_;rintro _ w ⟨rfl,H⟩ a E;refine pk 2 E (kc 63 z f) z λa E=>cs m (λj m=>?_) λj m=>?_
         ·refine pk 1 E (kc 68 z j) z λa E=>gl 68 E H 0 j U71 z λa E=>bd m λc4 b3 m=>gc 68 E j z (cf_ 265) (Dw H (c _ F) b3)<|?_;rintro _ w ⟨rfl,H⟩ a E;refine pk 2 E (kc 68 z j) z λa E=>cs m (λA m=>?_) λA m=>?_
          ·refine pk 3 E (kc 73 z A) z λa E=>nt<|wR<|o1 E z<|have H:=H.drs [0,0];?_;cases m;exact ⟨z,H.reads c⟩
          refine pk 3 E (kc 73 z A) z λa E=>nt<|wR<|o1 E z<|have H:=H.drs [0,0];?_;cases m;exact ⟨z,H.reads c⟩
         refine pk 8 E (kc 68 z j) z λa E=>nt<|wR<|o1 E z<|have H:=H.drs [0,0];?_;cases m;exact ⟨z,H.reads c⟩
        refine pk 13 E (kc 63 z f) z λa E=>nt<|wR<|o1 E z<|have H:=H.drs [0,0];?_;cases m;exact ⟨z,H.reads c⟩
       ·refine pk 21 E (kc 55 z e) z λa E=>nt<|wR<|o1 E z<|have H:=H.drs [0,0];?_;cases m;exact ⟨z,H.reads c⟩

def tL(x1:aY)(d:BY)(e:Int)(c:Bool):Option Hq:=
  if c=true then (some ((⟨[],[]⟩:aY),1)) else ((ck (x1.Sessions.length <= LIM)).bind λf=>(ck (x1.Watches.length <= LIM)).bind λg=>(gG x1.Watches d x1.Sessions e).bind λb=>some ((⟨b.1,b.2⟩:aY),0))
def Z8(x1:aY)(b:Int)(c:BY):Option Hq:=
  (uA x1).bind λd=>if (!d)=true then (tL x1 c b true) else (if (decide (b < 1))=true then (tL x1 c b true) else (if (decide (b > 3))=true then (tL x1 c b true) else ((fW c).bind λe=>tL x1 c b (!e))))
theorem Xv{x1:aY}{j k:VL}{l:Int}{n:BY}(H:Sep w (Fo) rs)(o:rSl aR j x1.Watches ∈ rs)(p:rSl aJ k x1.Sessions ∈ rs){r:aY×Int}(m:Z8 x1 l n=some r) :
    Cf 302 [.agg #[j,k],.int .i64 l,.string n] w λv w'=>∃ C D,.tuple #[.agg #[C,D],.int .i64 r.2]=v/\Sep w' (Fo) (rSl aR C r.1.Watches::rSl aJ D r.1.Sessions::rs):=by
 unfold Z8 at m;refine ent func302 z ntmps302 z z λa E=>sq<|bx E H z λF w a H E=>bx E H z λG w a H E=>bx E H z λq w a H E=>al2 E H z Hl λs w a H E=>pn 1 E z λa E=>wS<|aL (λa w=>∃ f,Jn 36 a w [(3,pt F 0),(4,pt G 0),(5,pt q 0),(6,pt s 0),(23,.bool f)] (Blk F 73 [j,k]::Blk G 3 [.int .i64 l]::Blk q 9 [.string n]::Blk s 73 [nS,nS]::Fo) rs (tL x1 n l f=some r)) ?_ ?_
 ·refine wG<|ln 3 [j,k] E H U73 z gT λa E=>bd m λL u m=>xk2 E z (cf_ 192) (S7 H o p u) λw H a E=>pr 2 E z λa E=>cs m (λc m=>?_) λc m=>?_
  ·exact pk 12 E (kc 11 z c) z λa E=>nt<|have H:=H.frs [0,1,2,3] z;⟨_,_,E.to z,H,Y0,m⟩
  refine gl 11 E H 2 c U3 z λa E=>pk 3 E (kc 11 z c) z λa E=>cs m (λd m=>?_) λd m=>?_
  ·exact pk 8 E (kc 15 z d) z λa E=>nt<|have H:=H.frs [0,1,2,3] z;⟨_,_,E.to z,H,Y0,m⟩
  refine gl 15 E H 2 d U3 z λa E=>pk 3 E (kc 15 z d) z λa E=>cs m (λb m=>?_) λb m=>?_
  ·exact pk 4 E (kc 19 z b) z λa E=>nt<|have H:=H.frs [0,1,2,3] z;⟨_,_,E.to z,H,Y0,m⟩
  refine gl 19 E H 1 b U9 z λa E=>bd m λM x m=>gc 19 E b z (cf_ 83) (kQ H x)<|?_;rintro _ w ⟨rfl,H⟩ a E;exact pk 2 E (kc 19 z b) z λa E=>nt<|have H:=H.frs [0,1,2,3] z;⟨_,_,E.to z,H,Y0,m⟩
 ·clear E H m;rintro a w ⟨f,K,E,H,e,m⟩;unfold tL at m;refine wif E m z (λm=>?_) λm=>?_
  ·refine sq<|sv2 E z (cN E z (E.evs z) (v:=.agg #[nS,nS]) (by kernel_rfl)) λa E=>ss 3 E H z gT z λw H=>pn 1 E z λa E=>wR<|aH<|A9 E z (qI (i:=3) (us:=[nS,nS]) H z z z U73 z gT) (rvT z)<|have H:=H.nilSl aR;have H:=H.nilSl aJ;have H:=H.drs [0,0,0,0];?_;cases m;exact ⟨_,_,z,H.rdx [1,0] z (λr hr=>(t2 (e r hr)))⟩
  ·refine wK<|aA<|sp 1 E z λa E=>lb2 E H 0 U71 z λa E=>bk m λy m=>xc2 E z (cf_ 75) (gX H (e _ p) y) λN w H a E=>pr 1 E z λa E=>?_;obtain ⟨q18,O,rfl⟩:=H.rowform (i:=0) z;refine ss 1 E H z Xn z λw H=>xp 1 E z λa E=>lb2 E H 1 U70 z λa E=>bk m λA m=>xc2 E z (cf_ 74) (iR H (e _ o) A) λP w H a E=>sv2 E z (nR E z z z) λa E=>have H:=H.frs [5,4,3,4,5,5] z;bd m λg B m=>xc2 E z (cf_ 333) (I8 H B)<|?_;rintro _ w ⟨Q,I,rfl,H⟩ a E;refine pr 1 E z λa E=>?_;obtain ⟨q27,t,rfl⟩:=H.rowform (i:=0) z;refine ss 2 E H z CK z λw H=>nx<|ln 2 [(.slice q27 g.1.length t),I] E H U73 z gT λa E=>?_;obtain ⟨q29,J,rfl⟩:=H.rowform (i:=4) z;refine ss 5 E H z gT z λw H=>pn 1 E z λa E=>wR<|A9 E z (qI (i:=5) (us:=[(.slice q27 g.1.length t),(.slice q29 g.2.length J)]) H z z z U73 z gT) (rvT z)<|have H:=H.thaw (i:=0) z;have H:=H.thaw (i:=3) z;have H:=H.drs [0,0,0,0];?_;cases m;exact ⟨_,_,z,H.rdx [1,0] z (λr hr=>(t2 (e r hr)))⟩

def gQ(c:List aP)(d:List aE)(x20:Int)(e:BY):Option Z5:=
  (Z8 (⟨c,d⟩:aY) x20 e).bind λb=>if (b.2 == 0)=true then (some (b.1.Watches,b.1.Sessions)) else (some (c,d))
theorem yC{s:Nat}{b c i j k l n o p:VL}{d:List aP}{e:List aE}{x20:Int}{q:BY}(H:Sep w (Blk s 87 [i,j,k,l,b,c,n,o,p]::Fo) rs)(f:rSl aR b d ∈ rs)(g:rSl aJ c e ∈ rs){r:eZ×dY}(m:gQ d e x20 q=some r) :
    Cf 233 [pt s 0,.int .i64 x20,.string q] w λv w'=>∃ u x,.tuple #[]=v/\Sep w' (Blk s 87 [i,j,k,l,u,x,n,o,p]::Fo) (rSl aR u r.1::rSl aJ x r.2::rs):=by
 unfold gQ at m;refine ent func233 z ntmps233 z z λa E=>sp 3 E z λa E=>ln 0 [b,c] E H U73 z gT λa E=>pr 2 E z λa E=>bd m λB t m=>xc2 E z (cf_ 302) (Xv (x1:=(⟨d,e⟩:aY)) H f g t)<|?_;rintro _ w ⟨y,A,rfl,H⟩ a E;refine pr 3 E z λa E=>al2 E H z Hl λC w a H E=>ss 0 E H z gT (kM H m0 mm1) λw H=>pr 1 E z λa E=>nx<|pn 2 E z λa E=>wif E m z (λm=>?_) λm=>?_
 ·refine wG<|pr 1 E z λa E=>ln 0 [y,A] E H U73 z gT λa E=>pr 2 E z λa E=>ss 1 E H z gT (kM H m0 mm1) λw H=>wN<|xI E z<|have H:=H.drop 0;?_;cases m;exact ⟨_,_,z,H.rdx [0,1] z (λr hr=>(t2 hr))⟩
 ·refine wK<|xI E z<|have H:=H.drop 0;?_;cases m;exact ⟨_,_,z,H.reads (aD (t2 f) (aD (t2 g) (λr hr=>(t2 hr))))⟩

end Go.Cb
