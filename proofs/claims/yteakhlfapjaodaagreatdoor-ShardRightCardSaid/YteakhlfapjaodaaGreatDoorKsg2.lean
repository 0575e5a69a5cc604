/- Functions of the program, walked: each comes to its plain function. -/
import Derived.Test.YteakhlfapjaodaaGreatDoorKsg1
import Derived.Test.YteakhlfapjaodaaGreatDoorExsg
set_option linter.unusedVariables false
set_option linter.unusedSimpArgs false
set_option maxRecDepth 20000
set_option maxHeartbeats 1000000
namespace Go.Cb
open Go.Proofs Go.RowKit Tryz
variable {w:WD} {Fo:List Ob} {rs:List Rp}

def lR(x1:aR)(g:eI)(i:dU)(b:Int)(c:BY)(d:BY)(e:Int)(f:eH):Option (aR×eG):=
  if (b != 0)=true then (some (x1,(⟨b,c,d,e,f⟩:eG))) else (some ((⟨g,i⟩:aR),(⟨b,c,d,e,f⟩:eG)))
def G6(x1:aR)(b:bF)(m:Bool):Option (aR×eG):=
  if m=true then (some ((⟨[],[]⟩:aR),(⟨1,(ByteArray.mk #[]),(ByteArray.mk #[]),0,[]⟩:eG))) else ((ck (x1.Nodes.length <= LIM)).bind λ o=>(ck (x1.Turns.length <= LIM)).bind λ p=>if (b.Kind == 1)=true then ((xE x1.Nodes 0 (ByteArray.mk #[]) (ByteArray.mk #[]) 0 [] b).bind λ g=>lR x1 x1.Nodes x1.Turns g.1 g.2.1 g.2.2.1 g.2.2.2.1 g.2.2.2.2) else (if (b.Kind == 2)=true then ((zF x1.Nodes x1.Turns 0 (ByteArray.mk #[]) 0 [] b).bind λ c=>lR x1 c.1 c.2.1 c.2.2.1 c.2.2.2.1 c.2.2.2.2.1 c.2.2.2.2.2.1 c.2.2.2.2.2.2) else (if (b.Kind == 3)=true then ((vP x1.Nodes 0 (ByteArray.mk #[]) (ByteArray.mk #[]) 0 [] b).bind λ d=>lR x1 d.1 x1.Turns d.2.1 d.2.2.1 d.2.2.2.1 d.2.2.2.2.1 d.2.2.2.2.2) else (if (b.Kind == 4)=true then ((q4 x1.Nodes x1.Turns 0 (ByteArray.mk #[]) (ByteArray.mk #[]) 0 [] b).bind λ e=>lR x1 x1.Nodes e.1 e.2.1 e.2.2.1 e.2.2.2.1 e.2.2.2.2.1 e.2.2.2.2.2) else (if (b.Kind == 5)=true then ((xC x1.Nodes 0 (ByteArray.mk #[]) (ByteArray.mk #[]) 0 [] b).bind λ f=>lR x1 f.1 x1.Turns f.2.1 f.2.2.1 f.2.2.2.1 f.2.2.2.2.1 f.2.2.2.2.2) else (if (b.Kind == 6)=true then ((yC x1.Nodes 0 (ByteArray.mk #[]) (ByteArray.mk #[]) 0 [] b).bind λ i=>lR x1 x1.Nodes x1.Turns i.1 i.2.1 i.2.2.1 i.2.2.2.1 i.2.2.2.2) else (if (b.Kind == 7)=true then ((yD x1.Nodes 0 (ByteArray.mk #[]) (ByteArray.mk #[]) 0 [] b).bind λ j=>lR x1 x1.Nodes x1.Turns j.1 j.2.1 j.2.2.1 j.2.2.2.1 j.2.2.2.2) else (if (b.Kind == 8)=true then ((zE x1.Nodes 0 (ByteArray.mk #[]) (ByteArray.mk #[]) 0 [] b).bind λ k=>lR x1 x1.Nodes x1.Turns k.1 k.2.1 k.2.2.1 k.2.2.2.1 k.2.2.2.2) else (if (b.Kind == 9)=true then ((xF x1.Nodes [] b).bind λ n=>lR x1 x1.Nodes x1.Turns 0 (ByteArray.mk #[]) (ByteArray.mk #[]) 0 n) else (if (b.Kind == 10)=true then ((xD x1.Nodes [] b).bind λ l=>lR x1 l.1 x1.Turns 0 (ByteArray.mk #[]) (ByteArray.mk #[]) 0 l.2) else none))))))))))
def Z1(x1:aR)(b:bF):Option (aR×eG):=
  (sQ x1).bind λ c=>if (!c)=true then (G6 x1 b true) else ((K1 b).bind λ d=>G6 x1 b (!d))
theorem BE{x1:aR}{p q:VL}{c:bF}(H:Sep w (Fo) rs)(s:rSl aB p x1.Nodes ∈ rs)(t:rSl aC q x1.Turns ∈ rs)(b9:N5 Tryz.prog ∈ rs){r:aR×eG}(m:Z1 x1 c=some r) :
    Cf 64 [.agg #[p,q],.agg (bZ c).toArray] w λ v w'=>∃ c0 c1 c2,.tuple #[.agg #[c0,c1],.agg (Hi r.2 c2).toArray]=v/\Sep w' (Fo) (rSl aB c0 r.1.Nodes::rSl aC c1 r.1.Turns::rSl kS c2 r.2.Names::rs):=by
 unfold Z1 at m
 refine ent func64 z ntmps64 z z λ a E=>sq<|bx E H z λ Q w a H E=>bx E H z λ c3 w a H E=>al2 E H z pJ λ u w a H E=>al2 E H z LS λ x w a H E=>nx<|sv2 E z (cH E z (E.evs z) (v:=.agg #[.nilFunc,.func (.func 125) #[] #[],.func (.func 126) #[] #[],.func (.func 127) #[] #[],.func (.func 128) #[] #[],.func (.func 129) #[] #[],.func (.func 130) #[] #[],.func (.func 131) #[] #[],.func (.func 132) #[] #[],.func (.func 133) #[] #[],.func (.func 134) #[] #[]]) (by kernel_rfl)) λ a E=>al2 E H z PF λ R w a H E=>ss 0 E H z PG z λ w H=>nt<|wS<|aJ (λ a w=>∃ D,Jn 54 a w [(2,pt Q 0),(3,pt c3 0),(4,pt u 0),(5,pt x 0),(6,pt R 0),(16,.bool D)] (Blk Q 25 [p,q]::Blk c3 97 (bZ c)::Blk u 25 [nS,nS]::Blk x 93 Hj::Blk R 183 [.nilFunc,.func (.func 125) #[] #[],.func (.func 126) #[] #[],.func (.func 127) #[] #[],.func (.func 128) #[] #[],.func (.func 129) #[] #[],.func (.func 130) #[] #[],.func (.func 131) #[] #[],.func (.func 132) #[] #[],.func (.func 133) #[] #[],.func (.func 134) #[] #[]]::Fo) rs (G6 x1 c D=some r)) ?_ ?_
 ·refine wG<|ln 4 [p,q] E H U25 z dN λ a E=>bd m λ d0 V m=>xk2 E z (cf_ 37) (Q8 H s t V) λ w H a E=>pr 2 E z λ a E=>cs m (λ e m=>?_) λ e m=>?_
  ·exact pk 4 E (kc 12 z e) z λ a E=>nt<|have H:=H.frs [0,1,2,3,4] z;⟨_,_,E.to z,H,Y0,m⟩
  ·refine gv 12 E e z (Aq (i:=3) (us:=(bZ c)) E H z z z z U97 z mP) λ a E=>bd m λ d1 W m=>gc 12 E e z (cf_ 121) (Ot H W)<|?_
   rintro _ w ⟨rfl,H⟩ a E
   exact pk 2 E (kc 12 z e) z λ a E=>nt<|have H:=H.frs [0,1,2,3,4] z;⟨_,_,E.to z,H,Y0,m⟩
 ·clear E H m
  rintro a w ⟨D,c8,E,H,b,m⟩
  unfold G6 at m
  refine wif E m z (λ m=>?_) λ m=>?_
  ·refine sq<|sv2 E z (cH E z (E.evs z) (v:=.agg #[nS,nS]) (by kernel_rfl)) λ a E=>sv2 E z (cH E z (E.evs z) (v:=.agg #[.int .i64 1,.string (ByteArray.mk #[]),.string (ByteArray.mk #[]),.int .i64 0,nS]) (by kernel_rfl)) λ a E=>ss 2 E H z dN z λ w H=>ss 3 E H z V2 z λ w H=>nt<|wR<|aG<|zW E z (qH (i:=2) (us:=[nS,nS]) H z z z U25 z dN) (qH (i:=3) (us:=[.int .i64 1,.string (ByteArray.mk #[]),.string (ByteArray.mk #[]),.int .i64 0,nS]) H z z z U93 z V2)<|have H:=H.nilSl aB;have H:=H.nilSl aC;have H:=H.nilSl kS;have H:=H.drs [0,0,0,0,0];?_
   cases m
   exact X3 ⟨z,H.rdx [2,1,0] z (λ r hr=>(t3 (b r hr)))⟩
  ·refine wK<|aA<|wS<|dw [(0,0),(1,0),(3,0),(4,0),(2,1),(5,1),(6,0),(7,0),(8,1),(9,2)] [0] [] H (by kernel_rfl) (λ _ _ _ h=>False.elim h.2) λ w W0 hI H=>fn 1 E z λ a E=>fb2 E m0 U22 z λ a E=>fn 1 E z λ a E=>fb2 E m0 U23 z λ a E=>bQ z<|bk m λ X m=>xc2 E z (cf_ 56) (uW H (b _ s) X) λ d2 w H a E=>nt<|⟨sx H [1] z,bQ z<|bk m λ Y m=>xc2 E z (cf_ 57) (uX H (b _ t) Y) λ d3 w H a E=>nt<|⟨sx H [2] z,?_⟩⟩
   obtain ⟨q22,S,rfl⟩:=H.rowform (i:=1) z
   obtain ⟨q24,T,rfl⟩:=H.rowform (i:=0) z
   refine fv E z (λ w hW=>(cH E z (E.evs z) (v:=.agg #[(.slice q22 x1.Nodes.length S),(.slice q24 x1.Turns.length T)]) (by kernel_rfl))) λ a E=>fv E z (λ w hW=>(cH E z (E.evs z) (v:=.agg #[(.slice q22 x1.Nodes.length S),(.slice q24 x1.Turns.length T),.int .i64 0,.string (ByteArray.mk #[]),.string (ByteArray.mk #[]),.int .i64 0,nS]) (by kernel_rfl))) λ a E=>bQ z<|bx E H z λ U w a H E=>nt<|⟨sx H [3] z,bL z<|pn 1 E z λ a E=>bB<|?_⟩
   clear hI
   refine aA<|wS<|aJ (λ a w=>∃ y A n B C f g k l o,Jn 54 a w [(2,pt Q 0),(4,pt u 0),(5,pt x 0),(7,pt U 0)] (Blk Q 25 [p,q]::Blk u 25 [nS,nS]::Blk x 93 Hj::Blk U 185 [y,A,.int .i64 f,.string g,.string k,.int .i64 l,n]::Row 107 aB y B::Row 89 aC A C::Row 9 kS n o::Fo) rs (lR x1 B C f g k l o=some r)) ?_ ?_
   ·refine dz [0,0,0,0,0,0,1] [4,7] H λ w W0 hI H=>fn 1 E z λ a E=>fb2 E m0 U3 z λ a E=>cs m (λ F m=>?_) λ F m=>?_
    ·refine fv E z (λ w hW=>wF (j:=1) E z z z F z Ck W4) λ a E=>fb2 E mm1 Cm z λ a E=>fn 1 E z λ a E=>fbn E (bZ c) z (wn z) z z z z m0 z U97 z mP λ a E=>bQ z<|have H:=H.nilRow 9 kS;have H:=H.frs [8,8,8,8,8,7,6,8,8] z;bd m λ d4 Z m=>bK E (wn z) z z (bN E z z z ((cf_ 125) _)) (Km H Z)<|?_
     rintro _ w ⟨d5,rfl,H⟩ a E
     refine nt<|⟨⟨_,_,H,(aU mm5 (aU (t2 mm6) (bH))),(bO)⟩,bB<|?_⟩
     clear hI
     exact aA<|have H:=H.drs [5,7];have H:=H.frs [2,3,3,3,6,6,6] z;X11 ⟨E.to z,H,b,m⟩
    ·refine cs m (λ G m=>?_) λ G m=>?_
     ·refine fv E z (λ w hW=>wF (j:=2) E z z z G z Ck W4) λ a E=>fb2 E mm1 Cm z λ a E=>fn 1 E z λ a E=>fbn E (bZ c) z (wn z) z z z z m0 z U97 z mP λ a E=>bQ z<|have H:=H.nilRow 9 kS;have H:=H.frs [8,8,8,8,8,5,7,8,8] z;bd m λ d6 b0 m=>bK E (wn z) z z (bN E z z z ((cf_ 126) _)) (Ov H (b _ b9) b0)<|?_
      rintro _ w ⟨d7,d8,d9,rfl,H⟩ a E
      refine nt<|⟨⟨_,_,H,(aU mm5 (aU (t2 mm6) (bH))),(bO)⟩,bB<|?_⟩
      clear hI
      exact aA<|have H:=H.drs [5,7];have H:=H.frs [3,3,3,3,6,6,6] z;X11 ⟨E.to z,H,b,m⟩
     ·refine cs m (λ I m=>?_) λ I m=>?_
      ·refine fv E z (λ w hW=>wF (j:=3) E z z z I z Ck W4) λ a E=>fb2 E mm1 Cm z λ a E=>fn 1 E z λ a E=>fbn E (bZ c) z (wn z) z z z z m0 z U97 z mP λ a E=>bQ z<|have H:=H.nilRow 9 kS;have H:=H.frs [8,8,8,8,8,7,6,8,8] z;bd m λ e0 b1 m=>bK E (wn z) z z (bN E z z z ((cf_ 127) _)) (Hx H b1)<|?_
       rintro _ w ⟨e1,e2,rfl,H⟩ a E
       refine nt<|⟨⟨_,_,H,(aU mm5 (aU (t2 mm6) (bH))),(bO)⟩,bB<|?_⟩
       clear hI
       exact aA<|have H:=H.drs [5,7];have H:=H.frs [2,3,3,3,6,6,6] z;X11 ⟨E.to z,H,b,m⟩
      ·refine cs m (λ J m=>?_) λ J m=>?_
       ·refine fv E z (λ w hW=>wF (j:=4) E z z z J z Ck W4) λ a E=>fb2 E mm1 Cm z λ a E=>fn 1 E z λ a E=>fbn E (bZ c) z (wn z) z z z z m0 z U97 z mP λ a E=>bQ z<|have H:=H.nilRow 9 kS;have H:=H.frs [8,8,8,8,8,5,7,8,8] z;bd m λ e3 b2 m=>bK E (wn z) z z (bN E z z z ((cf_ 128) _)) (Kq H b2)<|?_
        rintro _ w ⟨e4,e5,rfl,H⟩ a E
        refine nt<|⟨⟨_,_,H,(aU mm5 (aU (t2 mm6) (bH))),(bO)⟩,bB<|?_⟩
        clear hI
        exact aA<|have H:=H.drs [5,7];have H:=H.frs [3,3,3,3,6,6,6] z;X11 ⟨E.to z,H,b,m⟩
       ·refine cs m (λ K m=>?_) λ K m=>?_
        ·refine fv E z (λ w hW=>wF (j:=5) E z z z K z Ck W4) λ a E=>fb2 E mm1 Cm z λ a E=>fn 1 E z λ a E=>fbn E (bZ c) z (wn z) z z z z m0 z U97 z mP λ a E=>bQ z<|have H:=H.nilRow 9 kS;have H:=H.frs [8,8,8,8,8,7,6,8,8] z;bd m λ e6 b3 m=>bK E (wn z) z z (bN E z z z ((cf_ 129) _)) (Kk H b3)<|?_
         rintro _ w ⟨e7,rfl,H⟩ a E
         refine nt<|⟨⟨_,_,H,(aU mm5 (aU (t2 mm6) (bH))),(bO)⟩,bB<|?_⟩
         clear hI
         exact aA<|have H:=H.drs [5,7];have H:=H.frs [2,3,3,3,6,6,6] z;X11 ⟨E.to z,H,b,m⟩
        ·refine cs m (λ L m=>?_) λ L m=>?_
         ·refine fv E z (λ w hW=>wF (j:=6) E z z z L z Ck W4) λ a E=>fb2 E mm1 Cm z λ a E=>fn 1 E z λ a E=>fbn E (bZ c) z (wn z) z z z z m0 z U97 z mP λ a E=>bQ z<|have H:=H.nilRow 9 kS;have H:=H.frs [8,8,8,8,8,7,6,8,8] z;bd m λ e8 b4 m=>bK E (wn z) z z (bN E z z z ((cf_ 130) _)) (Mm H b4)<|?_
          rintro _ w ⟨e9,rfl,H⟩ a E
          refine nt<|⟨⟨_,_,H,(aU mm5 (aU (t2 mm6) (bH))),(bO)⟩,bB<|?_⟩
          clear hI
          exact aA<|have H:=H.drs [5,7];have H:=H.frs [2,3,3,3,6,6,6] z;X11 ⟨E.to z,H,b,m⟩
         ·refine cs m (λ M m=>?_) λ M m=>?_
          ·refine fv E z (λ w hW=>wF (j:=7) E z z z M z Ck W4) λ a E=>fb2 E mm1 Cm z λ a E=>fn 1 E z λ a E=>fbn E (bZ c) z (wn z) z z z z m0 z U97 z mP λ a E=>bQ z<|have H:=H.nilRow 9 kS;have H:=H.frs [8,8,8,8,8,7,6,8,8] z;bd m λ f0 b5 m=>bK E (wn z) z z (bN E z z z ((cf_ 131) _)) (Mn H b5)<|?_
           rintro _ w ⟨f1,rfl,H⟩ a E
           refine nt<|⟨⟨_,_,H,(aU mm5 (aU (t2 mm6) (bH))),(bO)⟩,bB<|?_⟩
           clear hI
           exact aA<|have H:=H.drs [5,7];have H:=H.frs [2,3,3,3,6,6,6] z;X11 ⟨E.to z,H,b,m⟩
          ·refine cs m (λ N m=>?_) λ N m=>?_
           ·refine fv E z (λ w hW=>wF (j:=8) E z z z N z Ck W4) λ a E=>fb2 E mm1 Cm z λ a E=>fn 1 E z λ a E=>fbn E (bZ c) z (wn z) z z z z m0 z U97 z mP λ a E=>bQ z<|have H:=H.nilRow 9 kS;have H:=H.frs [8,8,8,8,8,7,6,8,8] z;bd m λ f2 b6 m=>bK E (wn z) z z (bN E z z z ((cf_ 132) _)) (Ou H b6)<|?_
            rintro _ w ⟨f3,rfl,H⟩ a E
            refine nt<|⟨⟨_,_,H,(aU mm5 (aU (t2 mm6) (bH))),(bO)⟩,bB<|?_⟩
            clear hI
            exact aA<|have H:=H.drs [5,7];have H:=H.frs [2,3,3,3,6,6,6] z;X11 ⟨E.to z,H,b,m⟩
           ·refine cs m (λ O m=>?_) λ O m=>?_
            ·refine fv E z (λ w hW=>wF (j:=9) E z z z O z Ck W4) λ a E=>fb2 E mm1 Cm z λ a E=>fn 1 E z λ a E=>fbn E (bZ c) z (wn z) z z z z m0 z U97 z mP λ a E=>bQ z<|have H:=H.nilRow 9 kS;have H:=H.frs [8,8,8,8,8,7,6,8,8] z;bd m λ f4 b7 m=>bK E (wn z) z z (bN E z z z ((cf_ 133) _)) (Ko H b7)<|?_
             rintro _ w ⟨f5,rfl,H⟩ a E
             refine nt<|⟨⟨_,_,H,(aU mm5 (aU (t2 mm6) (bH))),(bO)⟩,bB<|?_⟩
             clear hI
             exact aA<|have H:=H.drs [5,7];have H:=H.frs [2,3,3,3,6,6,6] z;X11 ⟨E.to z,H,b,m⟩
            ·refine cs m (λ P m=>?_) λ P m=>?_
             ·refine fv E z (λ w hW=>wF (j:=10) E z z z P z Ck W4) λ a E=>fb2 E mm1 Cm z λ a E=>fn 1 E z λ a E=>fbn E (bZ c) z (wn z) z z z z m0 z U97 z mP λ a E=>bQ z<|have H:=H.nilRow 9 kS;have H:=H.frs [8,8,8,8,8,7,6,8,8] z;bd m λ f6 b8 m=>bK E (wn z) z z (bN E z z z ((cf_ 134) _)) (Kl H b8)<|?_
              rintro _ w ⟨f7,f8,rfl,H⟩ a E
              refine nt<|⟨⟨_,_,H,(aU mm5 (aU (t2 mm6) (bH))),(bO)⟩,bB<|?_⟩
              clear hI
              exact aA<|have H:=H.drs [5,7];have H:=H.frs [2,3,3,3,6,6,6] z;X11 ⟨E.to z,H,b,m⟩
             ·exact (bE m z).elim
   ·clear E H m
    rintro a w ⟨y,A,n,B,C,f,g,k,l,o,c9,E,H,d,m⟩
    unfold lR at m
    refine sp 4 E z λ a E=>lb2 E H 3 U41 z λ a E=>pn 1 E z λ a E=>wif E m z (λ m=>?_) λ m=>?_
    ·refine wS<|dz [0,0,0,0,0,1,2] [0,3] H λ w W0 hI H=>fbn E [p,q] z (wn z) z z z z m0 z U25 z dN λ a E=>fn 3 E z λ a E=>fbn E [.int .i64 f,.string g,.string k,.int .i64 l,n] z (wn z) z z z z mm1 z U93 z V2 λ a E=>bQ z<|Nc (i:=1) E H (wn z) z z z z z z dN z (pD H (d _ s) (d _ t)) λ w H=>nt<|⟨sx H [0,3] z,bL z<|?_⟩
     obtain ⟨q39,c4,rfl⟩:=H.rowform (i:=6) z
     refine ss 2 E H z V2 z λ w H=>nt<|bB<|?_
     clear hI
     refine aA<|wR<|aG<|zW E z (qH (i:=1) (us:=[p,q]) H z z z U25 z dN) (qH (i:=2) (us:=[.int .i64 f,.string g,.string k,.int .i64 l,(.slice q39 o.length c4)]) H z z z U93 z V2)<|have H:=H.thaw (i:=6) z;have H:=H.drs [0,0,0,0,0,0];?_
     cases m
     exact X3 ⟨z,H.reads (aD (t1 (d _ s)) (aD (t1 (d _ t)) (aD m0 (λ r hr=>(t1 (d r hr))))))⟩
    ·refine wK<|aA<|wS<|dz [0,0,0,0,0,0,0,0,1,2] [3] H λ w W0 hI H=>fn 3 E z λ a E=>fbn E [y,A] z (wn z) z z z z m0 z U25 z dN λ a E=>fn 3 E z λ a E=>fbn E [.int .i64 f,.string g,.string k,.int .i64 l,n] z (wn z) z z z z m0 z U93 z V2 λ a E=>bQ z<|?_
     obtain ⟨q41,c5,rfl⟩:=H.rowform (i:=4) z
     obtain ⟨q43,c6,rfl⟩:=H.rowform (i:=5) z
     refine ss 1 E H z dN z λ w H=>nt<|⟨sx H [3] z,bL z<|?_⟩
     obtain ⟨q45,c7,rfl⟩:=H.rowform (i:=6) z
     refine ss 2 E H z V2 z λ w H=>nt<|bB<|?_
     clear hI
     refine aA<|wR<|zW E z (qH (i:=1) (us:=[(.slice q41 B.length c5),(.slice q43 C.length c6)]) H z z z U25 z dN) (qH (i:=2) (us:=[.int .i64 f,.string g,.string k,.int .i64 l,(.slice q45 o.length c7)]) H z z z U93 z V2)<|have H:=H.thaw (i:=4) z;have H:=H.thaw (i:=4) z;have H:=H.thaw (i:=4) z;have H:=H.drs [0,0,0,0];?_
     cases m
     exact X3 ⟨z,H.rdx [2,1,0] z (λ r hr=>(t3 (d r hr)))⟩

def vT(x1:aH):Option Bool:=
  (gQ x1.Path).bind λ b=>if b=true then (if (decide ((x1.Data.size:Int) <= 256))=true then (if (decide (x1.Version ≥ 0))=true then (if (decide (x1.Version <= 281474976710656))=true then (if (decide (x1.Owner ≥ 0))=true then (if (decide (x1.Owner <= 1099511627776))=true then (some (x1.Turn == 0)) else (some (false))) else (some (false))) else (some (false))) else (some (false))) else (some (false))) else (some (false))
theorem Ia{x1:aH}(H:Sep w (Fo) rs){r:Bool}(m:vT x1=some r) :
    Cf 69 [.agg (mN x1).toArray] w λ v w'=>.bool r=v/\Sep w' (Fo) (rs):=by
 unfold vT at m
 refine ent func69 z ntmps69 z z λ a E=>sq<|bx E H z λ j w a H E=>pr 1 E z λ a E=>xp 1 E z λ a E=>lb2 E H 0 U9 z λ a E=>bd m λ k i m=>xk2 E z (cf_ 70) (qN H i) λ w H a E=>pr 1 E z λ a E=>cs m (λ c m=>?_) λ c m=>?_
 ·refine pk 1 E (kc 6 z c) z λ a E=>gl 6 E H 0 c U9 z λ a E=>pk 4 E (kc 6 z c) z λ a E=>cs m (λ d m=>?_) λ d m=>?_
  ·refine pk 1 E (kc 12 z d) z λ a E=>gl 12 E H 0 d U2 z λ a E=>pk 3 E (kc 12 z d) z λ a E=>cs m (λ e m=>?_) λ e m=>?_
   ·refine pk 1 E (kc 17 z e) z λ a E=>gl 17 E H 0 e U2 z λ a E=>pk 3 E (kc 17 z e) z λ a E=>cs m (λ f m=>?_) λ f m=>?_
    ·refine pk 1 E (kc 22 z f) z λ a E=>gl 22 E H 0 f U2 z λ a E=>pk 3 E (kc 22 z f) z λ a E=>cs m (λ g m=>?_) λ g m=>?_
     ·refine pk 1 E (kc 27 z g) z λ a E=>gl 27 E H 0 g U2 z λ a E=>pk 3 E (kc 27 z g) z λ a E=>cs m (λ b m=>?_) λ b m=>?_
      ·refine pk 1 E (kc 32 z b) z λ a E=>gl 32 E H 0 b U2 z λ a E=>pk 3 E (kc 32 z b) z λ a E=>nt<|wR<|o1 E z<|have H:=H.drop 0;?_
       cases m
       exact ⟨z,H.reads Y0⟩
      ·refine pk 5 E (kc 32 z b) z λ a E=>nt<|wR<|o1 E z<|have H:=H.drop 0;?_
       cases m
       exact ⟨z,H.reads Y0⟩
     ·refine pk 10 E (kc 27 z g) z λ a E=>nt<|wR<|o1 E z<|have H:=H.drop 0;?_
      cases m
      exact ⟨z,H.reads Y0⟩
    ·refine pk 15 E (kc 22 z f) z λ a E=>nt<|wR<|o1 E z<|have H:=H.drop 0;?_
     cases m
     exact ⟨z,H.reads Y0⟩
   ·refine pk 20 E (kc 17 z e) z λ a E=>nt<|wR<|o1 E z<|have H:=H.drop 0;?_
    cases m
    exact ⟨z,H.reads Y0⟩
  ·refine pk 25 E (kc 12 z d) z λ a E=>nt<|wR<|o1 E z<|have H:=H.drop 0;?_
   cases m
   exact ⟨z,H.reads Y0⟩
 ·refine pk 31 E (kc 6 z c) z λ a E=>nt<|wR<|o1 E z<|have H:=H.drop 0;?_
  cases m
  exact ⟨z,H.reads Y0⟩

def nF(rec_1:Int->Option Bool)(c:Int)(b:Bool):Option Bool:=
  if b=true then (some (false)) else (rec_1 (IntKind.i64.wrap (c+1)))
def iM(rec_2:Int->Option Bool)(b:Int)(c:Bool):Option Bool:=
  if c=true then (some (false)) else (rec_2 (IntKind.i64.wrap (b+1)))
def eU(x1:aR):Nat->Int->Option Bool
  | 0,_=>none
  | d+1,b=>
    if (decide (b < (x1.Turns.length:Int)))=true then ((idx x1.Turns b).bind λ c=>(gQ c.Dir).bind λ e=>if (!e)=true then (iM (eU x1 d) b true) else (if (decide (c.Next < 1))=true then (iM (eU x1 d) b true) else (if (decide (c.Next > 10000))=true then (iM (eU x1 d) b true) else (if (decide (b > 0))=true then ((idx x1.Turns (IntKind.i64.wrap (b - 1))).bind λ f=>iM (eU x1 d) b (!(sLt f.Dir c.Dir))) else (iM (eU x1 d) b false))))) else (some (true))
def gD(x1:aR):Nat->Int->Option Bool
  | 0,_=>none
  | c+1,b=>
    if (decide (b < (x1.Nodes.length:Int)))=true then ((idx x1.Nodes b).bind λ d=>(vT d).bind λ e=>if (!e)=true then (nF (gD x1 c) b true) else (if (decide (b > 0))=true then ((idx x1.Nodes (IntKind.i64.wrap (b - 1))).bind λ f=>(idx x1.Nodes b).bind λ g=>nF (gD x1 c) b (!(sLt f.Path g.Path))) else (nF (gD x1 c) b false))) else (eU x1 (((x1.Turns.length:Int) - 0:Int).toNat+1) 0)
def yP(x1:aR):Option Bool:=
  gD x1 (((x1.Nodes.length:Int) - 0:Int).toNat+1) 0
theorem Gk{x1:aR}{t u:VL}(H:Sep w (Fo) rs)(F:rSl aB t x1.Nodes ∈ rs)(x:rSl aC u x1.Turns ∈ rs){r:Bool}(m:yP x1=some r) :
    Cf 28 [.agg #[t,u]] w λ v w'=>.bool r=v/\Sep w' (Fo) (rs):=by
 unfold yP at m
 refine ent func28 z ntmps28 z z λ a E=>sq<|bx E H z λ n w a H E=>pn 1 E z λ a E=>wS<|sq<|pn 1 E z λ a E=>wB<|bG (λ q a w=>∃ y,Jn 82 a w [(1,pt n 0),(3,.int .i64 y)] (Blk n 25 [t,u]::Fo) rs (gD x1 q y=some r)) (((x1.Nodes.length:Int) - 0:Int).toNat+1) ?_ ?_
 ·exact ⟨_,_,E.to z,H,Y0,m⟩
 ·clear E H m
  rintro q a w ⟨y,b3,E,H,l,m⟩
  cases q with
  | zero=>exact (bE m z).elim
  | succ q=>
   unfold gD at m
   refine wS<|sp 2 E z λ a E=>lb2 E H 0 U22 z λ a E=>lS E H (l _ F) U22 z λ a E=>pn 1 E z λ a E=>wif E m z (λ m=>?_) λ m=>?_
   ·refine wK<|aA<|wS<|wB<|aJ (λ a w=>∃ A,Jn 82 a w [(1,pt n 0),(3,.int .i64 y),(39,.bool A)] (Blk n 25 [t,u]::Fo) rs (nF (gD x1 q) y A=some r)) ?_ ?_
    ·obtain ⟨b4,H⟩:=H.raw (l _ F)
     refine dw [(0,0),(1,0),(2,0),(3,0),(4,0),(5,1),(6,0),(7,0),(8,0),(9,0),(10,0),(11,0),(12,0),(13,0),(14,0),(15,0),(16,0),(17,0),(18,0),(19,0),(20,0),(21,0),(22,0),(23,0),(24,0),(25,0),(26,0)] [0] [0] H (by kernel_rfl) (λ _ _ _ h=>False.elim h.2) λ w W0 hI H=>fn 1 E z λ a E=>fb2 E m0 U22 z λ a E=>fn 1 E z λ a E=>bd m λ o G m=>?_
     obtain ⟨q16,b5,I,J⟩:=fW (P:=Tryz.prog) (k:=.i64) hI (fV (.head _)) U22 hP G
     refine fv E z (λ w hW=>iD E z z z (I w)) λ a E=>fv E z (λ w hW=>sI E z z (Ha (cs:=[.string o.Path,.string o.Data,.int .i64 o.Version,.int .i64 o.Turn,.int .i64 o.Owner]) (DR.ir (Jc J)) (λ _ _ _ h=>F2 h) D5 z hP w hW)) λ a E=>bQ z<|bd m λ b6 K m=>xk2 E z (cf_ 69) (Ia H K) λ w H a E=>nt<|⟨⟨_,_,H,(aU m0 (bH)),(aD m0 (bO))⟩,fn 2 E z λ a E=>cs m (λ f m=>?_) λ f m=>?_⟩
     ·refine fk 19 E (kc 20 z f) z λ a E=>bB<|?_
      clear hI
      exact aA<|⟨_,_,E.to z,H,(Y1 l),m⟩
     ·refine fk 3 E (kc 20 z f) z λ a E=>cs m (λ b m=>?_) λ b m=>?_
      ·refine fk 1 E (kc 23 z b) z λ a E=>fb E z (ws' (d:=23) E z z z z b) z z z z m0 z U22 z λ a E=>fk 2 E (kc 23 z b) z λ a E=>bd m λ b7 L m=>?_
       obtain ⟨q26,b8,M,N⟩:=fW (P:=Tryz.prog) (k:=.i64) hI (fV (.head _)) U22 hP L
       refine cU E z (ws' (d:=23) E z z z z b) z z (λ w hW=>iD E z z z (M w)) λ a E=>?_
       have O:=gY N (λ _ _ _ h=>T9 h)
       refine fk 1 E (kc 23 z b) z λ a E=>fa E z (ws' (d:=23) E z z z z b) z z z z O U9 z λ a E=>fk 1 E (kc 23 z b) z λ a E=>fb E z (ws' (d:=23) E z z z z b) z z z z m0 z U22 z λ a E=>fk 1 E (kc 23 z b) z λ a E=>bd m λ b9 Q m=>?_
       obtain ⟨q33,c0,R,S⟩:=fW (P:=Tryz.prog) (k:=.i64) hI (fV (.head _)) U22 hP Q
       refine cU E z (ws' (d:=23) E z z z z b) z z (λ w hW=>iD E z z z (R w)) λ a E=>?_
       have T:=gY S (λ _ _ _ h=>T9 h)
       refine fk 1 E (kc 23 z b) z λ a E=>fa E z (ws' (d:=23) E z z z z b) z z z z T U9 z λ a E=>fk 3 E (kc' (kc 23 z b) 20 z f) z λ a E=>bB<|?_
       clear hI
       exact aA<|⟨_,_,E.to z,H,(Y1 l),m⟩
      ·refine fk 16 E (kc' (kc 23 z b) 20 z f) z λ a E=>bB<|?_
       clear hI
       exact aA<|⟨_,_,E.to z,H,(Y1 l),m⟩
    ·clear E H m
     rintro a w ⟨A,b0,E,H,B,m⟩
     unfold nF at m
     refine wif E m z (λ m=>?_) λ m=>?_
     ·refine sq<|pn 1 E z λ a E=>wR<|bD<|aG<|aG<|bD<|aG<|o1 E z<|have H:=H.drop 0;?_
      cases m
      exact ⟨z,H.reads B⟩
     ·exact wK<|bP<|aA<|wG<|pn 3 E z λ a E=>⟨q,nL q,_,_,E.to z,H,B,m⟩
   ·refine wX<|aT<|aT<|cL<|aA<|wS<|sq<|pn 1 E z λ a E=>wB<|bG (λ s a w=>∃ p,Jn 82 a w [(1,pt n 0),(4,.int .i64 p)] (Blk n 25 [t,u]::Fo) rs (eU x1 s p=some r)) (((x1.Turns.length:Int) - 0:Int).toNat+1) ?_ ?_
    ·exact ⟨_,_,E.to z,H,l,m⟩
    ·clear E H m
     rintro s a w ⟨p,b1,E,H,e,m⟩
     cases s with
     | zero=>exact (bE m z).elim
     | succ s=>
      unfold eU at m
      refine wS<|sp 2 E z λ a E=>lb2 E H 0 U23 z λ a E=>lS E H (e _ x) U23 z λ a E=>pn 1 E z λ a E=>wif E m z (λ m=>?_) λ m=>?_
      ·refine wK<|aA<|wS<|wB<|sp 1 E z λ a E=>lb2 E H 0 U23 z λ a E=>pr 1 E z λ a E=>bd m λ c1 U m=>dB E H (wn z) z z z z z (e _ x) U23 sJ U λ q43 a H E=>ldf dV E H z z z z z m0 U89 z sJ λ a E=>al2 E H z MC λ c2 w a H E=>ss 0 E H z sJ z λ w H=>nt<|aJ (λ a w=>∃ C,Jn 82 a w [(1,pt n 0),(4,.int .i64 p),(81,.bool C)] (Blk n 25 [t,u]::Fo) rs (iM (eU x1 s) p C=some r)) ?_ ?_
       ·obtain ⟨c3,H⟩:=H.raw (t1 (e _ x))
        refine dw [(0,0),(1,0),(2,1),(3,0),(4,0),(5,0),(6,0),(7,0),(8,0),(9,0),(10,0),(11,0),(12,0),(13,0),(14,0),(15,0),(16,0),(17,0),(18,0),(19,0),(20,0),(21,0),(22,0),(23,0),(24,0),(25,0),(26,0),(27,0),(28,0),(29,0)] [0,1] [0] H (by kernel_rfl) (λ _ _ _ h=>False.elim h.2) λ w W0 hI H=>fn 1 E z λ a E=>fb2 E m0 U9 z λ a E=>bQ z<|bd m λ c4 V m=>xk2 E z (cf_ 70) (qN H V) λ w H a E=>nt<|⟨⟨_,_,H,(aU m0 (aU mm1 (bH))),(aD m0 (bO))⟩,fn 2 E z λ a E=>cs m (λ g m=>?_) λ g m=>?_⟩
        ·refine fk 25 E (kc 56 z g) z λ a E=>bB<|?_
         clear hI
         exact aA<|have H:=H.drop 0;⟨_,_,E.to z,H,(Y2 e),m⟩
        ·refine fk 1 E (kc 56 z g) z λ a E=>fb E z (ws' (d:=56) E z z z z g) z z z z m0 z U2 z λ a E=>fk 3 E (kc 56 z g) z λ a E=>cs m (λ i m=>?_) λ i m=>?_
         ·refine fk 20 E (kc 61 z i) z λ a E=>bB<|?_
          clear hI
          exact aA<|have H:=H.drop 0;⟨_,_,E.to z,H,(Y2 e),m⟩
         ·refine fk 1 E (kc 61 z i) z λ a E=>fb E z (ws' (d:=61) E z z z z i) z z z z m0 z U2 z λ a E=>fk 3 E (kc 61 z i) z λ a E=>cs m (λ j m=>?_) λ j m=>?_
          ·refine fk 15 E (kc 66 z j) z λ a E=>bB<|?_
           clear hI
           exact aA<|have H:=H.drop 0;⟨_,_,E.to z,H,(Y2 e),m⟩
          ·refine fk 3 E (kc 66 z j) z λ a E=>cs m (λ c m=>?_) λ c m=>?_
           ·refine fk 1 E (kc 69 z c) z λ a E=>fb E z (ws' (d:=69) E z z z z c) z z z z mm1 z U23 z λ a E=>fk 2 E (kc 69 z c) z λ a E=>bd m λ c5 W m=>?_
            obtain ⟨q57,c6,X,Y⟩:=fW (P:=Tryz.prog) (k:=.i64) hI (fV (.head _)) U23 sJ W
            refine cU E z (ws' (d:=69) E z z z z c) z z (λ w hW=>iD E z z z (X w)) λ a E=>?_
            have Z:=gY Y (λ _ _ _ h=>Pv h)
            refine fk 1 E (kc 69 z c) z λ a E=>fa E z (ws' (d:=69) E z z z z c) z z z z Z U9 z λ a E=>fk 1 E (kc 69 z c) z λ a E=>fb E z (ws' (d:=69) E z z z z c) z z z z m0 z U9 z λ a E=>fk 3 E (kc' (kc 69 z c) 66 z j) z λ a E=>bB<|?_
            clear hI
            exact aA<|have H:=H.drop 0;⟨_,_,E.to z,H,(Y2 e),m⟩
           ·refine fk 12 E (kc' (kc 69 z c) 66 z j) z λ a E=>bB<|?_
            clear hI
            exact aA<|have H:=H.drop 0;⟨_,_,E.to z,H,(Y2 e),m⟩
       ·clear E H m
        rintro a w ⟨C,b2,E,H,D,m⟩
        unfold iM at m
        refine wif E m z (λ m=>?_) λ m=>?_
        ·refine sq<|pn 1 E z λ a E=>wR<|bD<|aG<|aG<|bD<|aG<|o1 E z<|have H:=H.drop 0;?_
         cases m
         exact ⟨z,H.reads D⟩
        ·exact wK<|bP<|aA<|wG<|pn 3 E z λ a E=>⟨s,nL s,_,_,E.to z,H,D,m⟩
      ·refine wX<|aT<|aT<|cL<|aA<|sq<|pn 1 E z λ a E=>wR<|o1 E z<|have H:=H.drop 0;?_
       cases m
       exact ⟨z,H.reads e⟩

def nG(x1:aR)(c:Int):Option Bool:=
  if (decide (c ≥ 3000))=true then (some (true)) else ((tY x1.Nodes).bind λ b=>some (b))
def iO(x1:aR):Nat->Int->Int->Option Bool
  | 0,_,_=>none
  | e+1,b,c=>
    if (decide (c < (x1.Turns.length:Int)))=true then (if (decide (b < 3000))=true then ((idx x1.Turns c).bind λ d=>iO x1 e (IntKind.i64.wrap (b+(min (d.Dir.size:Int) 3000))) (IntKind.i64.wrap (c+1))) else (nG x1 b)) else (nG x1 b)
def qS(x1:aR):Option Bool:=
  iO x1 3002 (x1.Turns.length:Int) 0
theorem S6{x1:aR}{k l:VL}(H:Sep w (Fo) rs)(s:rSl aB k x1.Nodes ∈ rs)(f:rSl aC l x1.Turns ∈ rs){r:Bool}(m:qS x1=some r) :
    Cf 10 [.agg #[k,l]] w λ v w'=>.bool r=v/\Sep w' (Fo) (rs):=by
 unfold qS at m
 refine ent func10 z ntmps10 z z λ a E=>sq<|bx E H z λ n w a H E=>pr 1 E z λ a E=>xp 1 E z λ a E=>lb2 E H 0 U23 z λ a E=>lS E H f U23 z λ a E=>pr 1 E z λ a E=>nt<|aJ (λ a w=>∃ o,Jn 36 a w [(1,pt n 0),(3,.int .i64 o)] (Blk n 25 [k,l]::Fo) rs (nG x1 o=some r)) ?_ ?_
 ·refine sq<|pn 1 E z λ a E=>wB<|bG (λ e a w=>∃ g i,Jn 36 a w [(1,pt n 0),(3,.int .i64 g),(4,.int .i64 i)] (Blk n 25 [k,l]::Fo) rs (iO x1 e g i=some r)) (3002) ?_ ?_
  ·exact X3 ⟨E.to z,H,Y0,m⟩
  ·clear E H m
   rintro e a w ⟨g,i,x,E,H,c,m⟩
   cases e with
   | zero=>exact (bE m z).elim
   | succ e=>
    unfold iO at m
    refine wS<|sp 2 E z λ a E=>lb2 E H 0 U23 z λ a E=>lS E H (c _ f) U23 z λ a E=>pr 2 E z λ a E=>cs m (λ d m=>?_) λ d m=>?_
    ·refine pk 3 E (kc 13 z d) z λ a E=>nt<|wif E m z (λ m=>?_) λ m=>?_
     ·exact wK<|aA<|wS<|wB<|wG<|pr 2 E z λ a E=>lb2 E H 0 U23 z λ a E=>pr 1 E z λ a E=>bd m λ u p m=>dB E H (wn z) z z z z z (c _ f) U23 sJ p λ q20 a H E=>have H:=H.derive1 m0 (rAt kS (q20.add 0) u.Dir) (λ ok h=>Pu h);pr 1 E z λ a E=>sv2 E z (sK E H z z m0 U9 z) λ a E=>pr 1 E z λ a E=>sv2 E z (Nb (t:=0) E z z z) λ a E=>pr 2 E z λ a E=>wN<|bP<|aA<|wG<|pn 3 E z λ a E=>⟨e,nL e,X3 ⟨E.to z,H,(Y2 c),m⟩⟩
     ·exact wX<|aT<|aT<|cL<|aA<|⟨_,_,E.to z,H,c,m⟩
    ·exact pk 3 E (kc 13 z d) z λ a E=>nt<|wp_cond_false (E.eval z)<|wX<|aT<|aT<|cL<|aA<|⟨_,_,E.to z,H,c,m⟩
 ·clear E H m
  rintro a w ⟨o,y,E,H,j,m⟩
  unfold nG at m
  refine sp 3 E z λ a E=>cs m (λ b m=>?_) λ b m=>?_
  ·refine pk 5 E (kc 31 z b) z λ a E=>nt<|wR<|o1 E z<|have H:=H.drop 0;?_
   cases m
   exact ⟨z,H.reads j⟩
  ·refine pk 1 E (kc 31 z b) z λ a E=>gl 31 E H 0 b U22 z λ a E=>bd m λ A q m=>gc 31 E b z (cf_ 39) (Gi H (j _ s) q)<|?_
   rintro _ w ⟨rfl,H⟩ a E
   refine pk 2 E (kc 31 z b) z λ a E=>nt<|wR<|o1 E z<|have H:=H.drop 0;?_
   cases m
   exact ⟨z,H.reads j⟩

def pW(x1:bF):Option Bool:=
  if (decide ((x1.Dir.size:Int) > 3000))=true then (some (true)) else (if (decide ((x1.Path.size:Int) > 3000))=true then (some (true)) else (some (decide ((x1.Data.size:Int) > 3000))))
theorem Bg{x1:bF}(H:Sep w (Fo) rs){r:Bool}(m:pW x1=some r) :
    Cf 89 [.agg (bZ x1).toArray] w λ v w'=>.bool r=v/\Sep w' (Fo) (rs):=by
 unfold pW at m
 refine ent func89 z ntmps89 z z λ a E=>sq<|bx E H z λ d w a H E=>pr 1 E z λ a E=>xp 1 E z λ a E=>lb2 E H 0 U9 z λ a E=>pr 3 E z λ a E=>cs m (λ b m=>?_) λ b m=>?_
 ·refine pk 12 E (kc 7 z b) z λ a E=>nt<|wR<|o1 E z<|have H:=H.drop 0;?_
  cases m
  exact ⟨z,H.reads Y0⟩
 ·refine pk 1 E (kc 7 z b) z λ a E=>gl 7 E H 0 b U9 z λ a E=>pk 4 E (kc 7 z b) z λ a E=>cs m (λ c m=>?_) λ c m=>?_
  ·refine pk 6 E (kc 13 z c) z λ a E=>nt<|wR<|o1 E z<|have H:=H.drop 0;?_
   cases m
   exact ⟨z,H.reads Y0⟩
  ·refine pk 1 E (kc 13 z c) z λ a E=>gl 13 E H 0 c U9 z λ a E=>pk 4 E (kc 13 z c) z λ a E=>nt<|wR<|o1 E z<|have H:=H.drop 0;?_
   cases m
   exact ⟨z,H.reads Y0⟩

def iR(b:List cR):Nat->Int->Option Bool
  | 0,_=>none
  | e+1,c=>
    if (decide (c < (b.length:Int)))=true then ((idx b c).bind λ f=>(pW f.Part).bind λ d=>if d=true then (some (true)) else (iR b e (IntKind.i64.wrap (c+1)))) else (some (false))
def nX(b:List cR):Option Bool:=
  if (decide ((b.length:Int) > 60))=true then (some (true)) else (iR b (((b.length:Int) - 0:Int).toNat+1) 0)
theorem Af{f:VL}{e:List cR}(H:Sep w (Fo) rs)(d:rSl bR f e ∈ rs){r:Bool}(m:nX e=some r) :
    Cf 40 [f] w λ v w'=>.bool r=v/\Sep w' (Fo) (rs):=by
 unfold nX at m
 refine ent func40 z ntmps40 z z λ a E=>sq<|pn 1 E z λ a E=>wS<|sp 1 E z λ a E=>lS E H d U26 z λ a E=>pr 1 E z λ a E=>nt<|wif E m z (λ m=>?_) λ m=>?_
 ·refine sq<|pn 1 E z λ a E=>wR<|aG<|o1 E z<|?_
  cases m
  exact ⟨z,H.reads Y0⟩
 ·refine wK<|aA<|wS<|sq<|pn 1 E z λ a E=>wB<|bG (λ c a w=>∃ g,Jn 19 a w [(0,f),(3,.int .i64 g)] (Fo) rs (iR e c g=some r)) (((e.length:Int) - 0:Int).toNat+1) ?_ ?_
  ·exact ⟨_,_,E.to z,H,Y0,m⟩
  ·clear E H m
   rintro c a w ⟨g,l,E,H,b,m⟩
   cases c with
   | zero=>exact (bE m z).elim
   | succ c=>
    unfold iR at m
    refine wS<|sp 2 E z λ a E=>lS E H (b _ d) U26 z λ a E=>pn 1 E z λ a E=>wif E m z (λ m=>?_) λ m=>?_
    ·refine wK<|aA<|wS<|wB<|sp 2 E z λ a E=>bd m λ k j m=>dB E H (wn z) z z z z z (b _ d) U26 U8 j λ q9 a H E=>have H:=H.derive1 m0 (rAt cP (q9.add 1) k.Part) (λ ok h=>Oa h);pr 1 E z λ a E=>ldf Bu E H z z z z z m0 U97 z mP λ a E=>bd m λ n i m=>xk2 E z (cf_ 89) (Bg H i) λ w H a E=>nt<|wif E m z (λ m=>?_) λ m=>?_
     ·refine sq<|pn 1 E z λ a E=>wR<|bD<|aG<|aG<|bD<|aG<|o1 E z<|?_
      cases m
      exact ⟨z,H.reads (Y2 b)⟩
     ·exact wK<|bP<|aA<|wG<|pn 3 E z λ a E=>⟨c,nL c,_,_,E.to z,H,(Y2 b),m⟩
    ·refine wX<|aT<|aT<|cL<|aA<|sq<|pn 1 E z λ a E=>wR<|o1 E z<|?_
     cases m
     exact ⟨z,H.reads b⟩

def xV(g:List cR)(x1:aR):Nat->Q4->Int->eI->dU->Option (aR×Q4×Int×Int)
  | 0,_,_,_,_=>none
  | j+1,d,c,e,f=>
    if (decide (c < (g.length:Int)))=true then ((idx g c).bind λ i=>(Z1 (⟨e,f⟩:aR) i.Part).bind λ b=>if (b.2.Err != 0)=true then (some (x1,[],b.2.Err,c)) else ((ck (d.length+([b.2]:List eG).length <= LIM)).bind λ k=>xV g x1 j (d ++ ([b.2]:List eG)) (IntKind.i64.wrap (c+1)) b.1.Nodes b.1.Turns)) else (some ((⟨e,f⟩:aR),d,0,0))
def D3(x1:aR)(b:List cR):Option (aR×Q4×Int×Int):=
  xV b x1 (((b.length:Int) - 0:Int).toNat+1) [] 0 x1.Nodes x1.Turns
theorem Cx{x1:aR}{s t K:VL}{y:List cR}(H:Sep w (Fo) rs)(n:rSl aB s x1.Nodes ∈ rs)(o:rSl aC t x1.Turns ∈ rs)(D:rSl bR K y ∈ rs)(O:N5 Tryz.prog ∈ rs){r:aR×Q4×Int×Int}(m:D3 x1 y=some r) :
    Cf 23 [.agg #[s,t],K] w λ v w'=>∃ P Q R,.tuple #[.agg #[P,Q],R,.int .i64 r.2.2.1,.int .i64 r.2.2.2]=v/\Sep w' (Row 93 aZ R r.2.1::Fo) (rSl aB P r.1.Nodes::rSl aC Q r.1.Turns::rs):=by
 unfold D3 at m
 refine ent func23 z ntmps23 z z λ a E=>sq<|bx E H z λ F w a H E=>al2 E H z pJ λ G w a H E=>pr 3 E z λ a E=>nx<|ln 1 [s,t] E H U25 z dN λ a E=>al2 E H z pJ λ I w a H E=>ss 0 E H z dN (pD H n o) λ w H=>nx<|pn 1 E z λ a E=>wS<|sp 1 E z λ a E=>lS E H D U26 z λ a E=>pn 1 E z λ a E=>wB<|bG (λ u a w=>∃ A g j B C p q f,Env 44 a [(2,pt F 0),(4,pt G 0),(8,pt I 0),(9,A),(15,K),(16,.int .i64 (y.length:Int)),(17,.int .i64 C)]/\Sep w (Blk F 25 [s,t]::Blk G 25 [nS,nS]::Blk I 25 [g,j]::Row 93 aZ A B::Fo) f/\(∀ r,r ∈ rs->r ∈ f)/\rSl aB g p ∈ f/\rSl aC j q ∈ f/\xV y x1 u B C p q=some r) (((y.length:Int) - 0:Int).toNat+1) ?_ ?_
 ·exact have H:=H.nilRow 93 aZ;have H:=H.frs [0,1,2,3] z;X8 ⟨E.to z,H,Y0,n,o,m⟩
 ·clear E H m
  rintro u a w ⟨A,g,j,B,C,p,q,f,E,H,c,k,l,m⟩
  cases u with
  | zero=>exact (bE m z).elim
  | succ u=>
   unfold xV at m
   refine sq<|pn 1 E z λ a E=>wS<|wif E m z (λ m=>?_) λ m=>?_
   ·refine wK<|aA<|wS<|wB<|sp 1 E z λ a E=>bd m λ S L m=>dB E H (wn z) z z z z z (c _ D) U26 U8 L λ q26 a H E=>ldf z6 E H z z z z z m0 U99 z U8 λ a E=>al2 E H z Yp λ W w a H E=>pr 1 E z λ a E=>ss 0 E H z U8 z λ w H=>nx<|ln 3 [g,j] E H U25 z dN λ a E=>pr 1 E z λ a E=>ln 0 (bZ S.Part) E H U97 z mP λ a E=>bd m λ b M m=>xc2 E z (cf_ 64) (BE (x1:=(⟨p,q⟩:aR)) H (t1 k) (t1 l) (t1 (c _ O)) M)<|?_
    rintro _ w ⟨T,U,V,rfl,H⟩ a E
    refine pr 3 E z λ a E=>al2 E H z pJ λ X w a H E=>al2 E H z LS λ Y w a H E=>ss 1 E H z dN (pD H m0 mm1) λ w H=>ss 0 E H z V2 (Px H mm2) λ w H=>nt<|wS<|sp 1 E z λ a E=>lb2 E H 0 U41 z λ a E=>pn 1 E z λ a E=>wif E m z (λ m=>?_) λ m=>?_
    ·refine wS<|dz [0,0,0,0,1,1,1,2] [0,3] H λ w W0 hI H=>fbn E [s,t] z (wn z) z z z z mm1 z U25 z dN λ a E=>fn 1 E z λ a E=>fb2 E m0 U41 z λ a E=>fn 1 E z λ a E=>bQ z<|Nc (i:=4) E H (wn z) z z z z z z dN z (pD H (t4 (c _ n)) (t4 (c _ o))) λ w H=>nt<|⟨sx H [0,3] z,bQ z<|pn 1 E z λ a E=>⟨sx H [0,3] z,bQ z<|pn 1 E z λ a E=>⟨sx H [0,3] z,bL z<|pn 1 E z λ a E=>bB<|?_⟩⟩⟩
     clear hI
     refine aA<|wR<|aG<|bD<|aG<|aG<|bD<|aG<|FS E z (qH (i:=4) (us:=[s,t]) H z z z U25 z dN) (rvT z) (rvT z) (rvT z)<|have H:=H.nilRow 93 aZ;have H:=H.drs [1,1,1,1,1,1,1];?_
     cases m
     exact X3 ⟨z,H.reads (aD (t4 (c _ n)) (aD (t4 (c _ o)) (λ r hr=>(t4 (c r hr)))))⟩
    ·refine wK<|aA<|sq<|ln 1 [T,U] E H U25 z dN λ a E=>ss 5 E H z dN (pD H m0 mm1) λ w H=>nt<|wG<|pr 1 E z λ a E=>ln 0 (Hi b.2 V) E H U93 z V2 λ a E=>?_
     obtain ⟨q35,J,rfl⟩:=H.slform mm2
     exact xA (e:=93) (d:=aZ) (cs:=[.int .i64 b.2.Err,.string b.2.Path,.string b.2.Data,.int .i64 b.2.Version,(.slice q35 b.2.Names.length J)]) (xs:=[b.2]) E H (wn z) z z z (E.evs z) (by kernel_rfl) z (λ ok hr=>(Rows.single (d:=aZ) (cs:=[.int .i64 b.2.Err,.string b.2.Path,.string b.2.Data,.int .i64 b.2.Version,(.slice q35 b.2.Names.length J)]) (x:=b.2) (Oc (hr _ mm2)))) λ Z w a H E=>bk m λ N m=>fE (i:=6) E H (wn z) z z z z z z (nU m0) U40 PJ z N z λ b0 w a H E=>pr 1 E z λ a E=>wN<|bP<|aA<|wG<|pr 2 E z λ a E=>nt<|have H:=H.drs [0,0,0];⟨u,nL u,X8 ⟨E.to z,H,(Y5 c),mm1,mm2,m⟩⟩
   ·refine wX<|aT<|aT<|cL<|aA<|sq<|ln 2 [g,j] E H U25 z dN λ a E=>pr 1 E z λ a E=>ss 1 E H z dN (pD H k l) λ w H=>pn 3 E z λ a E=>wR<|FS E z (qH (i:=1) (us:=[g,j]) H z z z U25 z dN) (rvT z) (rvT z) (rvT z)<|have H:=H.drs [0,0,0];?_
    cases m
    exact X3 ⟨z,H.reads (aD k (aD l (c)))⟩

def lB(rec_1:Int->Option Bool)(c:Int)(b:Bool):Option Bool:=
  if b=true then (some (false)) else (rec_1 (IntKind.i64.wrap (c+1)))
def gJ(b:List aF):Nat->Int->Option Bool
  | 0,_=>none
  | d+1,c=>
    if (decide (c < (b.length:Int)))=true then ((idx b c).bind λ e=>(gH e.Prefix).bind λ f=>if (!f)=true then (lB (gJ b d) c true) else (if (decide (e.Epoch < 0))=true then (lB (gJ b d) c true) else (if (decide (e.Epoch > 281474976710656))=true then (lB (gJ b d) c true) else (if (decide (e.State < 1))=true then (lB (gJ b d) c true) else (if (decide (e.State > 3))=true then (lB (gJ b d) c true) else (if (decide (c > 0))=true then ((idx b (IntKind.i64.wrap (c - 1))).bind λ g=>lB (gJ b d) c (!(sLt g.Prefix e.Prefix))) else (lB (gJ b d) c false))))))) else (some (decide ((b.length:Int) <= 32)))
def pE(b:List aF):Option Bool:=
  gJ b (((b.length:Int) - 0:Int).toNat+1) 0
theorem B8{p:VL}{l:List aF}(H:Sep w (Fo) rs)(o:rSl aN p l ∈ rs){r:Bool}(m:pE l=some r) :
    Cf 38 [p] w λ v w'=>.bool r=v/\Sep w' (Fo) (rs):=by
 unfold pE at m
 refine ent func38 z ntmps38 z z λ a E=>sq<|pn 1 E z λ a E=>wS<|sp 1 E z λ a E=>lS E H o U32 z λ a E=>pr 1 E z λ a E=>nt<|wB<|bG (λ n a w=>∃ q,Jn 55 a w [(0,p),(5,p),(6,.int .i64 (l.length:Int)),(7,.int .i64 q)] (Fo) rs (gJ l n q=some r)) (((l.length:Int) - 0:Int).toNat+1) ?_ ?_
 ·exact ⟨_,_,E.to z,H,Y0,m⟩
 ·clear E H m
  rintro n a w ⟨q,F,E,H,c,m⟩
  cases n with
  | zero=>exact (bE m z).elim
  | succ n=>
   unfold gJ at m
   refine sq<|pn 1 E z λ a E=>wS<|wif E m z (λ m=>?_) λ m=>?_
   ·refine wK<|aA<|wS<|wB<|sp 1 E z λ a E=>bd m λ M C m=>dB E H (wn z) z z z z z (c _ o) U32 iY C λ q9 a H E=>ldf kZ E H z z z z z m0 U31 z iY λ a E=>al2 E H z Mf λ G w a H E=>pr 1 E z λ a E=>ss 0 E H z iY z λ w H=>nt<|aJ (λ a w=>∃ s,Jn 55 a w [(0,p),(5,p),(6,.int .i64 (l.length:Int)),(7,.int .i64 q),(50,.bool s)] (Fo) rs (lB (gJ l n) q s=some r)) ?_ ?_
    ·obtain ⟨I,H⟩:=H.raw (t1 (c _ o))
     refine dw [(0,0),(1,0),(2,1),(3,0),(4,0),(5,0),(6,0),(7,0),(8,0),(9,0),(10,0),(11,0),(12,0),(13,0),(14,0),(15,0),(16,0),(17,0),(18,0),(19,0),(20,0),(21,0),(22,0),(23,0),(24,0),(25,0),(26,0),(27,0),(28,0),(29,0),(30,0),(31,0),(32,0),(33,0),(34,0),(35,0),(36,0),(37,0),(38,0)] [0] [0] H (by kernel_rfl) (λ _ _ _ h=>False.elim h.2) λ w W0 hI H=>fn 1 E z λ a E=>fb2 E m0 U9 z λ a E=>bQ z<|bd m λ J u m=>xk2 E z (cf_ 83) (kK H u) λ w H a E=>nt<|⟨⟨_,_,H,(aU m0 (bH)),(aD m0 (bO))⟩,fn 2 E z λ a E=>cs m (λ e m=>?_) λ e m=>?_⟩
     ·refine fk 34 E (kc 16 z e) z λ a E=>bB<|?_
      clear hI
      exact aA<|have H:=H.drop 0;⟨_,_,E.to z,H,(Y2 c),m⟩
     ·refine fk 1 E (kc 16 z e) z λ a E=>fb E z (ws' (d:=16) E z z z z e) z z z z m0 z U2 z λ a E=>fk 3 E (kc 16 z e) z λ a E=>cs m (λ f m=>?_) λ f m=>?_
      ·refine fk 29 E (kc 21 z f) z λ a E=>bB<|?_
       clear hI
       exact aA<|have H:=H.drop 0;⟨_,_,E.to z,H,(Y2 c),m⟩
      ·refine fk 1 E (kc 21 z f) z λ a E=>fb E z (ws' (d:=21) E z z z z f) z z z z m0 z U2 z λ a E=>fk 3 E (kc 21 z f) z λ a E=>cs m (λ g m=>?_) λ g m=>?_
       ·refine fk 24 E (kc 26 z g) z λ a E=>bB<|?_
        clear hI
        exact aA<|have H:=H.drop 0;⟨_,_,E.to z,H,(Y2 c),m⟩
       ·refine fk 1 E (kc 26 z g) z λ a E=>fb E z (ws' (d:=26) E z z z z g) z z z z m0 z U3 z λ a E=>fk 3 E (kc 26 z g) z λ a E=>cs m (λ i m=>?_) λ i m=>?_
        ·refine fk 19 E (kc 31 z i) z λ a E=>bB<|?_
         clear hI
         exact aA<|have H:=H.drop 0;⟨_,_,E.to z,H,(Y2 c),m⟩
        ·refine fk 1 E (kc 31 z i) z λ a E=>fb E z (ws' (d:=31) E z z z z i) z z z z m0 z U3 z λ a E=>fk 3 E (kc 31 z i) z λ a E=>cs m (λ j m=>?_) λ j m=>?_
         ·refine fk 14 E (kc 36 z j) z λ a E=>bB<|?_
          clear hI
          exact aA<|have H:=H.drop 0;⟨_,_,E.to z,H,(Y2 c),m⟩
         ·refine fk 3 E (kc 36 z j) z λ a E=>cs m (λ b m=>?_) λ b m=>?_
          ·refine fk 3 E (kc 39 z b) z λ a E=>bd m λ K x m=>?_
           obtain ⟨q25,L,y,A⟩:=fW (P:=Tryz.prog) (k:=.i64) hI (fV (.head _)) U32 iY x
           refine cU E z (ws' (d:=39) E z z z z b) z z (λ w hW=>iD E z z z (y w)) λ a E=>?_
           have B:=gY A (λ _ _ _ h=>sN h)
           refine fk 1 E (kc 39 z b) z λ a E=>fa E z (ws' (d:=39) E z z z z b) z z z z B U9 z λ a E=>fk 1 E (kc 39 z b) z λ a E=>fb E z (ws' (d:=39) E z z z z b) z z z z m0 z U9 z λ a E=>fk 3 E (kc' (kc 39 z b) 36 z j) z λ a E=>bB<|?_
           clear hI
           exact aA<|have H:=H.drop 0;⟨_,_,E.to z,H,(Y2 c),m⟩
          ·refine fk 11 E (kc' (kc 39 z b) 36 z j) z λ a E=>bB<|?_
           clear hI
           exact aA<|have H:=H.drop 0;⟨_,_,E.to z,H,(Y2 c),m⟩
    ·clear E H m
     rintro a w ⟨s,D,E,H,t,m⟩
     unfold lB at m
     refine wif E m z (λ m=>?_) λ m=>?_
     ·refine sq<|pn 1 E z λ a E=>wR<|bD<|aG<|aG<|bD<|aG<|o1 E z<|?_
      cases m
      exact ⟨z,H.reads t⟩
     ·exact wK<|bP<|aA<|wG<|pn 2 E z λ a E=>⟨n,nL n,_,_,E.to z,H,t,m⟩
   ·refine wX<|aT<|aT<|cL<|aA<|sp 1 E z λ a E=>lS E H (c _ o) U32 z λ a E=>pr 2 E z λ a E=>nt<|wR<|o1 E z<|?_
    cases m
    exact ⟨z,H.reads c⟩

def G7(d:BY)(e:BY)(f:Bool):Option Bool:=
  if f=true then (some (false)) else ((iI d (ByteArray.mk #[47])).bind λ g=>(lJ e g).bind λ b=>if b.2=true then (if (sEq b.1 (ByteArray.mk #[]))=true then (some (true)) else ((idx b.1.data.toList 0).bind λ c=>some ((c.toNat:Int) == 47))) else (some (false)))
def G8(b:BY)(c:BY):Option Bool:=
  (gH b).bind λ d=>if (!d)=true then (G7 c b true) else ((gH c).bind λ e=>G7 c b (!e))
theorem Ib{f g:BY}(H:Sep w (Fo) rs){r:Bool}(m:G8 f g=some r) :
    Cf 65 [.string f,.string g] w λ v w'=>.bool r=v/\Sep w' (Fo) (rs):=by
 unfold G8 at m
 refine ent func65 z ntmps65 z z λ a E=>sq<|pn 1 E z λ a E=>wS<|aJ (λ a w=>∃ i,Jn 32 a w [(0,.string f),(1,.string g),(14,.bool i)] (Fo) rs (G7 g f i=some r)) ?_ ?_
 ·refine wG<|pr 1 E z λ a E=>bd m λ p j m=>xk2 E z (cf_ 83) (kK H j) λ w H a E=>pr 2 E z λ a E=>cs m (λ b m=>?_) λ b m=>?_
  ·exact pk 4 E (kc 10 z b) z λ a E=>nt<|⟨_,_,E.to z,H,Y0,m⟩
  ·refine pk 1 E (kc 10 z b) z λ a E=>bd m λ q k m=>gc 10 E b z (cf_ 83) (kK H k)<|?_
   rintro _ w ⟨rfl,H⟩ a E
   exact pk 2 E (kc 10 z b) z λ a E=>nt<|⟨_,_,E.to z,H,Y0,m⟩
 ·clear E H m
  rintro a w ⟨i,s,E,H,e,m⟩
  unfold G7 at m
  refine wif E m z (λ m=>?_) λ m=>?_
  ·refine sq<|pn 1 E z λ a E=>wR<|aG<|o1 E z<|?_
   cases m
   exact ⟨z,H.reads e⟩
  ·refine wK<|aA<|sp 2 E z λ a E=>bd m λ u n m=>xk2 E z (cf_ 136) (Q7 H n) λ w H a E=>bd m λ x o m=>xk2 E z (cf_ 135) (R7 H o) λ w H a E=>pr 5 E z λ a E=>xp 2 E z λ a E=>cs m (λ c m=>?_) λ c m=>?_
   ·refine pk 3 E (kc 23 z c) z λ a E=>cs m (λ d m=>?_) λ d m=>?_
    ·refine pk 6 E (kc' (kc 26 z d) 23 z c) z λ a E=>nt<|wR<|o1 E z<|?_
     cases m
     exact ⟨z,H.reads e⟩
    ·refine pk 1 E (kc 26 z d) z λ a E=>bd m λ t l m=>gv 26 E d z (Gw E z z z U9 l) λ a E=>pk 4 E (kc' (kc 26 z d) 23 z c) z λ a E=>nt<|wR<|o1 E z<|?_
     cases m
     exact ⟨z,H.reads e⟩
   ·refine pk 9 E (kc 23 z c) z λ a E=>nt<|wR<|o1 E z<|?_
    cases m
    exact ⟨z,H.reads e⟩

def B9(rec_1:Int->Int->Option Int)(b:Int)(c:Int):Option Int:=
  rec_1 c (IntKind.i64.wrap (b+1))
def yW(rec_1:Int->Int->Option Int)(b:Int)(d:Int)(c:Bool):Option Int:=
  if c=true then (B9 rec_1 b b) else (B9 rec_1 b d)
def mW(b:List aF)(e:BY):Nat->Int->Int->Option Int
  | 0,_,_=>none
  | g+1,c,d=>
    if (decide (d < (b.length:Int)))=true then ((idx b d).bind λ f=>(G8 e f.Prefix).bind λ i=>if i=true then (if (decide (c < 0))=true then (yW (mW b e g) d c true) else ((idx b c).bind λ j=>yW (mW b e g) d c (decide ((f.Prefix.size:Int) > (j.Prefix.size:Int))))) else (yW (mW b e g) d c false)) else ((pE b).bind λ k=>if (!k)=true then (some ((-1))) else (some (c)))
def mR(b:List aF)(c:BY):Option Int:=
  mW b c (((b.length:Int) - 0:Int).toNat+1) (-1) 0
theorem A2{g:VL}{f:List aF}{i:BY}(H:Sep w (Fo) rs)(n:rSl aN g f ∈ rs){r:Int}(m:mR f i=some r) :
    Cf 24 [g,.string i] w λ v w'=>.int .i64 r=v/\Sep w' (Fo) (rs):=by
 unfold mR at m
 refine ent func24 z ntmps24 z z λ a E=>sp 1 E z λ a E=>nx<|pn 1 E z λ a E=>wS<|sp 1 E z λ a E=>lS E H n U32 z λ a E=>pn 1 E z λ a E=>wB<|bG (λ j a w=>∃ o l,Jn 41 a w [(0,g),(1,.string i),(5,.int .i64 o),(8,g),(9,.int .i64 (f.length:Int)),(10,.int .i64 l)] (Fo) rs (mW f i j o l=some r)) (((f.length:Int) - 0:Int).toNat+1) ?_ ?_
 ·exact X3 ⟨E.to z,H,Y0,m⟩
 ·clear E H m
  rintro j a w ⟨o,l,I,E,H,c,m⟩
  cases j with
  | zero=>exact (bE m z).elim
  | succ j=>
   unfold mW at m
   refine sq<|pn 1 E z λ a E=>wS<|wif E m z (λ m=>?_) λ m=>?_
   ·refine wK<|aA<|aJ (λ a w=>∃ s,Jn 41 a w [(0,g),(1,.string i),(5,.int .i64 s),(8,g),(9,.int .i64 (f.length:Int)),(10,.int .i64 l)] (Fo) rs (B9 (mW f i j) l s=some r)) ?_ ?_
    ·refine wB<|sp 1 E z λ a E=>bd m λ J t m=>dB E H (wn z) z z z z z (c _ n) U32 iY t λ q14 a H E=>ldf kZ E H z z z z z m0 U31 z iY λ a E=>al2 E H z Mf λ K w a H E=>pr 1 E z λ a E=>ss 0 E H z iY z λ w H=>nt<|aJ (λ a w=>∃ p,Jn 41 a w [(0,g),(1,.string i),(5,.int .i64 o),(6,.int .i64 l),(8,g),(9,.int .i64 (f.length:Int)),(10,.int .i64 l),(34,.bool p)] (Fo) rs (yW (mW f i j) l o p=some r)) ?_ ?_
     ·obtain ⟨L,H⟩:=H.raw (t1 (c _ n))
      refine dw [(0,0),(1,0),(2,0),(3,1),(4,0),(5,0),(6,0),(7,0),(8,0),(9,0),(10,0),(11,0),(12,0),(13,0),(14,0),(15,0),(16,0),(17,0),(18,0),(19,0)] [0] [0] H (by kernel_rfl) (λ _ _ _ h=>False.elim h.2) λ w W0 hI H=>fn 2 E z λ a E=>fb2 E m0 U9 z λ a E=>bQ z<|bd m λ M u m=>xk2 E z (cf_ 65) (Ib H u) λ w H a E=>nt<|⟨⟨_,_,H,(aU m0 (bH)),(aD m0 (bO))⟩,fn 1 E z λ a E=>cs m (λ e m=>?_) λ e m=>?_⟩
      ·refine fk 3 E (kc 19 z e) z λ a E=>cs m (λ b m=>?_) λ b m=>?_
       ·refine fk 12 E (kc' (kc 22 z b) 19 z e) z λ a E=>bB<|?_
        clear hI
        exact aA<|have H:=H.drop 0;⟨_,_,E.to z,H,(Y2 c),m⟩
       ·refine fk 1 E (kc 22 z b) z λ a E=>fb E z (ws' (d:=22) E z z z z b) z z z z m0 z U9 z λ a E=>fk 3 E (kc 22 z b) z λ a E=>bd m λ N x m=>?_
        obtain ⟨q26,O,y,A⟩:=fW (P:=Tryz.prog) (k:=.i64) hI (fV (.head _)) U32 iY x
        refine cU E z (ws' (d:=22) E z z z z b) z z (λ w hW=>iD E z z z (y w)) λ a E=>?_
        have B:=gY A (λ _ _ _ h=>sN h)
        refine fk 1 E (kc 22 z b) z λ a E=>fa E z (ws' (d:=22) E z z z z b) z z z z B U9 z λ a E=>fk 4 E (kc' (kc 22 z b) 19 z e) z λ a E=>bB<|?_
        clear hI
        exact aA<|have H:=H.drop 0;⟨_,_,E.to z,H,(Y2 c),m⟩
      ·refine fk 15 E (kc 19 z e) z λ a E=>bB<|?_
       clear hI
       exact aA<|have H:=H.drop 0;⟨_,_,E.to z,H,(Y2 c),m⟩
     ·clear E H m
      rintro a w ⟨p,F,E,H,q,m⟩
      unfold yW at m
      refine wif E m z (λ m=>?_) λ m=>?_
      ·exact wG<|pr 2 E z λ a E=>wN<|bP<|aA<|⟨_,_,E.to z,H,q,m⟩
      ·exact wK<|bP<|aA<|⟨_,_,E.to z,H,q,m⟩
    ·clear E H m
     rintro a w ⟨s,G,E,H,C,m⟩
     unfold B9 at m
     exact wG<|pn 2 E z λ a E=>⟨j,nL j,X3 ⟨E.to z,H,C,m⟩⟩
   ·refine wX<|aT<|aT<|cL<|aA<|wS<|sp 1 E z λ a E=>bd m λ Q D m=>xk2 E z (cf_ 38) (B8 H (c _ n) D) λ w H a E=>pn 1 E z λ a E=>wif E m z (λ m=>?_) λ m=>?_
    ·refine sq<|pn 1 E z λ a E=>wR<|aG<|o1 E z<|?_
     cases m
     exact ⟨z,H.reads c⟩
    ·refine wK<|aA<|sq<|pn 2 E z λ a E=>wR<|o1 E z<|?_
     cases m
     exact ⟨z,H.reads c⟩

def pM(x1:aF)(b:BY):Option Int:=
  (qI x1.Prefix b).bind λ c=>some (c)
theorem Dp{x1:aF}{b:BY}(H:Sep w (Fo) rs){r:Int}(m:pM x1 b=some r) :
    Cf 242 [.agg (qZ x1).toArray,.string b] w λ v w'=>.int .i64 r=v/\Sep w' (Fo) (rs):=by
 unfold pM at m
 refine ent func242 z ntmps242 z z λ a E=>sq<|bx E H z λ d w a H E=>pr 1 E z λ a E=>xp 1 E z λ a E=>lb2 E H 0 U9 z λ a E=>pr 1 E z λ a E=>bd m λ e c m=>xk2 E z (cf_ 113) (xB H c) λ w H a E=>pn 1 E z λ a E=>wR<|o1 E z<|have H:=H.drop 0;?_
 cases m
 exact ⟨z,H.reads Y0⟩

def cJ(c:List aF)(e:BY):Nat->Int->Int->Option xM
  | 0,_,_=>none
  | f+1,b,d=>
    if (decide (b < d))=true then ((idx c (IntKind.i64.wrap (tM .u64 (IntKind.u64.wrap (IntKind.i64.wrap (b+d))) 1))).bind λ k=>(pM k e).bind λ g=>if (decide (g < 0))=true then (cJ c e f (IntKind.i64.wrap ((IntKind.i64.wrap (tM .u64 (IntKind.u64.wrap (IntKind.i64.wrap (b+d))) 1))+1)) d) else (cJ c e f b (IntKind.i64.wrap (tM .u64 (IntKind.u64.wrap (IntKind.i64.wrap (b+d))) 1)))) else (if (decide (b < (c.length:Int)))=true then ((idx c b).bind λ i=>(pM i e).bind λ j=>some (b,j == 0)) else (some (b,false)))
def fF(b:List aF)(c:BY):Option xM:=
  cJ b c (((b.length:Int) - 0:Int).toNat+1) 0 (b.length:Int)
theorem wZ{j:VL}{f:List aF}{i:BY}(H:Sep w (Fo) rs)(g:rSl aN j f ∈ rs){r:Int×Bool}(m:fF f i=some r) :
    Cf 184 [j,.string i,.func (.func 242) #[] #[]] w λ v w'=>.tuple #[.int .i64 r.1,.bool r.2]=v/\Sep w' (Fo) (rs):=by
 unfold fF at m
 refine ent func184 z ntmps184 z z λ a E=>sp 2 E z λ a E=>xp 1 E z λ a E=>lS E H g U32 z λ a E=>pr 1 E z λ a E=>xp 3 E z λ a E=>nt<|wS<|wB<|bG (λ e a w=>∃ k l,Jn 49 a w [(0,j),(1,.string i),(2,.func (.func 242) #[] #[]),(8,.int .i64 (f.length:Int)),(9,.int .i64 k),(10,.int .i64 l)] (Fo) rs (cJ f i e k l=some r)) (((f.length:Int) - 0:Int).toNat+1) ?_ ?_
 ·exact X3 ⟨E.to z,H,Y0,m⟩
 ·clear E H m
  rintro e a w ⟨k,l,s,E,H,c,m⟩
  cases e with
  | zero=>exact (bE m z).elim
  | succ e=>
   unfold cJ at m
   refine wS<|sq<|pn 3 E z λ a E=>wif E m z (λ m=>?_) λ m=>?_
   ·refine wK<|aA<|wB<|sp 4 E z λ a E=>sv2 E z (Eg E z z z (by decide)) λ a E=>pr 2 E z λ a E=>xp 3 E z λ a E=>bd m λ A n m=>dB E H (wn z) z z z z z (c _ g) U32 iY n λ q11 a H E=>ldf kZ E H z z z z z m0 U31 z iY λ a E=>pr 1 E z λ a E=>bd m λ t o m=>bK E (wn z) z z (bN E z z z ((cf_ 242) _)) (Dp H o)<|?_
    rintro _ w ⟨rfl,H⟩ a E
    refine pn 1 E z λ a E=>wif E m z (λ m=>?_) λ m=>?_
    ·exact wG<|pr 3 E z λ a E=>wN<|bP<|aA<|⟨e,nL e,X3 ⟨E.to z,H,(Y1 c),m⟩⟩
    ·exact wG<|pr 2 E z λ a E=>wN<|bP<|aA<|⟨e,nL e,X3 ⟨E.to z,H,(Y1 c),m⟩⟩
   ·refine wX<|aT<|aT<|cL<|aA<|sp 5 E z λ a E=>cs m (λ b m=>?_) λ b m=>?_
    ·refine pk 3 E (kc 39 z b) z λ a E=>bd m λ u p m=>dB E H (ws' (d:=39) E z z z z b) z z z z z (c _ g) U32 iY p λ q17 a H E=>Ar E H (ws' (d:=39) E z z z z b) z z z z m0 U31 z iY λ x a H E=>?_
     obtain ⟨_,hcs⟩:=H.rd (.head _)
     obtain rfl:=Ax hcs
     clear hcs
     refine pk 1 E (kc 39 z b) z λ a E=>bd m λ y q m=>bK E (ws' (d:=39) E z z z z b) z z (bN E z z z ((cf_ 242) _)) (Dp H q)<|?_
     rintro _ w ⟨rfl,H⟩ a E
     refine pk 4 E (kc 39 z b) z λ a E=>nt<|wR<|iH E z z z<|?_
     cases m
     exact ⟨z,H.reads (Y2 c)⟩
    ·refine pk 11 E (kc 39 z b) z λ a E=>nt<|wR<|iH E z z z<|?_
     cases m
     exact ⟨z,H.reads c⟩

def yF(c:List aF)(d:BY):Option xM:=
  (fF c d).bind λ b=>some (b.1,b.2)
theorem Bb{b:VL}{c:List aF}{d:BY}(H:Sep w (Fo) rs)(e:rSl aN b c ∈ rs){r:Int×Bool}(m:yF c d=some r) :
    Cf 183 [b,.string d] w λ v w'=>.tuple #[.int .i64 r.1,.bool r.2]=v/\Sep w' (Fo) (rs):=by
 unfold yF at m
 refine ent func183 z ntmps183 z z λ a E=>sp 2 E z λ a E=>xp 2 E z λ a E=>bd m λ g f m=>xk2 E z (cf_ 184) (wZ H e f) λ w H a E=>pn 4 E z λ a E=>wR<|iH E z z z<|?_
 cases m
 exact ⟨z,H.reads Y0⟩

def s4(c:Int×Bool)(x3:aF)(b:iS):Option W5:=
  (idx b c.1).bind λ d=>some (b.set c.1.toNat x3,true)
def s5(b:Int×Bool)(x3:aF)(c:List aF)(d:Bool):Option W5:=
  if d=true then (some ([],false)) else ((ck (c.length <= LIM)).bind λ e=>if (!b.2)=true then ((ck (0 <= b.1/\b.1 <= c.length/\c.length <= 1000000)).bind λ f=>s4 b x3 (c.take b.1.toNat ++ x3::c.drop b.1.toNat)) else (s4 b x3 c))
def pF(b:List aF)(x3:aF):Option W5:=
  (yF b x3.Prefix).bind λ c=>if (!c.2)=true then (s5 c x3 b ((b.length:Int) == 32)) else (s5 c x3 b false)
theorem Cy{p:VL}{q:List aF}{x3:aF}(H:Sep w (Fo) rs)(g:rSl aN p q ∈ rs){r:iS×Bool}(m:pF q x3=some r) :
    Cf 175 [p,.agg (qZ x3).toArray] w λ v w'=>∃ A,.tuple #[A,.bool r.2]=v/\Sep w' (Row 31 aN A r.1::Fo) (rs):=by
 unfold pF at m
 refine ent func175 z ntmps175 z z λ a E=>sq<|bx E H z λ o w a H E=>pr 2 E z λ a E=>xp 2 E z λ a E=>lb2 E H 0 U9 z λ a E=>bd m λ j B m=>xk2 E z (cf_ 183) (Bb H g B) λ w H a E=>pn 5 E z λ a E=>wS<|aJ (λ a w=>∃ s,Jn 36 a w [(0,p),(3,pt o 0),(6,.int .i64 j.1),(7,.bool j.2),(21,.bool s)] (Blk o 31 (qZ x3)::Fo) rs (s5 j x3 q s=some r)) ?_ ?_
 ·refine wG<|pr 3 E z λ a E=>cs m (λ b m=>?_) λ b m=>?_
  ·exact pk 1 E (kc 17 z b) z λ a E=>gv 17 E b z (zC E H z z g U32) λ a E=>pk 2 E (kc 17 z b) z λ a E=>nt<|⟨_,_,E.to z,H,Y0,m⟩
  ·exact pk 4 E (kc 17 z b) z λ a E=>nt<|⟨_,_,E.to z,H,Y0,m⟩
 ·clear E H m
  rintro a w ⟨s,D,E,H,c,m⟩
  unfold s5 at m
  refine wif E m z (λ m=>?_) λ m=>?_
  ·refine sq<|pn 2 E z λ a E=>wR<|aG<|iH E z z z<|have H:=H.nilRow 31 aN;have H:=H.drop 1;?_
   cases m
   exact ⟨_,z,H.reads c⟩
  ·refine wK<|aA<|sp 1 E z λ a E=>bk m λ t m=>xc2 E z (cf_ 66) (tJ H (c _ g) t) λ F w H a E=>pn 1 E z λ a E=>aJ (λ a w=>∃ k l,Jn 36 a w [(0,k),(3,pt o 0),(6,.int .i64 j.1)] (Row 31 aN k l::Blk o 31 (qZ x3)::Fo) rs (s4 j x3 l=some r)) ?_ ?_
   ·refine sq<|pn 2 E z λ a E=>wif E m z (λ m=>?_) λ m=>?_
    ·exact wG<|pr 2 E z λ a E=>ln 1 (qZ x3) E H U31 z iY λ a E=>kG (e:=31) (d:=aN) (cs:=[.string x3.Prefix,.int .i64 x3.Epoch,.int .i64 x3.State]) (xs:=[x3]) E H (wn z) z z z (E.evs z) (by kernel_rfl) z z (λ ok hr=>(Rows.single (d:=aN) (cs:=[.string x3.Prefix,.int .i64 x3.Epoch,.int .i64 x3.State]) (x:=x3) q8)) λ G w a H E=>bk m λ u m=>xc2 E z (cf_ 186) (Ra.insert_a (ix:=1) (iu:=0) H z z (by decide) u) λ I w H a E=>pn 1 E z λ a E=>have H:=H.drop 0;X3 ⟨E.to z,H,c,m⟩
    ·exact wK<|aA<|X3 ⟨E.to z,H,c,m⟩
   ·clear E H m
    rintro a w ⟨k,l,C,E,H,y,m⟩
    unfold s4 at m
    refine sp 2 E z λ a E=>ln 1 (qZ x3) E H U31 z iY λ a E=>bd m λ J f m=>?_
    obtain ⟨K,L,n⟩:=H.rowformNE (i:=0) z f
    refine sv2 E z (dG (d:=aN) E n z z z z U32 iY f) λ a E=>P8 (d:=aN) (i:=0) (us:=[.string x3.Prefix,.int .i64 x3.Epoch,.int .i64 x3.State]) (z':=x3) E H kZ (wn z) z n z z z z z z z f iY λ w H=>nx<|pn 3 E z λ a E=>wR<|iH E z z z<|have H:=H.drop 1;?_
    cases m
    exact ⟨_,z,H.reads y⟩

def xG(c:List aF)(e:Int)(f:BY)(g:Bool):Option W5:=
  if g=true then (some ([],false)) else ((idx c e).bind λ d=>(pF c (⟨f,d.Epoch,2⟩:aF)).bind λ b=>some (b.1,b.2))
def uQ(b:List aF)(d:BY):Option W5:=
  (mR b d).bind λ c=>if (decide (c < 0))=true then (xG b c d true) else ((idx b c).bind λ e=>xG b c d (e.State != 1))
theorem Qf{i:VL}{j:List aF}{f:BY}(H:Sep w (Fo) rs)(c:rSl aN i j ∈ rs){r:iS×Bool}(m:uQ j f=some r) :
    Cf 105 [i,.string f] w λ v w'=>∃ p,.tuple #[p,.bool r.2]=v/\Sep w' (Row 31 aN p r.1::Fo) (rs):=by
 unfold uQ at m
 refine ent func105 z ntmps105 z z λ a E=>sp 2 E z λ a E=>xp 2 E z λ a E=>bd m λ q s m=>xk2 E z (cf_ 24) (A2 H c s) λ w H a E=>pn 1 E z λ a E=>wS<|aJ (λ a w=>∃ k,Jn 31 a w [(0,i),(1,.string f),(6,.int .i64 q),(19,.bool k)] (Fo) rs (xG j q f k=some r)) ?_ ?_
 ·refine wG<|pr 3 E z λ a E=>cs m (λ b m=>?_) λ b m=>?_
  ·exact pk 7 E (kc 12 z b) z λ a E=>nt<|⟨_,_,E.to z,H,Y0,m⟩
  ·exact pk 2 E (kc 12 z b) z λ a E=>bd m λ t l m=>dB E H (ws' (d:=12) E z z z z b) z z z z z c U32 iY l λ q19 a H E=>have H:=H.derive1 m0 (rAt (kI .i64) (q19.add 2) t.State) (λ ok h=>Q2 h);pk 1 E (kc 12 z b) z λ a E=>gv 12 E b z (sK E H z z m0 U3 z) λ a E=>pk 2 E (kc 12 z b) z λ a E=>nt<|⟨_,_,E.to z,H,(Y2 Y0),m⟩
 ·clear E H m
  rintro a w ⟨k,u,E,H,e,m⟩
  unfold xG at m
  refine wif E m z (λ m=>?_) λ m=>?_
  ·refine sq<|pn 2 E z λ a E=>wR<|aG<|iH E z z z<|have H:=H.nilRow 31 aN;?_
   cases m
   exact ⟨_,z,H.reads e⟩
  ·refine wK<|aA<|sp 4 E z λ a E=>bd m λ g n m=>dB E H (wn z) z z z z z (e _ c) U32 iY n λ q12 a H E=>have H:=H.derive1 m0 (rAt (kI .i64) (q12.add 1) g.Epoch) (λ ok h=>Q1 h);pr 1 E z λ a E=>sv2 E z (sK E H z z m0 U2 z) λ a E=>sv2 E z (cH E z (E.evs z) (v:=.agg #[.string f,.int .i64 g.Epoch,.int .i64 2]) (by kernel_rfl)) λ a E=>bd m λ x o m=>xc2 E z (cf_ 175) (Cy (x3:=(⟨f,g.Epoch,2⟩:aF)) H (t2 (e _ c)) o)<|?_
   rintro _ w ⟨y,rfl,H⟩ a E
   refine pn 4 E z λ a E=>wR<|iH E z z z<|?_
   cases m
   exact ⟨_,z,H.reads (Y2 e)⟩

def vU(d:List aF)(e:BY)(f:Int)(c:Bool):Option W5:=
  if c=true then (some ([],false)) else ((pF d (⟨e,f,1⟩:aF)).bind λ b=>some (b.1,b.2))
def oS(b:List aF)(c:BY)(d:Int)(g:Bool):Option W5:=
  if g=true then (some ([],false)) else ((yF b c).bind λ e=>if e.2=true then ((idx b e.1).bind λ f=>vU b c d (decide (f.Epoch ≥ d))) else (vU b c d false))
def qL(c:List aF)(d:BY)(b:Int):Option W5:=
  (pE c).bind λ e=>if (!e)=true then (oS c d b true) else ((gH d).bind λ f=>if (!f)=true then (oS c d b true) else (if (decide (b < 0))=true then (oS c d b true) else (oS c d b (decide (b > 281474976710656)))))
theorem Ow{o:VL}{p:List aF}{e:BY}{f:Int}(H:Sep w (Fo) rs)(l:rSl aN o p ∈ rs){r:iS×Bool}(m:qL p e f=some r) :
    Cf 108 [o,.string e,.int .i64 f] w λ v w'=>∃ A,.tuple #[A,.bool r.2]=v/\Sep w' (Row 31 aN A r.1::Fo) (rs):=by
 unfold qL at m
 refine ent func108 z ntmps108 z z λ a E=>sq<|pn 2 E z λ a E=>wS<|aJ (λ a w=>∃ q,Jn 49 a w [(0,o),(1,.string e),(2,.int .i64 f),(25,.bool q)] (Fo) rs (oS p e f q=some r)) ?_ ?_
 ·refine wG<|pr 1 E z λ a E=>bd m λ D s m=>xk2 E z (cf_ 38) (B8 H l s) λ w H a E=>pr 2 E z λ a E=>cs m (λ c m=>?_) λ c m=>?_
  ·exact pk 12 E (kc 13 z c) z λ a E=>nt<|⟨_,_,E.to z,H,Y0,m⟩
  ·refine pk 1 E (kc 13 z c) z λ a E=>bd m λ F t m=>gc 13 E c z (cf_ 83) (kK H t)<|?_
   rintro _ w ⟨rfl,H⟩ a E
   refine pk 3 E (kc 13 z c) z λ a E=>cs m (λ i m=>?_) λ i m=>?_
   ·exact pk 7 E (kc 18 z i) z λ a E=>nt<|⟨_,_,E.to z,H,Y0,m⟩
   ·refine pk 4 E (kc 18 z i) z λ a E=>cs m (λ j m=>?_) λ j m=>?_
    ·exact pk 3 E (kc 22 z j) z λ a E=>nt<|⟨_,_,E.to z,H,Y0,m⟩
    ·exact pk 3 E (kc 22 z j) z λ a E=>nt<|⟨_,_,E.to z,H,Y0,m⟩
 ·clear E H m
  rintro a w ⟨q,G,E,H,g,m⟩
  unfold oS at m
  refine wif E m z (λ m=>?_) λ m=>?_
  ·refine sq<|pn 2 E z λ a E=>wR<|aG<|iH E z z z<|have H:=H.nilRow 31 aN;?_
   cases m
   exact ⟨_,z,H.reads g⟩
  ·refine wK<|aA<|wS<|sp 2 E z λ a E=>bd m λ K u m=>xk2 E z (cf_ 183) (Bb H (g _ l) u) λ w H a E=>pn 5 E z λ a E=>aJ (λ a w=>∃ n,Jn 49 a w [(0,o),(1,.string e),(2,.int .i64 f),(41,.bool n)] (Fo) rs (vU p e f n=some r)) ?_ ?_
   ·refine wG<|pr 2 E z λ a E=>cs m (λ b m=>?_) λ b m=>?_
    ·exact pk 2 E (kc 33 z b) z λ a E=>bd m λ B x m=>dB E H (ws' (d:=33) E z z z z b) z z z z z (g _ l) U32 iY x λ q20 a H E=>have H:=H.derive1 m0 (rAt (kI .i64) (q20.add 1) B.Epoch) (λ ok h=>Q1 h);pk 1 E (kc 33 z b) z λ a E=>gv 33 E b z (sK E H z z m0 U2 z) λ a E=>pk 3 E (kc 33 z b) z λ a E=>nt<|⟨_,_,E.to z,H,(Y2 g),m⟩
    ·exact pk 8 E (kc 33 z b) z λ a E=>nt<|⟨_,_,E.to z,H,g,m⟩
   ·clear E H m
    rintro a w ⟨n,C,E,H,k,m⟩
    unfold vU at m
    refine wif E m z (λ m=>?_) λ m=>?_
    ·refine sq<|pn 2 E z λ a E=>wR<|aG<|iH E z z z<|have H:=H.nilRow 31 aN;?_
     cases m
     exact ⟨_,z,H.reads k⟩
    ·refine wK<|aA<|sp 3 E z λ a E=>sv2 E z (cH E z (E.evs z) (v:=.agg #[.string e,.int .i64 f,.int .i64 1]) (by kernel_rfl)) λ a E=>bd m λ I y m=>xc2 E z (cf_ 175) (Cy (x3:=(⟨e,f,1⟩:aF)) H (k _ l) y)<|?_
     rintro _ w ⟨J,rfl,H⟩ a E
     refine pn 4 E z λ a E=>wR<|iH E z z z<|?_
     cases m
     exact ⟨_,z,H.reads k⟩

def wI(d:List aF)(e:BY)(f:Int)(c:Bool):Option W5:=
  if c=true then (some ([],false)) else ((pF d (⟨e,f,3⟩:aF)).bind λ b=>some (b.1,b.2))
def s6(b:List aF)(c:BY)(d:Int):Option W5:=
  (pE b).bind λ i=>if (!i)=true then (some ([],false)) else ((yF b c).bind λ e=>if (!e.2)=true then (wI b c d true) else ((idx b e.1).bind λ f=>if (f.State != 2)=true then (wI b c d true) else ((idx b e.1).bind λ g=>wI b c d (g.Epoch != d))))
theorem Uo{k:VL}{l:List aF}{g:BY}{i:Int}(H:Sep w (Fo) rs)(e:rSl aN k l ∈ rs){r:iS×Bool}(m:s6 l g i=some r) :
    Cf 116 [k,.string g,.int .i64 i] w λ v w'=>∃ q,.tuple #[q,.bool r.2]=v/\Sep w' (Row 31 aN q r.1::Fo) (rs):=by
 unfold s6 at m
 refine ent func116 z ntmps116 z z λ a E=>sq<|pn 2 E z λ a E=>wS<|sp 1 E z λ a E=>bd m λ C s m=>xk2 E z (cf_ 38) (B8 H e s) λ w H a E=>pn 1 E z λ a E=>wif E m z (λ m=>?_) λ m=>?_
 ·refine sq<|pn 2 E z λ a E=>wR<|aG<|iH E z z z<|have H:=H.nilRow 31 aN;?_
  cases m
  exact ⟨_,z,H.reads Y0⟩
 ·refine wK<|aA<|sp 2 E z λ a E=>bd m λ D t m=>xk2 E z (cf_ 183) (Bb H e t) λ w H a E=>pn 5 E z λ a E=>wS<|aJ (λ a w=>∃ j,Jn 45 a w [(0,k),(1,.string g),(2,.int .i64 i),(37,.bool j)] (Fo) rs (wI l g i j=some r)) ?_ ?_
  ·refine wG<|pr 3 E z λ a E=>cs m (λ b m=>?_) λ b m=>?_
   ·exact pk 16 E (kc 21 z b) z λ a E=>nt<|⟨_,_,E.to z,H,Y0,m⟩
   ·refine pk 2 E (kc 21 z b) z λ a E=>bd m λ u n m=>dB E H (ws' (d:=21) E z z z z b) z z z z z e U32 iY n λ q19 a H E=>have H:=H.derive1 m0 (rAt (kI .i64) (q19.add 2) u.State) (λ ok h=>Q2 h);pk 1 E (kc 21 z b) z λ a E=>gv 21 E b z (sK E H z z m0 U3 z) λ a E=>pk 3 E (kc 21 z b) z λ a E=>cs m (λ c m=>?_) λ c m=>?_
    ·exact pk 8 E (kc 29 z c) z λ a E=>nt<|⟨_,_,E.to z,H,(Y2 Y0),m⟩
    ·exact pk 2 E (kc 29 z c) z λ a E=>bd m λ x o m=>dB E H (ws' (d:=29) E z z z z c) z z z z z (t2 e) U32 iY o λ q23 a H E=>have H:=H.derive1 m0 (rAt (kI .i64) (q23.add 1) x.Epoch) (λ ok h=>Q1 h);pk 1 E (kc 29 z c) z λ a E=>gv 29 E c z (sK E H z z m0 U2 z) λ a E=>pk 3 E (kc 29 z c) z λ a E=>nt<|⟨_,_,E.to z,H,(Y4 Y0),m⟩
  ·clear E H m
   rintro a w ⟨j,y,E,H,f,m⟩
   unfold wI at m
   refine wif E m z (λ m=>?_) λ m=>?_
   ·refine sq<|pn 2 E z λ a E=>wR<|aG<|iH E z z z<|have H:=H.nilRow 31 aN;?_
    cases m
    exact ⟨_,z,H.reads f⟩
   ·refine wK<|aA<|sp 3 E z λ a E=>sv2 E z (cH E z (E.evs z) (v:=.agg #[.string g,.int .i64 i,.int .i64 3]) (by kernel_rfl)) λ a E=>bd m λ A p m=>xc2 E z (cf_ 175) (Cy (x3:=(⟨g,i,3⟩:aF)) H (f _ e) p)<|?_
    rintro _ w ⟨B,rfl,H⟩ a E
    refine pn 4 E z λ a E=>wR<|iH E z z z<|?_
    cases m
    exact ⟨_,z,H.reads f⟩

def K2(x1:aF)(b:BY):Option Int:=
  (qI x1.Prefix b).bind λ c=>some (c)
theorem Dq{x1:aF}{b:BY}(H:Sep w (Fo) rs){r:Int}(m:K2 x1 b=some r) :
    Cf 185 [.agg (qZ x1).toArray,.string b] w λ v w'=>.int .i64 r=v/\Sep w' (Fo) (rs):=by
 unfold K2 at m
 refine ent func185 z ntmps185 z z λ a E=>sq<|bx E H z λ d w a H E=>pr 1 E z λ a E=>xp 1 E z λ a E=>lb2 E H 0 U9 z λ a E=>pr 1 E z λ a E=>bd m λ e c m=>xk2 E z (cf_ 113) (xB H c) λ w H a E=>pn 1 E z λ a E=>wR<|o1 E z<|have H:=H.drop 0;?_
 cases m
 exact ⟨z,H.reads Y0⟩

def cE(c:List aF)(e:BY):Nat->Int->Int->Option xM
  | 0,_,_=>none
  | f+1,b,d=>
    if (decide (b < d))=true then ((idx c (IntKind.i64.wrap (tM .u64 (IntKind.u64.wrap (IntKind.i64.wrap (b+d))) 1))).bind λ k=>(K2 k e).bind λ g=>if (decide (g < 0))=true then (cE c e f (IntKind.i64.wrap ((IntKind.i64.wrap (tM .u64 (IntKind.u64.wrap (IntKind.i64.wrap (b+d))) 1))+1)) d) else (cE c e f b (IntKind.i64.wrap (tM .u64 (IntKind.u64.wrap (IntKind.i64.wrap (b+d))) 1)))) else (if (decide (b < (c.length:Int)))=true then ((idx c b).bind λ i=>(K2 i e).bind λ j=>some (b,j == 0)) else (some (b,false)))
def dS(b:List aF)(c:BY):Option xM:=
  cE b c (((b.length:Int) - 0:Int).toNat+1) 0 (b.length:Int)
theorem vV{j:VL}{e:List aF}{p:BY}(H:Sep w (Row 31 aN j e::Fo) rs){r:Int×Bool}(m:dS e p=some r) :
    Cf 184 [j,.string p,.func (.func 185) #[] #[]] w λ v w'=>.tuple #[.int .i64 r.1,.bool r.2]=v/\Sep w' (Row 31 aN j e::Fo) (rs):=by
 unfold dS at m
 refine ent func184 z ntmps184 z z λ a E=>sp 2 E z λ a E=>xp 1 E z λ a E=>sv2 E z (mV (i:=0) E H z z z U32) λ a E=>pr 1 E z λ a E=>xp 3 E z λ a E=>nt<|wS<|wB<|bG (λ c a w=>∃ q s,Jn 49 a w [(0,j),(1,.string p),(2,.func (.func 185) #[] #[]),(8,.int .i64 (e.length:Int)),(9,.int .i64 q),(10,.int .i64 s)] (Row 31 aN j e::Fo) rs (cE e p c q s=some r)) (((e.length:Int) - 0:Int).toNat+1) ?_ ?_
 ·exact X3 ⟨E.to z,H,Y0,m⟩
 ·clear E H m
  rintro c a w ⟨q,s,y,E,H,g,m⟩
  cases c with
  | zero=>exact (bE m z).elim
  | succ c=>
   unfold cE at m
   refine wS<|sq<|pn 3 E z λ a E=>wif E m z (λ m=>?_) λ m=>?_
   ·refine wK<|aA<|wB<|sp 4 E z λ a E=>sv2 E z (Eg E z z z (by decide)) λ a E=>pr 2 E z λ a E=>xp 3 E z λ a E=>bd m λ t k m=>?_
    obtain ⟨A,B,l⟩:=H.rowformNE (i:=0) z k
    refine sv2 E z (dG (d:=aN) E l z z z z U32 iY k) λ a E=>sv2 E z (kH (i:=0) E H kZ l z z z k (us:=[.string t.Prefix,.int .i64 t.Epoch,.int .i64 t.State]) z U31 z iY) λ a E=>pr 1 E z λ a E=>bd m λ C u m=>bK E (wn z) z z (bN E z z z ((cf_ 185) _)) (Dq H u)<|?_
    rintro _ w ⟨rfl,H⟩ a E
    refine pn 1 E z λ a E=>wif E m z (λ m=>?_) λ m=>?_
    ·exact wG<|pr 3 E z λ a E=>wN<|bP<|aA<|⟨c,nL c,X3 ⟨E.to z,H,g,m⟩⟩
    ·exact wG<|pr 2 E z λ a E=>wN<|bP<|aA<|⟨c,nL c,X3 ⟨E.to z,H,g,m⟩⟩
   ·refine wX<|aT<|aT<|cL<|aA<|sp 5 E z λ a E=>cs m (λ b m=>?_) λ b m=>?_
    ·refine pk 3 E (kc 39 z b) z λ a E=>bd m λ n f m=>?_
     obtain ⟨D,F,o⟩:=H.rowformNE (i:=0) z f
     refine gv 39 E b z (dG (d:=aN) E o z z z z U32 iY f) λ a E=>gv 39 E b z (kH (i:=0) E H kZ o z z z f (us:=[.string n.Prefix,.int .i64 n.Epoch,.int .i64 n.State]) z U31 z iY) λ a E=>pk 1 E (kc 39 z b) z λ a E=>bd m λ G x m=>bK E (ws' (d:=39) E z z z z b) z z (bN E z z z ((cf_ 185) _)) (Dq H x)<|?_
     rintro _ w ⟨rfl,H⟩ a E
     refine pk 4 E (kc 39 z b) z λ a E=>nt<|wR<|iH E z z z<|?_
     cases m
     exact ⟨z,H.reads g⟩
    ·refine pk 11 E (kc 39 z b) z λ a E=>nt<|wR<|iH E z z z<|?_
     cases m
     exact ⟨z,H.reads g⟩

def zG(rec_1:iS->Int->Option iS)(c:Int)(b:iS):Option iS:=
  rec_1 b (IntKind.i64.wrap (c+1))
def nY(d:List BY):Nat->iS->Int->Option iS
  | 0,_,_=>none
  | g+1,c,e=>
    if (decide (e < (d.length:Int)))=true then ((idx d e).bind λ f=>(dS c f).bind λ b=>if (!b.2)=true then ((ck (0 <= b.1/\b.1 <= c.length/\c.length <= 1000000)).bind λ i=>zG (nY d g) e (c.take b.1.toNat ++ (⟨f,0,3⟩:aF)::c.drop b.1.toNat)) else (zG (nY d g) e c)) else (some (c))
def yG(c:List aF)(b:List BY):Option iS:=
  nY b (((b.length:Int) - 0:Int).toNat+1) c 0
theorem Up{y l:VL}{A:List aF}{f:List BY}(H:Sep w (Row 31 aN y A::Fo) rs)(n:rSl kS l f ∈ rs){r:iS}(m:yG A f=some r) :
    Cf 109 [y,l] w λ v w'=>∃ B,B=v/\Sep w' (Row 31 aN B r::Fo) (rs):=by
 unfold yG at m
 refine ent func109 z ntmps109 z z λ a E=>sq<|pn 1 E z λ a E=>wS<|sp 1 E z λ a E=>lS E H n U33 z λ a E=>pr 1 E z λ a E=>nt<|wB<|bG (λ g a w=>∃ o p i,Jn 31 a w [(0,o),(9,l),(10,.int .i64 (f.length:Int)),(11,.int .i64 i)] (Row 31 aN o p::Fo) rs (nY f g p i=some r)) (((f.length:Int) - 0:Int).toNat+1) ?_ ?_
 ·exact X4 ⟨E.to z,H,Y0,m⟩
 ·clear E H m
  rintro g a w ⟨o,p,i,D,E,H,b,m⟩
  cases g with
  | zero=>exact (bE m z).elim
  | succ g=>
   unfold nY at m
   refine sq<|pn 1 E z λ a E=>wS<|wif E m z (λ m=>?_) λ m=>?_
   ·refine wK<|aA<|aJ (λ a w=>∃ j k,Jn 31 a w [(0,j),(9,l),(10,.int .i64 (f.length:Int)),(11,.int .i64 i)] (Row 31 aN j k::Fo) rs (zG (nY f g) i k=some r)) ?_ ?_
    ·refine wB<|sq<|bd m λ c q m=>dB E H (wn z) z z z z z (b _ n) U33 sz9 q λ q17 a H E=>sv2 E z (sK E H z z m0 U9 z) λ a E=>pr 1 E z λ a E=>xp 2 E z λ a E=>bd m λ F s m=>xk2 E z (cf_ 184) (vV H s) λ w H a E=>pr 5 E z λ a E=>nx<|pn 2 E z λ a E=>wif E m z (λ m=>?_) λ m=>?_
     ·exact wG<|pr 3 E z λ a E=>sv2 E z (cH E z (E.evs z) (v:=.agg #[.string c,.int .i64 0,.int .i64 3]) (by kernel_rfl)) λ a E=>kG (e:=31) (d:=aN) (cs:=[.string c,.int .i64 0,.int .i64 3]) (xs:=[(⟨c,0,3⟩:aF)]) E H (wn z) z z z (E.evs z) (by kernel_rfl) z z (λ ok hr=>(Rows.single (d:=aN) (cs:=[.string c,.int .i64 0,.int .i64 3]) (x:=(⟨c,0,3⟩:aF)) q8)) λ G w a H E=>bk m λ t m=>xc2 E z (cf_ 186) (Ra.insert_a (ix:=1) (iu:=0) H z z (by decide) t) λ I w H a E=>pr 1 E z λ a E=>wN<|bP<|aA<|have H:=H.drop 0;X3 ⟨E.to z,H,(Y1 b),m⟩
     ·exact wK<|bP<|aA<|X3 ⟨E.to z,H,(Y1 b),m⟩
    ·clear E H m
     rintro a w ⟨j,k,C,E,H,u,m⟩
     unfold zG at m
     exact wG<|pn 2 E z λ a E=>⟨g,nL g,X4 ⟨E.to z,H,u,m⟩⟩
   ·refine wX<|aT<|aT<|cL<|aA<|sq<|pn 2 E z λ a E=>wR<|o1 E z<|?_
    cases m
    exact ⟨_,z,H.reads b⟩

def wJ(b:BY):Option Bool:=
  if (sEq b (ByteArray.mk #[]))=true then (some (true)) else ((gH b).bind λ c=>some (c))
theorem Bx{c:BY}(H:Sep w (Fo) rs){r:Bool}(m:wJ c=some r) :
    Cf 123 [.string c] w λ v w'=>.bool r=v/\Sep w' (Fo) (rs):=by
 unfold wJ at m
 refine ent func123 z ntmps123 z z λ a E=>sp 1 E z λ a E=>xp 3 E z λ a E=>cs m (λ b m=>?_) λ b m=>?_
 ·refine pk 4 E (kc 5 z b) z λ a E=>nt<|wR<|o1 E z<|?_
  cases m
  exact ⟨z,H.reads Y0⟩
 ·refine pk 1 E (kc 5 z b) z λ a E=>bd m λ e d m=>gc 5 E b z (cf_ 83) (kK H d)<|?_
  rintro _ w ⟨rfl,H⟩ a E
  refine pk 2 E (kc 5 z b) z λ a E=>nt<|wR<|o1 E z<|?_
  cases m
  exact ⟨z,H.reads Y0⟩

def qT(rec_1:Int->Option Bool)(c:Int)(b:Bool):Option Bool:=
  if b=true then (some (false)) else (rec_1 (IntKind.i64.wrap (c+1)))
def lK(b:List Int):Nat->Int->Option Bool
  | 0,_=>none
  | d+1,c=>
    if (decide (c < (b.length:Int)))=true then ((idx b c).bind λ e=>if (decide (e < 0))=true then (qT (lK b d) c true) else (qT (lK b d) c (decide (e > 281474976710656)))) else (some (true))
def yH(b:List Int):Option Bool:=
  lK b (((b.length:Int) - 0:Int).toNat+1) 0
theorem Mp{j:VL}{b:List Int}(H:Sep w (Fo) rs)(k:rSl (kI .i64) j b ∈ rs){r:Bool}(m:yH b=some r) :
    Cf 122 [j] w λ v w'=>.bool r=v/\Sep w' (Fo) (rs):=by
 unfold yH at m
 refine ent func122 z ntmps122 z z λ a E=>sq<|pn 1 E z λ a E=>wS<|sp 1 E z λ a E=>lS E H k U46 z λ a E=>pr 1 E z λ a E=>nt<|wB<|bG (λ c a w=>∃ f,Jn 18 a w [(5,j),(6,.int .i64 (b.length:Int)),(7,.int .i64 f)] (Fo) rs (lK b c f=some r)) (((b.length:Int) - 0:Int).toNat+1) ?_ ?_
 ·exact ⟨_,_,E.to z,H,Y0,m⟩
 ·clear E H m
  rintro c a w ⟨f,o,E,H,e,m⟩
  cases c with
  | zero=>exact (bE m z).elim
  | succ c=>
   unfold lK at m
   refine sq<|pn 1 E z λ a E=>wS<|wif E m z (λ m=>?_) λ m=>?_
   ·refine wK<|aA<|wS<|wB<|sq<|bd m λ p l m=>dB E H (wn z) z z z z z (e _ k) U46 sz2 l λ q9 a H E=>sv2 E z (sK E H z z m0 U2 z) λ a E=>pr 1 E z λ a E=>nt<|aJ (λ a w=>∃ g,Jn 18 a w [(5,j),(6,.int .i64 (b.length:Int)),(7,.int .i64 f),(16,.bool g)] (Fo) rs (qT (lK b c) f g=some r)) ?_ ?_
    ·refine wG<|pr 3 E z λ a E=>cs m (λ d m=>?_) λ d m=>?_
     ·exact pk 3 E (kc 13 z d) z λ a E=>nt<|⟨_,_,E.to z,H,(Y1 e),m⟩
     ·exact pk 3 E (kc 13 z d) z λ a E=>nt<|⟨_,_,E.to z,H,(Y1 e),m⟩
    ·clear E H m
     rintro a w ⟨g,n,E,H,i,m⟩
     unfold qT at m
     refine wif E m z (λ m=>?_) λ m=>?_
     ·refine sq<|pn 1 E z λ a E=>wR<|bD<|aG<|aG<|bD<|aG<|o1 E z<|?_
      cases m
      exact ⟨z,H.reads i⟩
     ·exact wK<|bP<|aA<|wG<|pn 2 E z λ a E=>⟨c,nL c,_,_,E.to z,H,i,m⟩
   ·refine wX<|aT<|aT<|cL<|aA<|sq<|pn 1 E z λ a E=>wR<|o1 E z<|?_
    cases m
    exact ⟨z,H.reads e⟩

def oT(rec_1:Int->Int->Option Bool)(b:cR)(c:Int)(d:Bool):Option Bool:=
  if d=true then (some (false)) else (rec_1 b.Op (IntKind.i64.wrap (c+1)))
def oU(rec_2:Int->Option Bool)(b:Int)(c:Bool):Option Bool:=
  if c=true then (some (false)) else (rec_2 (IntKind.i64.wrap (b+1)))
def kQ(x1:aK)(b:Bool):Option Bool:=
  if b=true then (if (decide ((x1.Gone.length:Int) <= 32))=true then ((sQ x1.Store).bind λ c=>if c=true then (if (decide ((x1.Store.Nodes.length:Int) <= 512))=true then (some (decide ((x1.Store.Turns.length:Int) <= 512))) else (some (false))) else (some (false))) else (some (false))) else (some (false))
def fL(x1:aK)(b:Bool):Option Bool:=
  if b=true then ((yH ([x1.Id,x1.Txn,x1.Age,x1.Epoch,x1.Watch.Session,x1.Watch.Num]:List Int)).bind λ c=>if c=true then ((wJ x1.Prefix).bind λ d=>if d=true then ((wJ x1.Watch.Path).bind λ e=>kQ x1 e) else (kQ x1 false)) else (kQ x1 false)) else (kQ x1 false)
def fM(x1:aK):Nat->Int->Option Bool
  | 0,_=>none
  | d+1,b=>
    if (decide (b < (x1.Gone.length:Int)))=true then ((idx x1.Gone b).bind λ c=>(G8 c x1.Prefix).bind λ e=>if (!e)=true then (oU (fM x1 d) b true) else (if (sEq c x1.Prefix)=true then (oU (fM x1 d) b true) else (if (decide (b > 0))=true then ((idx x1.Gone (IntKind.i64.wrap (b - 1))).bind λ f=>oU (fM x1 d) b (!(sLt f c))) else (oU (fM x1 d) b false)))) else (if (decide (x1.Kind ≥ 1))=true then (if (decide (x1.Kind <= 13))=true then (if (decide (x1.To ≥ 0))=true then (if (decide (x1.To < 4))=true then (fL x1 (decide ((x1.Pieces.length:Int) <= 16))) else (fL x1 false)) else (fL x1 false)) else (fL x1 false)) else (fL x1 false))
def hB(x1:aK):Nat->Int->Int->Option Bool
  | 0,_,_=>none
  | d+1,e,c=>
    if (decide (c < (x1.Pieces.length:Int)))=true then ((idx x1.Pieces c).bind λ b=>if (decide (b.Op < e))=true then (oT (hB x1 d) b c true) else (if (decide (b.Op ≥ 8))=true then (oT (hB x1 d) b c true) else ((K1 b.Part).bind λ f=>if (!f)=true then (oT (hB x1 d) b c true) else (oT (hB x1 d) b c (decide (b.Part.Version ≥ 281474976710656)))))) else (fM x1 (((x1.Gone.length:Int) - 0:Int).toNat+1) 0)
def iV(x1:aK):Option Bool:=
  hB x1 (((x1.Pieces.length:Int) - 0:Int).toNat+1) 0 0
theorem Ox{x1:aK}{I K L J:VL}(H:Sep w (Fo) rs)(S:rSl bR I x1.Pieces ∈ rs)(b1:rSl aB K x1.Store.Nodes ∈ rs)(b2:rSl aC L x1.Store.Turns ∈ rs)(R:rSl kS J x1.Gone ∈ rs){r:Bool}(m:iV x1=some r) :
    Cf 52 [.agg (aM x1 I K L J).toArray] w λ v w'=>.bool r=v/\Sep w' (Fo) (rs):=by
 unfold iV at m
 refine ent func52 z ntmps52 z z λ a E=>sq<|bx E H z λ g w a H E=>pr 1 E z λ a E=>nx<|pn 1 E z λ a E=>wS<|sq<|pr 1 E z λ a E=>lb2 E H 0 U26 z λ a E=>lS E H S U26 z λ a E=>pn 1 E z λ a E=>wB<|bG (λ P a w=>∃ T N,Jn 154 a w [(1,pt g 0),(3,.int .i64 T),(10,I),(11,.int .i64 (x1.Pieces.length:Int)),(12,.int .i64 N)] (Blk g 37 (aM x1 I K L J)::Fo) rs (hB x1 P T N=some r)) (((x1.Pieces.length:Int) - 0:Int).toNat+1) ?_ ?_
 ·exact X3 ⟨E.to z,H,Y0,m⟩
 ·clear E H m
  rintro P a w ⟨T,N,c3,E,H,k,m⟩
  cases P with
  | zero=>exact (bE m z).elim
  | succ P=>
   unfold hB at m
   refine sq<|pn 1 E z λ a E=>wS<|wif E m z (λ m=>?_) λ m=>?_
   ·refine wK<|aA<|wS<|wB<|sq<|bd m λ U b4 m=>dB E H (wn z) z z z z z (k _ S) U26 U8 b4 λ q17 a H E=>ldf z6 E H z z z z z m0 U99 z U8 λ a E=>al2 E H z Yp λ b3 w a H E=>ss 0 E H z U8 z λ w H=>nt<|wS<|aJ (λ a w=>∃ V,Jn 154 a w [(1,pt g 0),(5,pt b3 0),(10,I),(11,.int .i64 (x1.Pieces.length:Int)),(12,.int .i64 N),(36,.bool V)] (Blk g 37 (aM x1 I K L J)::Blk b3 99 (Lb U)::Fo) rs (oT (hB x1 P) U N V=some r)) ?_ ?_
    ·refine wG<|pr 1 E z λ a E=>lb2 E H 0 U3 z λ a E=>pr 3 E z λ a E=>cs m (λ y m=>?_) λ y m=>?_
     ·exact pk 16 E (kc 20 z y) z λ a E=>nt<|have H:=H.frs [0,1] z;⟨_,_,E.to z,H,(Y1 k),m⟩
     ·refine pk 1 E (kc 20 z y) z λ a E=>gl 20 E H 0 y U3 z λ a E=>pk 3 E (kc 20 z y) z λ a E=>cs m (λ l m=>?_) λ l m=>?_
      ·exact pk 11 E (kc 25 z l) z λ a E=>nt<|have H:=H.frs [0,1] z;⟨_,_,E.to z,H,(Y1 k),m⟩
      ·refine pk 1 E (kc 25 z l) z λ a E=>gv 25 E l z (Aq (i:=0) (us:=(bZ U.Part)) E H z z z z U97 z mP) λ a E=>bd m λ c9 b5 m=>gc 25 E l z (cf_ 121) (Ot H b5)<|?_
       rintro _ w ⟨rfl,H⟩ a E
       refine pk 3 E (kc 25 z l) z λ a E=>cs m (λ A m=>?_) λ A m=>?_
       ·exact pk 5 E (kc 31 z A) z λ a E=>nt<|have H:=H.frs [0,1] z;⟨_,_,E.to z,H,(Y1 k),m⟩
       ·exact pk 2 E (kc 31 z A) z λ a E=>gl 31 E H 0 A U2 z λ a E=>pk 2 E (kc 31 z A) z λ a E=>nt<|have H:=H.frs [0,1] z;⟨_,_,E.to z,H,(Y1 k),m⟩
    ·clear E H m
     rintro a w ⟨V,c4,E,H,W,m⟩
     unfold oT at m
     refine wif E m z (λ m=>?_) λ m=>?_
     ·refine sq<|pn 1 E z λ a E=>wR<|aG<|bD<|aG<|aG<|bD<|aG<|o1 E z<|have H:=H.drs [0,0];?_
      cases m
      exact ⟨z,H.reads W⟩
     ·exact wK<|aA<|wG<|pr 1 E z λ a E=>lb2 E H 1 U3 z λ a E=>pr 1 E z λ a E=>wN<|bP<|aA<|wG<|pn 2 E z λ a E=>have H:=H.drop 1;⟨P,nL P,X3 ⟨E.to z,H,W,m⟩⟩
   ·refine wX<|aT<|aT<|cL<|aA<|wS<|sp 1 E z λ a E=>lb2 E H 0 U33 z λ a E=>lS E H (k _ R) U33 z λ a E=>pn 1 E z λ a E=>wB<|bG (λ Q a w=>∃ O,Jn 154 a w [(1,pt g 0),(41,J),(42,.int .i64 (x1.Gone.length:Int)),(43,.int .i64 O)] (Blk g 37 (aM x1 I K L J)::Fo) rs (fM x1 Q O=some r)) (((x1.Gone.length:Int) - 0:Int).toNat+1) ?_ ?_
    ·exact ⟨_,_,E.to z,H,k,m⟩
    ·clear E H m
     rintro Q a w ⟨O,c5,E,H,c,m⟩
     cases Q with
     | zero=>exact (bE m z).elim
     | succ Q=>
      unfold fM at m
      refine sq<|pn 1 E z λ a E=>wS<|wif E m z (λ m=>?_) λ m=>?_
      ·refine wK<|aA<|wS<|wB<|sp 1 E z λ a E=>bd m λ d0 b6 m=>dB E H (wn z) z z z z z (c _ R) U33 sz9 b6 λ q32 a H E=>sv2 E z (sK E H z z m0 U9 z) λ a E=>pn 2 E z λ a E=>aJ (λ a w=>∃ X,Jn 154 a w [(1,pt g 0),(41,J),(42,.int .i64 (x1.Gone.length:Int)),(43,.int .i64 O),(72,.bool X)] (Blk g 37 (aM x1 I K L J)::Fo) rs (oU (fM x1 Q) O X=some r)) ?_ ?_
       ·refine wG<|pr 2 E z λ a E=>lb2 E H 0 U9 z λ a E=>bd m λ d1 b7 m=>xk2 E z (cf_ 65) (Ib H b7) λ w H a E=>pr 2 E z λ a E=>cs m (λ B m=>?_) λ B m=>?_
        ·exact pk 19 E (kc 53 z B) z λ a E=>nt<|⟨_,_,E.to z,H,(Y1 c),m⟩
        ·refine pk 2 E (kc 53 z B) z λ a E=>gl 53 E H 0 B U9 z λ a E=>pk 3 E (kc 53 z B) z λ a E=>cs m (λ C m=>?_) λ C m=>?_
         ·exact pk 13 E (kc 59 z C) z λ a E=>nt<|⟨_,_,E.to z,H,(Y1 c),m⟩
         ·refine pk 3 E (kc 59 z C) z λ a E=>cs m (λ j m=>?_) λ j m=>?_
          ·exact pk 1 E (kc 62 z j) z λ a E=>gl 62 E H 0 j U33 z λ a E=>pk 2 E (kc 62 z j) z λ a E=>bd m λ d2 b8 m=>dB E H (ws' (d:=62) E z z z z j) z z z z z (t1 (c _ R)) U33 sz9 b8 λ q43 a H E=>gv 62 E j z (sK E H z z m0 U9 z) λ a E=>pk 4 E (kc' (kc 62 z j) 59 z C) z λ a E=>nt<|⟨_,_,E.to z,H,(Y2 c),m⟩
          ·exact pk 10 E (kc' (kc 62 z j) 59 z C) z λ a E=>nt<|⟨_,_,E.to z,H,(Y1 c),m⟩
       ·clear E H m
        rintro a w ⟨X,c6,E,H,Y,m⟩
        unfold oU at m
        refine wif E m z (λ m=>?_) λ m=>?_
        ·refine sq<|pn 1 E z λ a E=>wR<|bD<|aG<|aG<|bD<|aG<|o1 E z<|have H:=H.drop 0;?_
         cases m
         exact ⟨z,H.reads Y⟩
        ·exact wK<|bP<|aA<|wG<|pn 2 E z λ a E=>⟨Q,nL Q,_,_,E.to z,H,Y,m⟩
      ·refine wX<|aT<|aT<|cL<|aA<|aJ (λ a w=>∃ Z,Jn 154 a w [(1,pt g 0),(8,.bool Z)] (Blk g 37 (aM x1 I K L J)::Fo) rs (fL x1 Z=some r)) ?_ ?_
       ·refine wG<|pr 1 E z λ a E=>lb2 E H 0 U3 z λ a E=>pr 2 E z λ a E=>cs m (λ D m=>?_) λ D m=>?_
        ·refine pk 1 E (kc 77 z D) z λ a E=>gl 77 E H 0 D U3 z λ a E=>pk 3 E (kc 77 z D) z λ a E=>cs m (λ F m=>?_) λ F m=>?_
         ·refine pk 1 E (kc 82 z F) z λ a E=>gl 82 E H 0 F U3 z λ a E=>pk 3 E (kc 82 z F) z λ a E=>cs m (λ G m=>?_) λ G m=>?_
          ·refine pk 1 E (kc 87 z G) z λ a E=>gl 87 E H 0 G U3 z λ a E=>pk 3 E (kc 87 z G) z λ a E=>cs m (λ n m=>?_) λ n m=>?_
           ·exact pk 1 E (kc 92 z n) z λ a E=>gl 92 E H 0 n U26 z λ a E=>gv 92 E n z (zC E H z z (c _ S) U26) λ a E=>pk 3 E (kc 92 z n) z λ a E=>nt<|⟨_,_,E.to z,H,c,m⟩
           ·exact pk 6 E (kc 92 z n) z λ a E=>nt<|⟨_,_,E.to z,H,c,m⟩
          ·exact pk 11 E (kc 87 z G) z λ a E=>nt<|⟨_,_,E.to z,H,c,m⟩
         ·exact pk 16 E (kc 82 z F) z λ a E=>nt<|⟨_,_,E.to z,H,c,m⟩
        ·exact pk 21 E (kc 77 z D) z λ a E=>nt<|⟨_,_,E.to z,H,c,m⟩
       ·clear E H m
        rintro a w ⟨Z,c7,E,H,M,m⟩
        unfold fL at m
        refine aJ (λ a w=>∃ b0,Jn 154 a w [(1,pt g 0),(8,.bool b0)] (Blk g 37 (aM x1 I K L J)::Fo) rs (kQ x1 b0=some r)) ?_ ?_
        ·refine wG<|pr 2 E z λ a E=>cs m (λ b m=>?_) λ b m=>?_
         ·refine pk 1 E (kc 99 z b) z λ a E=>gl 99 E H 0 b U2 z λ a E=>pk 1 E (kc 99 z b) z λ a E=>gl 99 E H 0 b U2 z λ a E=>pk 1 E (kc 99 z b) z λ a E=>gl 99 E H 0 b U2 z λ a E=>pk 1 E (kc 99 z b) z λ a E=>gl 99 E H 0 b U2 z λ a E=>pk 2 E (kc 99 z b) z λ a E=>gl 99 E H 0 b U2 z λ a E=>pk 2 E (kc 99 z b) z λ a E=>gl 99 E H 0 b U2 z λ a E=>kG (e:=2) (d:=(kI .i64)) (cs:=[.int .i64 x1.Id,.int .i64 x1.Txn,.int .i64 x1.Age,.int .i64 x1.Epoch,.int .i64 x1.Watch.Session,.int .i64 x1.Watch.Num]) (xs:=[x1.Id,x1.Txn,x1.Age,x1.Epoch,x1.Watch.Session,x1.Watch.Num]) E H (ws' (d:=99) E z z z z b) z z z (E.evs z) (by kernel_rfl) z z (λ ok hr=>(Rows.append (Rows.append (Rows.append (Rows.append (Rows.append (Rows.single (d:=(kI .i64)) (cs:=[.int .i64 x1.Id]) (x:=x1.Id) z) (Rows.single (d:=(kI .i64)) (cs:=[.int .i64 x1.Txn]) (x:=x1.Txn) z)) (Rows.single (d:=(kI .i64)) (cs:=[.int .i64 x1.Age]) (x:=x1.Age) z)) (Rows.single (d:=(kI .i64)) (cs:=[.int .i64 x1.Epoch]) (x:=x1.Epoch) z)) (Rows.single (d:=(kI .i64)) (cs:=[.int .i64 x1.Watch.Session]) (x:=x1.Watch.Session) z)) (Rows.single (d:=(kI .i64)) (cs:=[.int .i64 x1.Watch.Num]) (x:=x1.Watch.Num) z))) λ d3 w a H E=>have H:=H.thaw (i:=0) z;bd m λ d4 b9 m=>gc 99 E b z (cf_ 122) (Mp H m0 b9)<|?_
          rintro _ w ⟨rfl,H⟩ a E
          refine pk 2 E (kc 99 z b) z λ a E=>cs m (λ o m=>?_) λ o m=>?_
          ·refine pk 1 E (kc 117 z o) z λ a E=>gl 117 E H 0 o U9 z λ a E=>bd m λ d5 c0 m=>gc 117 E o z (cf_ 123) (Bx H c0)<|?_
           rintro _ w ⟨rfl,H⟩ a E
           refine pk 2 E (kc 117 z o) z λ a E=>cs m (λ p m=>?_) λ p m=>?_
           ·refine pk 2 E (kc 122 z p) z λ a E=>gl 122 E H 0 p U9 z λ a E=>bd m λ d6 c1 m=>gc 122 E p z (cf_ 123) (Bx H c1)<|?_
            rintro _ w ⟨rfl,H⟩ a E
            exact pk 2 E (kc 122 z p) z λ a E=>nt<|⟨_,_,E.to z,H,(Y1 M),m⟩
           ·exact pk 6 E (kc 122 z p) z λ a E=>nt<|⟨_,_,E.to z,H,(Y1 M),m⟩
          ·exact pk 11 E (kc 117 z o) z λ a E=>nt<|⟨_,_,E.to z,H,(Y1 M),m⟩
         ·exact pk 29 E (kc 99 z b) z λ a E=>nt<|⟨_,_,E.to z,H,M,m⟩
        ·clear E H m
         rintro a w ⟨b0,c8,E,H,f,m⟩
         unfold kQ at m
         refine sp 2 E z λ a E=>cs m (λ q m=>?_) λ q m=>?_
         ·refine pk 1 E (kc 129 z q) z λ a E=>gl 129 E H 0 q U33 z λ a E=>gv 129 E q z (zC E H z z (f _ R) U33) λ a E=>pk 3 E (kc 129 z q) z λ a E=>cs m (λ s m=>?_) λ s m=>?_
          ·refine pk 1 E (kc 135 z s) z λ a E=>gv 135 E s z (Aq (i:=0) (us:=[K,L]) E H z z z z U25 z dN) λ a E=>bd m λ d7 c2 m=>gc 135 E s z (cf_ 37) (Q8 H (f _ b1) (f _ b2) c2)<|?_
           rintro _ w ⟨rfl,H⟩ a E
           refine pk 2 E (kc 135 z s) z λ a E=>cs m (λ t m=>?_) λ t m=>?_
           ·refine pk 2 E (kc 140 z t) z λ a E=>gl 140 E H 0 t U22 z λ a E=>gv 140 E t z (zC E H z z (f _ b1) U22) λ a E=>pk 3 E (kc 140 z t) z λ a E=>cs m (λ u m=>?_) λ u m=>?_
            ·refine pk 2 E (kc 147 z u) z λ a E=>gl 147 E H 0 u U23 z λ a E=>gv 147 E u z (zC E H z z (f _ b2) U23) λ a E=>pk 3 E (kc 147 z u) z λ a E=>nt<|wR<|o1 E z<|have H:=H.drop 0;?_
             cases m
             exact ⟨z,H.reads f⟩
            ·refine pk 7 E (kc 147 z u) z λ a E=>nt<|wR<|o1 E z<|have H:=H.drop 0;?_
             cases m
             exact ⟨z,H.reads f⟩
           ·refine pk 14 E (kc 140 z t) z λ a E=>nt<|wR<|o1 E z<|have H:=H.drop 0;?_
            cases m
            exact ⟨z,H.reads f⟩
          ·refine pk 19 E (kc 135 z s) z λ a E=>nt<|wR<|o1 E z<|have H:=H.drop 0;?_
           cases m
           exact ⟨z,H.reads f⟩
         ·refine pk 25 E (kc 129 z q) z λ a E=>nt<|wR<|o1 E z<|have H:=H.drop 0;?_
          cases m
          exact ⟨z,H.reads f⟩

def dJ(x1:Int):Option aX:=
  some ((⟨x1,0,false,0,[],(⟨[],[]⟩:aR),[],[],[]⟩:aX))
theorem fB{x1:Int}(H:Sep w (Fo) rs){r:aX}(m:dJ x1=some r) :
    Cf 53 [.int .i64 x1] w λ v w'=>∃ b c d e f g,.agg (aW r b c d e f g).toArray=v/\Sep w' (Fo) (rSl aZ b r.Results::rSl aB c r.Store.Nodes::rSl aC d r.Store.Turns::rSl aS e r.Events::rSl bI f r.Mounts::rSl (kI .i64) g r.Wounded::rs):=by
 unfold dJ at m
 refine ent func53 z ntmps53 z z λ a E=>sq<|al2 E H z lQ λ i w a H E=>xp 1 E z λ a E=>sv2 E z (cH E z (E.evs z) (v:=.agg #[.int .i64 x1,.int .i64 0,.bool false,.int .i64 0,nS,nS,nS,nS,nS,nS]) (by kernel_rfl)) λ a E=>ss 0 E H z bV z λ w H=>nt<|wR<|oB 0 [.int .i64 x1,.int .i64 0,.bool false,.int .i64 0,nS,nS,nS,nS,nS,nS] E H U48 z bV<|have H:=H.nilSl aZ;have H:=H.nilSl aB;have H:=H.nilSl aC;have H:=H.nilSl aS;have H:=H.nilSl bI;have H:=H.nilSl (kI .i64);have H:=H.drop 0;?_
 cases m
 exact X6 ⟨z,H.rdx [5,4,3,2,1,0] z (λ r hr=>(t6 hr))⟩

def pX(x20:aK)(b:pK):Option Yv:=
  (Sg (kyI .i64) b x20.Txn vL).bind λ c=>some (c,b)
def tQ(x20:aK)(b:List lL)(c:Bool):Option Yv:=
  if (!c)=true then (if ((b.length:Int) == 128)=true then ((dJ 2).bind λ d=>some (d,b)) else ((mpt (kyI .i64) b x20.Txn (⟨0,0,x20.Yes,x20.Epoch,[],(⟨[],[]⟩:aR),[],[],[]⟩:aX)).bind λ e=>pX x20 e)) else (pX x20 b)
def sT(b:List lL)(x20:aK):Option Yv:=
  (L3 (kyI .i64) b x20.Txn vL).bind λ c=>tQ x20 b c.2
theorem Ew{d b:Nat}{x:List lL}{x20:aK}{p q s t e f g j k l n o:VL}(H:Sep w (Blk d 87 [e,f,g,j,k,l,n,o,.map (some b)]::bX Tryz.prog 2 (kyI .i64) bC true b x::Fo) rs){r:aX×pK}(m:sT x x20=some r) :
    Cf 45 [pt d 0,.agg (aM x20 p q s t).toArray] w λ v w'=>∃ J L M N O P,.agg (aW r.1 J L M N O P).toArray=v/\Sep w' (Blk d 87 [e,f,g,j,k,l,n,o,.map (some b)]::bX Tryz.prog 2 (kyI .i64) bC true b r.2::Fo) (rSl aZ J r.1.Results::rSl aB L r.1.Store.Nodes::rSl aC M r.1.Store.Turns::rSl aS N r.1.Events::rSl bI O r.1.Mounts::rSl (kI .i64) P r.1.Wounded::rs):=by
 unfold sT at m
 refine ent func45 z ntmps45 z z λ a E=>sq<|bx E H z λ c w a H E=>al2 E H z lQ λ y w a H E=>nt<|aJ (λ a w=>∃ A,Jn 44 a w [(0,pt d 0),(3,pt c 0),(4,pt y 0)] (Blk d 87 [e,f,g,j,k,l,n,o,.map (some b)]::Blk c 37 (aM x20 p q s t)::Blk y 48 bJ::bX Tryz.prog 2 (kyI .i64) bC true b A::Fo) rs (pX x20 A=some r)) ?_ ?_
 ·refine aJ (λ a w=>∃ B,Jn 44 a w [(0,pt d 0),(3,pt c 0),(4,pt y 0),(6,.bool B)] (Blk d 87 [e,f,g,j,k,l,n,o,.map (some b)]::Blk c 37 (aM x20 p q s t)::Blk y 48 bJ::bX Tryz.prog 2 (kyI .i64) bC true b x::Fo) rs (tQ x20 x B=some r)) ?_ ?_
  ·refine bd m λ c4 C m=>?_
   have hI:dI [Blk c 37 (aM x20 p q s t),Blk d 87 [e,f,g,j,k,l,n,o,.map (some b)]] [] { w with drawn:=w.drawn+1 }:=⟨_,_,H.kept (Kp.drawn _ w _),(aU mm1 (aU mm2 (bH))),(bO)⟩
   refine oN _ (.go 0 0 (.go 1 0 (.go 2 0 (.go 3 0 (.go 4 0 (.go 5 0 (.alt 6 (.go 7 0 (.go 8 0 (.go 9 0 (.go 10 1 (.go 11 1 (.go 12 2 .nil)))))) 10 (.go 6 1 (.go 7 0 (.go 8 0 (.go 9 0 (.go 11 1 (.go 12 2 .nil))))))))))))) [12] pI (by kernel_rfl) (λ _ _ _ h=>False.elim h.2) hI<|have H:=H.kept (Kp.drawn _ w (w.drawn+1));?_
   generalize ({ w with drawn:=w.drawn+1 }:WD)=w at H hI ⊢
   replace hI:∃ W,dI [Blk c 37 (aM x20 p q s t),Blk d 87 [e,f,g,j,k,l,n,o,.map (some b)]] [] W:=⟨_,hI⟩
   obtain ⟨W0,hI⟩:=hI
   refine om E z λ a E=>ov E z (λ w hW=>(zB E z z)) λ a E=>ov E z (λ w hW=>mM E z z (v:=pt d 8) (AZ _ _)) λ a E=>ol E mm1 U84 z λ a E=>ov E z (λ w hW=>mM E z z (v:=pt c 2) (Od _ _)) λ a E=>ol E m0 U2 z λ a E=>oO z z ?_ ?_
   ·refine sL (i:=3) (K:=(kyI .i64)) E H (wn z) z z z z z z (gA U2) U84 Q3 Az C λ c5 a H E=>?_
    obtain ⟨c6,c7,c8,c9,d0,d1,rfl,h⟩:=oP H;clear H;have H:=h
    refine nt<|⟨sx H [1,2] z,om E z λ a E=>ox E z λ a E=>ox E z λ a E=>cF z<|al2 E H z lQ λ d2 w a H E=>nt<|⟨sx H [2,3] z,cF z<|ss 0 E H z bV (bA H mm5 mm4 mm3 mm2 mm1 m0) λ w H=>nt<|⟨sx H [2,3] z,cV z<|pn 1 E z λ a E=>fA<|?_⟩⟩⟩
    clear hI
    exact aA<|have H:=H.drop 0;have H:=H.frs [3,1,2,3] z;⟨_,_,E.to z,H,(Y7 Y0),m⟩
   ·refine al2 E H z lQ λ d3 w a H E=>nt<|⟨sx H [2,3] z,cF z<|sL (i:=4) (K:=(kyI .i64)) E H (wn z) z z z z z z (gA U2) U84 Q3 Az C λ b5 a H E=>?_⟩
    obtain ⟨b6,b7,b8,b9,c0,c1,rfl,h⟩:=oP H;clear H;have H:=h
    refine nt<|⟨sx H [2,3] z,om E z λ a E=>ox E z λ a E=>ox E z λ a E=>cF z<|ss 0 E H z bV (bA H mm5 mm4 mm3 mm2 mm1 m0) λ w H=>nt<|⟨sx H [2,3] z,cV z<|pn 1 E z λ a E=>fA<|?_⟩⟩
    clear hI
    exact aA<|have H:=H.drop 0;have H:=H.frs [3,1,2,3] z;⟨_,_,E.to z,H,(Y7 Y0),m⟩
  ·clear E H m
   rintro a w ⟨B,c2,E,H,u,m⟩
   unfold tQ at m
   refine sq<|pn 2 E z λ a E=>wif E m z (λ m=>?_) λ m=>?_
   ·refine wS<|sp 3 E z λ a E=>lb2 E H 0 U84 z λ a E=>sv2 E z (X2 (i:=3) E H z z z U84) λ a E=>pn 1 E z λ a E=>wif E m z (λ m=>?_) λ m=>?_
    ·refine sq<|bd m λ Q D m=>xc2 E z (cf_ 53) (fB H D)<|?_
     rintro _ w ⟨R,S,T,U,V,X,rfl,H⟩ a E
     refine ss 2 E H z bV (bA H m0 mm1 mm2 mm3 mm4 mm5) λ w H=>nt<|wR<|aG<|aG<|oB 2 (aW Q R S T U V X) E H U48 z bV<|have H:=H.drs [1,1];?_
     cases m
     exact X6 ⟨z,H.rdx [0,1,2,3,4,5] z (λ r hr=>(t6 (u r hr)))⟩
    ·refine wK<|aA<|dz [0,0,0,0,0,0,0,0,0,0,0,2] [0,1] H λ w W0 hI H=>fn 3 E z λ a E=>fb2 E m0 U84 z λ a E=>fn 1 E z λ a E=>fb2 E mm1 U2 z λ a E=>fn 1 E z λ a E=>fb2 E mm1 U4 z λ a E=>fn 1 E z λ a E=>fb2 E mm1 U2 z λ a E=>fv E z (λ w hW=>(cH E z (E.evs z) (v:=.agg #[.int .i64 0,.int .i64 0,.bool x20.Yes,.int .i64 x20.Epoch,nS,nS,nS,nS,nS,nS]) (by kernel_rfl))) λ a E=>bL z<|bd m λ d4 F m=>T8 (i:=3) (K:=(kyI .i64)) (v:=(⟨0,0,x20.Yes,x20.Epoch,[],(⟨[],[]⟩:aR),[],[],[]⟩:aX)) (cs:=[.int .i64 0,.int .i64 0,.bool x20.Yes,.int .i64 x20.Epoch,nS,nS,nS,nS,nS,nS]) E H (wn z) z z z z z z (gA U2) U84 F (λ ok hr=>(sO (Sl.nil _ _ _) (Sl.nil _ _ _) (Sl.nil _ _ _) (Sl.nil _ _ _) (Sl.nil _ _ _) (Sl.nil _ _ _))) λ w H=>nt<|bB<|?_
     clear hI
     exact aA<|⟨_,_,E.to z,H,u,m⟩
   ·exact wK<|aA<|⟨_,_,E.to z,H,u,m⟩
 ·clear E H m
  rintro a w ⟨A,c3,E,H,G,m⟩
  unfold pX at m
  refine wS<|dz [0,0,0,0,0,0,1,2] [0,1] H λ w W0 hI H=>fn 3 E z λ a E=>fb2 E m0 U84 z λ a E=>fn 1 E z λ a E=>fb2 E mm1 U2 z λ a E=>bQ z<|bd m λ Y I m=>AO (i:=3) (K:=(kyI .i64)) E H (wn z) z z z z z z (gA U2) U84 Q3 Az I λ d5 a H E=>?_
  obtain ⟨Z,b0,b1,b2,b3,b4,rfl,h⟩:=oP H;clear H;have H:=h
  refine nt<|⟨sx H [0,1] z,bL z<|ss 2 E H z bV (bA H mm5 mm4 mm3 mm2 mm1 m0) λ w H=>nt<|bB<|?_⟩
  clear hI
  refine aA<|wR<|oB 2 (aW Y Z b0 b1 b2 b3 b4) E H U48 z bV<|have H:=H.drs [1,1];?_
  cases m
  exact X6 ⟨z,H.rdx [5,4,3,2,1,0] z (λ r hr=>(t7 (G r hr)))⟩

def yX(e:BY)(b:List aF)(f:BY):Option Bool:=
  (mR b e).bind λ c=>if (decide (c ≥ 0))=true then ((idx b c).bind λ d=>some (sEq d.Prefix f)) else (some (false))
theorem Fz{p e:BY}{f g:Nat}{i:VL}{q:List aF}(H:Sep w (Blk f 32 [i]::Blk g 9 [.string e]::Fo) rs)(c:rSl aN i q ∈ rs){r:Bool}(m:yX p q e=some r) :
    Cf 177 [.string p,pt f 0,pt g 0] w λ v w'=>.bool r=v/\Sep w' (Blk f 32 [i]::Blk g 9 [.string e]::Fo) (rs):=by
 unfold yX at m
 refine ent func177 z ntmps177 z z λ a E=>sp 1 E z λ a E=>nx<|lb2 E H 0 U32 z λ a E=>pr 1 E z λ a E=>bd m λ y s m=>xk2 E z (cf_ 24) (A2 H c s) λ w H a E=>pr 1 E z λ a E=>nt<|wS<|?_
 obtain ⟨t,H⟩:=H.raw c
 refine dw [(0,0),(1,0),(2,0),(3,0),(4,0),(5,0),(6,0),(7,0),(8,0),(9,0),(10,0),(11,2)] [0,1] [0] H (by kernel_rfl) (λ _ _ _ h=>False.elim h.2) λ w W0 hI H=>fn 3 E z λ a E=>cs m (λ b m=>?_) λ b m=>?_
 ·refine fb E z (ws' (d:=11) E z z z z b) z z z z m0 z U32 z λ a E=>fk 1 E (kc 11 z b) z λ a E=>bd m λ u j m=>?_
  obtain ⟨q14,x,l,n⟩:=fW (P:=Tryz.prog) (k:=.i64) hI (fV (.head _)) U32 iY j
  refine cU E z (ws' (d:=11) E z z z z b) z z (λ w hW=>iD E z z z (l w)) λ a E=>?_
  have o:=gY n (λ _ _ _ h=>sN h)
  refine fk 1 E (kc 11 z b) z λ a E=>fa E z (ws' (d:=11) E z z z z b) z z z z o U9 z λ a E=>fb E z (ws' (d:=11) E z z z z b) z z z z mm1 z U9 z λ a E=>fk 2 E (kc 11 z b) z λ a E=>bL z<|pn 1 E z λ a E=>bB<|?_
  clear hI
  refine aA<|wR<|o1 E z<|?_
  cases m
  exact ⟨z,H.reads (Y1 Y0)⟩
 ·refine fk 8 E (kc 11 z b) z λ a E=>bL z<|pn 1 E z λ a E=>bB<|?_
  clear hI
  refine aA<|wR<|o1 E z<|?_
  cases m
  exact ⟨z,H.reads (Y1 Y0)⟩

def yI(d:List aF)(e:BY)(b:BY):Option Bool:=
  (yX b d e).bind λ c=>some (c)
def C2(x1:aH)(c:List aF)(d:BY):Option Bool:=
  (tK x1.Path).bind λ b=>if (!b.2)=true then (yI c d (ByteArray.mk #[47])) else (yI c d b.1)
theorem Rz{x1:aH}{d b c:Nat}{i:VL}{j:List aF}{e:BY}(H:Sep w (Blk d 122 [.func (.func 177) #[] #[pt b 0,pt c 0]]::Blk b 32 [i]::Blk c 9 [.string e]::Fo) rs)(n:rSl aN i j ∈ rs){r:Bool}(m:C2 x1 j e=some r) :
    Cf 179 [.agg (mN x1).toArray,pt d 0] w λ v w'=>.bool r=v/\Sep w' (Blk d 122 [.func (.func 177) #[] #[pt b 0,pt c 0]]::Blk b 32 [i]::Blk c 9 [.string e]::Fo) (rs):=by
 unfold C2 at m
 refine ent func179 z ntmps179 z z λ a E=>sq<|bx E H z λ s w a H E=>pr 1 E z λ a E=>xp 1 E z λ a E=>lb2 E H 0 U9 z λ a E=>bd m λ p k m=>xk2 E z (cf_ 180) (M4 H k) λ w H a E=>pn 5 E z λ a E=>aJ (λ a w=>∃ f,Jn 17 a w [(1,pt d 0),(4,.string f)] (Blk d 122 [.func (.func 177) #[] #[pt b 0,pt c 0]]::Blk b 32 [i]::Blk c 9 [.string e]::Fo) rs (yI j e f=some r)) ?_ ?_
 ·refine sq<|pn 2 E z λ a E=>wif E m z (λ m=>?_) λ m=>?_
  ·exact wG<|pn 1 E z λ a E=>have H:=H.drop 0;⟨_,_,E.to z,H,Y0,m⟩
  ·exact wK<|aA<|have H:=H.drop 0;⟨_,_,E.to z,H,Y0,m⟩
 ·clear E H m
  rintro a w ⟨f,o,E,H,g,m⟩
  unfold yI at m
  refine sq<|lb2 E H 0 MB z λ a E=>pr 1 E z λ a E=>have H:=H.frs [0,2,2] z;bd m λ q l m=>bK E (wn z) z z (bN E z z z ((cf_ 177) _)) (Fz H (g _ n) l)<|?_
  rintro _ w ⟨rfl,H⟩ a E
  refine pn 1 E z λ a E=>wR<|o1 E z<|have H:=H.frs [1,1,2] z;?_
  cases m
  exact ⟨z,H.reads g⟩

def mX(rec_1:eI->eI->Int->Option Su)(b:Int)(c:eI)(d:eI):Option Su:=
  rec_1 c d (IntKind.i64.wrap (b+1))
def fG(f:List aH)(g:List aF)(i:BY):Nat->eI->eI->Int->Option Su
  | 0,_,_,_=>none
  | j+1,c,d,e=>
    if (decide (e < (f.length:Int)))=true then ((idx f e).bind λ b=>(C2 b g i).bind λ k=>if k=true then ((ck (c.length+([b]:List aH).length <= LIM)).bind λ l=>mX (fG f g i j) e (c ++ ([b]:List aH)) d) else ((ck (d.length+([b]:List aH).length <= LIM)).bind λ m=>mX (fG f g i j) e c (d ++ ([b]:List aH)))) else (some (c,d))
def pY(b:List aH)(c:List aF)(d:BY):Option Su:=
  fG b c d (((b.length:Int) - 0:Int).toNat+1) [] [] 0
theorem Bh{D p:VL}{k:List aH}{l f g:Nat}{F:List aF}{n:BY}(H:Sep w (Blk l 122 [.func (.func 177) #[] #[pt f 0,pt g 0]]::Blk f 32 [p]::Blk g 9 [.string n]::Fo) rs)(G:rSl aB D k ∈ rs)(I:rSl aN p F ∈ rs){r:eI×eI}(m:pY k F n=some r) :
    Cf 178 [D,.func (.func 179) #[] #[pt l 0]] w λ v w'=>∃ O P,.tuple #[O,P]=v/\Sep w' (Row 107 aB O r.1::Row 107 aB P r.2::Blk l 122 [.func (.func 177) #[] #[pt f 0,pt g 0]]::Blk f 32 [p]::Blk g 9 [.string n]::Fo) (rs):=by
 unfold pY at m
 refine ent func178 z ntmps178 z z λ a E=>sp 2 E z λ a E=>nx<|pn 2 E z λ a E=>wS<|sp 1 E z λ a E=>lS E H G U22 z λ a E=>pn 1 E z λ a E=>wB<|bG (λ o a w=>∃ q s t u j,Jn 30 a w [(1,.func (.func 179) #[] #[pt l 0]),(6,q),(7,s),(10,D),(11,.int .i64 (k.length:Int)),(12,.int .i64 j)] (Blk l 122 [.func (.func 177) #[] #[pt f 0,pt g 0]]::Row 107 aB q t::Row 107 aB s u::Blk f 32 [p]::Blk g 9 [.string n]::Fo) rs (fG k F n o t u j=some r)) (((k.length:Int) - 0:Int).toNat+1) ?_ ?_
 ·exact have H:=H.nilRow 107 aB;have H:=H.nilRow 107 aB;have H:=H.frs [4,4,2,3,4] z;X6 ⟨E.to z,H,Y0,m⟩
 ·clear E H m
  rintro o a w ⟨q,s,t,u,j,Q,E,H,c,m⟩
  cases o with
  | zero=>exact (bE m z).elim
  | succ o=>
   unfold fG at m
   refine sq<|pn 1 E z λ a E=>wS<|wif E m z (λ m=>?_) λ m=>?_
   ·refine wK<|aA<|aJ (λ a w=>∃ y A B C,Jn 30 a w [(1,.func (.func 179) #[] #[pt l 0]),(6,y),(7,A),(10,D),(11,.int .i64 (k.length:Int)),(12,.int .i64 j)] (Blk l 122 [.func (.func 177) #[] #[pt f 0,pt g 0]]::Row 107 aB y B::Row 107 aB A C::Blk f 32 [p]::Blk g 9 [.string n]::Fo) rs (mX (fG k F n o) j B C=some r)) ?_ ?_
    ·refine wB<|sq<|bd m λ b J m=>dB E H (wn z) z z z z z (c _ G) U22 hP J λ q26 a H E=>ldf cN E H z z z z z m0 D5 z hP λ a E=>al2 E H z Yt λ S w a H E=>ss 0 E H z hP z λ w H=>xp 1 E z λ a E=>ln 0 (mN b) E H D5 z hP λ a E=>have H:=H.frs [3,3,2,5,5,5] z;bd m λ T K m=>bK E (wn z) z z (bN E z z z ((cf_ 179) _)) (Rz H (t1 (c _ I)) K)<|?_
     rintro _ w ⟨rfl,H⟩ a E
     refine nt<|wif E m z (λ m=>?_) λ m=>?_
     ·exact wG<|pr 1 E z λ a E=>ln 3 (mN b) E H D5 z hP λ a E=>xA (e:=107) (d:=aB) (cs:=[.string b.Path,.string b.Data,.int .i64 b.Version,.int .i64 b.Turn,.int .i64 b.Owner]) (xs:=[b]) E H (wn z) z z z (E.evs z) (by kernel_rfl) z (λ ok hr=>(Rows.single (d:=aB) (cs:=[.string b.Path,.string b.Data,.int .i64 b.Version,.int .i64 b.Turn,.int .i64 b.Owner]) (x:=b) B2)) λ U w a H E=>bk m λ L m=>fE (i:=4) E H (wn z) z z z z z z (nU m0) U22 Oh z L z λ V w a H E=>pr 1 E z λ a E=>wN<|bP<|aA<|have H:=H.drop 3;have H:=H.frs [2,2,4,4,4] z;X5 ⟨E.to z,H,(Y2 c),m⟩
     ·exact wG<|pr 1 E z λ a E=>ln 3 (mN b) E H D5 z hP λ a E=>xA (e:=107) (d:=aB) (cs:=[.string b.Path,.string b.Data,.int .i64 b.Version,.int .i64 b.Turn,.int .i64 b.Owner]) (xs:=[b]) E H (wn z) z z z (E.evs z) (by kernel_rfl) z (λ ok hr=>(Rows.single (d:=aB) (cs:=[.string b.Path,.string b.Data,.int .i64 b.Version,.int .i64 b.Turn,.int .i64 b.Owner]) (x:=b) B2)) λ W w a H E=>bk m λ M m=>fE (i:=5) E H (wn z) z z z z z z (nU m0) U22 Oh z M z λ X w a H E=>pr 1 E z λ a E=>wN<|bP<|aA<|have H:=H.drop 3;have H:=H.frs [2,2,4,4,4] z;X5 ⟨E.to z,H,(Y2 c),m⟩
    ·clear E H m
     rintro a w ⟨y,A,B,C,R,E,H,N,m⟩
     unfold mX at m
     exact wG<|pn 2 E z λ a E=>⟨o,nL o,X6 ⟨E.to z,H,N,m⟩⟩
   ·refine wX<|aT<|aT<|cL<|aA<|sq<|pn 4 E z λ a E=>wR<|iH E z z z<|have H:=H.frs [4,4,2,4,4] z;?_
    cases m
    exact ⟨_,_,z,H.reads c⟩

def C3(x1:aL)(c:List aF)(d:BY):Option Bool:=
  (yX x1.Dir c d).bind λ b=>some (b)
theorem Sa{x1:aL}{d b c:Nat}{e:VL}{i:List aF}{f:BY}(H:Sep w (Blk d 122 [.func (.func 177) #[] #[pt b 0,pt c 0]]::Blk b 32 [e]::Blk c 9 [.string f]::Fo) rs)(j:rSl aN e i ∈ rs){r:Bool}(m:C3 x1 i f=some r) :
    Cf 182 [.agg #[.string x1.Dir,.int .i64 x1.Next],pt d 0] w λ v w'=>.bool r=v/\Sep w' (Blk d 122 [.func (.func 177) #[] #[pt b 0,pt c 0]]::Blk b 32 [e]::Blk c 9 [.string f]::Fo) (rs):=by
 unfold C3 at m
 refine ent func182 z ntmps182 z z λ a E=>sq<|bx E H z λ l w a H E=>pr 1 E z λ a E=>nx<|lb2 E H 1 MB z λ a E=>pr 1 E z λ a E=>lb2 E H 0 U9 z λ a E=>have H:=H.frs [1,1,3,3] z;bd m λ k g m=>bK E (wn z) z z (bN E z z z ((cf_ 177) _)) (Fz H j g)<|?_
 rintro _ w ⟨rfl,H⟩ a E
 refine pn 1 E z λ a E=>wR<|o1 E z<|have H:=H.drop 2;have H:=H.frs [1,1,2] z;?_
 cases m
 exact ⟨z,H.reads Y0⟩

def mY(rec_1:dU->dU->Int->Option St)(b:Int)(c:dU)(d:dU):Option St:=
  rec_1 c d (IntKind.i64.wrap (b+1))
def fH(f:List aL)(g:List aF)(i:BY):Nat->dU->dU->Int->Option St
  | 0,_,_,_=>none
  | j+1,c,d,e=>
    if (decide (e < (f.length:Int)))=true then ((idx f e).bind λ b=>(C3 b g i).bind λ k=>if k=true then ((ck (c.length+([b]:List aL).length <= LIM)).bind λ l=>mY (fH f g i j) e (c ++ ([b]:List aL)) d) else ((ck (d.length+([b]:List aL).length <= LIM)).bind λ m=>mY (fH f g i j) e c (d ++ ([b]:List aL)))) else (some (c,d))
def pZ(b:List aL)(c:List aF)(d:BY):Option St:=
  fH b c d (((b.length:Int) - 0:Int).toNat+1) [] [] 0
theorem Bi{D p:VL}{k:List aL}{l f g:Nat}{F:List aF}{n:BY}(H:Sep w (Blk l 122 [.func (.func 177) #[] #[pt f 0,pt g 0]]::Blk f 32 [p]::Blk g 9 [.string n]::Fo) rs)(G:rSl aC D k ∈ rs)(I:rSl aN p F ∈ rs){r:dU×dU}(m:pZ k F n=some r) :
    Cf 181 [D,.func (.func 182) #[] #[pt l 0]] w λ v w'=>∃ O P,.tuple #[O,P]=v/\Sep w' (Row 89 aC O r.1::Row 89 aC P r.2::Blk l 122 [.func (.func 177) #[] #[pt f 0,pt g 0]]::Blk f 32 [p]::Blk g 9 [.string n]::Fo) (rs):=by
 unfold pZ at m
 refine ent func181 z ntmps181 z z λ a E=>sp 2 E z λ a E=>nx<|pn 2 E z λ a E=>wS<|sp 1 E z λ a E=>lS E H G U23 z λ a E=>pn 1 E z λ a E=>wB<|bG (λ o a w=>∃ q s t u j,Jn 30 a w [(1,.func (.func 182) #[] #[pt l 0]),(6,q),(7,s),(10,D),(11,.int .i64 (k.length:Int)),(12,.int .i64 j)] (Blk l 122 [.func (.func 177) #[] #[pt f 0,pt g 0]]::Row 89 aC q t::Row 89 aC s u::Blk f 32 [p]::Blk g 9 [.string n]::Fo) rs (fH k F n o t u j=some r)) (((k.length:Int) - 0:Int).toNat+1) ?_ ?_
 ·exact have H:=H.nilRow 89 aC;have H:=H.nilRow 89 aC;have H:=H.frs [4,4,2,3,4] z;X6 ⟨E.to z,H,Y0,m⟩
 ·clear E H m
  rintro o a w ⟨q,s,t,u,j,Q,E,H,c,m⟩
  cases o with
  | zero=>exact (bE m z).elim
  | succ o=>
   unfold fH at m
   refine sq<|pn 1 E z λ a E=>wS<|wif E m z (λ m=>?_) λ m=>?_
   ·refine wK<|aA<|aJ (λ a w=>∃ y A B C,Jn 30 a w [(1,.func (.func 182) #[] #[pt l 0]),(6,y),(7,A),(10,D),(11,.int .i64 (k.length:Int)),(12,.int .i64 j)] (Blk l 122 [.func (.func 177) #[] #[pt f 0,pt g 0]]::Row 89 aC y B::Row 89 aC A C::Blk f 32 [p]::Blk g 9 [.string n]::Fo) rs (mY (fH k F n o) j B C=some r)) ?_ ?_
    ·refine wB<|sq<|bd m λ b J m=>dB E H (wn z) z z z z z (c _ G) U23 sJ J λ q26 a H E=>ldf dV E H z z z z z m0 U89 z sJ λ a E=>al2 E H z MC λ S w a H E=>ss 0 E H z sJ z λ w H=>xp 1 E z λ a E=>ln 0 [.string b.Dir,.int .i64 b.Next] E H U89 z sJ λ a E=>have H:=H.frs [3,3,2,5,5,5] z;bd m λ T K m=>bK E (wn z) z z (bN E z z z ((cf_ 182) _)) (Sa H (t1 (c _ I)) K)<|?_
     rintro _ w ⟨rfl,H⟩ a E
     refine nt<|wif E m z (λ m=>?_) λ m=>?_
     ·exact wG<|pr 1 E z λ a E=>ln 3 [.string b.Dir,.int .i64 b.Next] E H U89 z sJ λ a E=>xA (e:=89) (d:=aC) (cs:=[.string b.Dir,.int .i64 b.Next]) (xs:=[b]) E H (wn z) z z z (E.evs z) (by kernel_rfl) z (λ ok hr=>(Rows.single (d:=aC) (cs:=[.string b.Dir,.int .i64 b.Next]) (x:=b) yS)) λ U w a H E=>bk m λ L m=>fE (i:=4) E H (wn z) z z z z z z (nU m0) U23 Sn z L z λ V w a H E=>pr 1 E z λ a E=>wN<|bP<|aA<|have H:=H.drop 3;have H:=H.frs [2,2,4,4,4] z;X5 ⟨E.to z,H,(Y2 c),m⟩
     ·exact wG<|pr 1 E z λ a E=>ln 3 [.string b.Dir,.int .i64 b.Next] E H U89 z sJ λ a E=>xA (e:=89) (d:=aC) (cs:=[.string b.Dir,.int .i64 b.Next]) (xs:=[b]) E H (wn z) z z z (E.evs z) (by kernel_rfl) z (λ ok hr=>(Rows.single (d:=aC) (cs:=[.string b.Dir,.int .i64 b.Next]) (x:=b) yS)) λ W w a H E=>bk m λ M m=>fE (i:=5) E H (wn z) z z z z z z (nU m0) U23 Sn z M z λ X w a H E=>pr 1 E z λ a E=>wN<|bP<|aA<|have H:=H.drop 3;have H:=H.frs [2,2,4,4,4] z;X5 ⟨E.to z,H,(Y2 c),m⟩
    ·clear E H m
     rintro a w ⟨y,A,B,C,R,E,H,N,m⟩
     unfold mY at m
     exact wG<|pn 2 E z λ a E=>⟨o,nL o,X6 ⟨E.to z,H,N,m⟩⟩
   ·refine wX<|aT<|aT<|cL<|aA<|sq<|pn 4 E z λ a E=>wR<|iH E z z z<|have H:=H.frs [4,4,2,4,4] z;?_
    cases m
    exact ⟨_,_,z,H.reads c⟩

def s7(x1:aR)(d:List aF)(e:BY)(f:Bool):Option MR:=
  if f=true then (some ([],[],[],[])) else ((pY x1.Nodes d e).bind λ b=>(pZ x1.Turns d e).bind λ c=>some (b.1,c.1,b.2,c.2))
def vF(x1:aR)(b:List aF)(c:BY):Option MR:=
  (sQ x1).bind λ d=>if (!d)=true then (s7 x1 b c true) else ((pE b).bind λ e=>s7 x1 b c (!e))
theorem pG{x1:aR}{j k L:VL}{l:List aF}{n:BY}(H:Sep w (Fo) rs)(o:rSl aB j x1.Nodes ∈ rs)(p:rSl aC k x1.Turns ∈ rs)(d:rSl aN L l ∈ rs){r:eI×dU×eI×dU}(m:vF x1 l n=some r) :
    Cf 107 [.agg #[j,k],L,.string n] w λ v w'=>∃ M N O P,.tuple #[.agg #[M,N],.agg #[O,P]]=v/\Sep w' (Row 107 aB M r.1::Row 89 aC N r.2.1::Row 107 aB O r.2.2.1::Row 89 aC P r.2.2.2::Fo) (rs):=by
 unfold vF at m
 refine ent func107 z ntmps107 z z λ a E=>sq<|bx E H z λ q w a H E=>?_
 obtain ⟨q12,Q,rfl⟩:=H.slform d
 refine bx E H z λ s w a H E=>bx E H z λ t w a H E=>al2 E H z pJ λ u w a H E=>al2 E H z pJ λ x w a H E=>nx<|al2 E H z pJ λ y w a H E=>al2 E H z pJ λ A w a H E=>nt<|wS<|aJ (λ a w=>∃ g,Jn 42 a w [(3,pt q 0),(4,pt s 0),(5,pt t 0),(6,pt u 0),(7,pt x 0),(8,pt y 0),(9,pt A 0),(18,.bool g)] (Blk q 25 [j,k]::Blk s 32 [(.slice q12 l.length Q)]::Blk t 9 [.string n]::Blk u 25 [nS,nS]::Blk x 25 [nS,nS]::Blk y 25 [nS,nS]::Blk A 25 [nS,nS]::Fo) rs (s7 x1 l n g=some r)) ?_ ?_
 ·refine wG<|ln 6 [j,k] E H U25 z dN λ a E=>bd m λ S G m=>xk2 E z (cf_ 37) (Q8 H o p G) λ w H a E=>pr 2 E z λ a E=>cs m (λ c m=>?_) λ c m=>?_
  ·exact pk 4 E (kc 14 z c) z λ a E=>nt<|have H:=H.frs [0,1,2,3,4,5,6] z;⟨_,_,E.to z,H,Y0,m⟩
  ·refine gl 14 E H 5 c U32 z λ a E=>bd m λ T I m=>gc 14 E c z (cf_ 38) (B8 H d I)<|?_
   rintro _ w ⟨rfl,H⟩ a E
   exact pk 2 E (kc 14 z c) z λ a E=>nt<|have H:=H.frs [0,1,2,3,4,5,6] z;⟨_,_,E.to z,H,Y0,m⟩
 ·clear E H m
  rintro a w ⟨g,R,E,H,b,m⟩
  unfold s7 at m
  refine wif E m z (λ m=>?_) λ m=>?_
  ·refine wS<|dz [0,0,1,2] [5,6] H λ w W0 hI H=>fbn E [nS,nS] z (wn z) z z z z m0 z U25 z dN λ a E=>fbn E [nS,nS] z (wn z) z z z z mm1 z U25 z dN λ a E=>bQ z<|ss 3 E H z dN z λ w H=>nt<|⟨sx H [5,6] z,bL z<|ss 4 E H z dN z λ w H=>nt<|bB<|?_⟩
   clear hI
   refine aA<|wR<|aG<|zW E z (qH (i:=3) (us:=[nS,nS]) H z z z U25 z dN) (qH (i:=4) (us:=[nS,nS]) H z z z U25 z dN)<|have H:=H.nilRow 107 aB;have H:=H.nilRow 89 aC;have H:=H.nilRow 107 aB;have H:=H.nilRow 89 aC;have H:=H.drs [4,4,4,4,4,4,4];have H:=H.frs [0,1,2,3] z;?_
   cases m
   exact X4 ⟨z,H.reads b⟩
  ·refine wK<|aA<|sq<|sv2 E z (nT E z z z) λ a E=>al1 E H z z z z PM z λ U w a H E=>ss 0 E H z PN z λ w H=>xp 1 E z λ a E=>lb2 E H 1 U22 z λ a E=>sv2 E z (nT E z z z) λ a E=>have H:=H.frs [7,7,7,7,5,7,7,7] z;bd m λ e J m=>xc2 E z (cf_ 178) (Bh H (b _ o) (b _ d) J)<|?_
   rintro _ w ⟨V,W,rfl,H⟩ a E
   refine pr 4 E z λ a E=>?_
   obtain ⟨q27,B,rfl⟩:=H.rowform (i:=0) z
   refine ss 8 E H z Pz z λ w H=>pr 1 E z λ a E=>?_
   obtain ⟨q29,C,rfl⟩:=H.rowform (i:=1) z
   refine ss 9 E H z Pz z λ w H=>xp 1 E z λ a E=>lb2 E H 5 U23 z λ a E=>sv2 E z (nT E z z z) λ a E=>have H:=H.frs [9,9,9,9,9,6,6,9,9,9] z;bd m λ f K m=>xc2 E z (cf_ 181) (Bi H (b _ p) (b _ d) K)<|?_
   rintro _ w ⟨X,Y,rfl,H⟩ a E
   refine pr 4 E z λ a E=>?_
   obtain ⟨q35,D,rfl⟩:=H.rowform (i:=0) z
   refine ss 10 E H z En z λ w H=>pr 1 E z λ a E=>?_
   obtain ⟨q37,F,rfl⟩:=H.rowform (i:=1) z
   refine ss 11 E H z En z λ w H=>nt<|wS<|dz [0,0,1,2] [10,11] H λ w W0 hI H=>fbn E [(.slice q27 e.1.length B),(.slice q35 f.1.length D)] z (wn z) z z z z m0 z U25 z dN λ a E=>fbn E [(.slice q29 e.2.length C),(.slice q37 f.2.length F)] z (wn z) z z z z mm1 z U25 z dN λ a E=>bQ z<|ss 8 E H z dN z λ w H=>nt<|⟨⟨_,_,H,(aU (t4 mm6) (aU (t5 mm6) (bH))),(bO)⟩,bL z<|ss 9 E H z dN z λ w H=>nt<|bB<|?_⟩
   clear hI
   refine aA<|wR<|zW E z (qH (i:=8) (us:=[(.slice q27 e.1.length B),(.slice q35 f.1.length D)]) H z z z U25 z dN) (qH (i:=9) (us:=[(.slice q29 e.2.length C),(.slice q37 f.2.length F)]) H z z z U25 z dN)<|have H:=H.drs [2,2,2,4,4,4,4,4];have H:=H.frs [1,3,2,3] z;?_
   cases m
   exact X4 ⟨z,H.reads b⟩

def rW(b:eI)(c:dU)(d:iS):Option Et:=
  some (b,c,d)
def vW(e:List aH)(f:List aL)(d:List aF)(x20:aK):Option Et:=
  (s6 d x20.Prefix x20.Epoch).bind λ b=>if b.2=true then ((vF (⟨e,f⟩:aR) d x20.Prefix).bind λ c=>rW c.2.2.1 c.2.2.2 b.1) else (rW e f d)
theorem Ic{x:Nat}{A B M N O P Q d e f g j k:VL}{C:List aH}{D:List aL}{R:List aF}{x20:aK}(H:Sep w (Blk x 87 [A,B,M,d,e,f,g,j,k]::Fo) rs)(l:rSl aB A C ∈ rs)(n:rSl aC B D ∈ rs)(c:rSl aN M R ∈ rs){r:eI×dU×iS}(m:vW C D R x20=some r) :
    Cf 48 [pt x 0,.agg (aM x20 N O P Q).toArray] w λ v w'=>∃ S T U,.agg bJ.toArray=v/\Sep w' (Blk x 87 [S,T,U,d,e,f,g,j,k]::Fo) (rSl aB S r.1::rSl aC T r.2.1::rSl aN U r.2.2::rs):=by
 unfold vW at m
 refine ent func48 z ntmps48 z z λ a E=>sq<|bx E H z λ V w a H E=>al2 E H z lQ λ y w a H E=>nt<|aJ (λ a w=>∃ o p q s t u b,Env 42 a [(4,pt y 0)]/\Sep w (Blk y 48 bJ::Blk x 87 [o,p,q,d,e,f,g,j,k]::Fo) b/\(∀ r,r ∈ rs->r ∈ b)/\rSl aB o s ∈ b/\rSl aC p t ∈ b/\rSl aN q u ∈ b/\rW s t u=some r) ?_ ?_
 ·refine wS<|dz [0,0,0,0,0,0,0,0,1,0,0,0,1,2] [1,2] H λ w W0 hI H=>fn 3 E z λ a E=>fb2 E mm1 U32 z λ a E=>fn 1 E z λ a E=>fb2 E m0 U9 z λ a E=>fn 1 E z λ a E=>fb2 E m0 U2 z λ a E=>bQ z<|bd m λ W F m=>xc2 E z (cf_ 116) (Uo H c F)<|?_
  rintro _ w ⟨X,rfl,H⟩ a E
  refine nt<|⟨sx H [2,3] z,fn 3 E z λ a E=>bQ z<|pn 1 E z λ a E=>⟨sx H [2,3] z,bL z<|pn 1 E z λ a E=>bB<|?_⟩⟩
  clear hI
  refine aA<|sq<|pn 1 E z λ a E=>wif E m z (λ m=>?_) λ m=>?_
  ·refine wS<|dz [0,0,0,0,0,0,0,0,0,0,0,1,0,0,0,2,2,2] [2,3] H λ w W0 hI H=>fn 4 E z λ a E=>fbn E [A,B] z (wn z) z z z z mm1 z U25 z dN λ a E=>fn 3 E z λ a E=>fb2 E mm1 U32 z λ a E=>fn 1 E z λ a E=>fb2 E m0 U9 z λ a E=>bQ z<|bd m λ Y G m=>xc2 E z (cf_ 107) (pG (x1:=(⟨C,D⟩:aR)) H l n c G)<|?_
   rintro _ w ⟨Z,b0,b1,b2,rfl,H⟩ a E
   refine nt<|⟨⟨_,_,H,(aU mm6 (aU (t1 mm6) (bH))),(bO)⟩,fn 3 E z λ a E=>bL z<|pn 1 E z λ a E=>bL z<|pn 1 E z λ a E=>bL z<|?_⟩
   obtain ⟨q60,b3,rfl⟩:=H.rowform (i:=2) z
   obtain ⟨q62,b4,rfl⟩:=H.rowform (i:=3) z
   refine ss 7 E H z dN z λ w H=>nt<|bB<|?_
   clear hI
   refine aA<|wG<|pr 4 E z λ a E=>?_
   obtain ⟨q64,b5,rfl⟩:=H.rowform (i:=4) z
   exact ss 7 E H z DT z λ w H=>nt<|have H:=H.thaw (i:=2) z;have H:=H.thaw (i:=2) z;have H:=H.thaw (i:=2) z;have H:=H.drs [0,0,1];X7 ⟨E.to z,H,(Y3 Y0),mm2,mm1,m0,m⟩
  ·exact wK<|aA<|have H:=H.drs [0,1];X7 ⟨E.to z,H,Y0,l,n,c,m⟩
 ·clear E H m
  rintro a w ⟨o,p,q,s,t,u,b,E,H,I,J,K,L,m⟩
  unfold rW at m
  refine sq<|sv2 E z (cH E z (E.evs z) (v:=.agg bJ.toArray) (by kernel_rfl)) λ a E=>ss 0 E H z bV z λ w H=>nt<|wR<|Ei E z (qH (i:=0) (us:=bJ) H z z z U48 z bV)<|have H:=H.drop 0;?_
  cases m
  exact X3 ⟨z,H.reads (aD J (aD K (aD L (I))))⟩

def uR(x1:aQ)(x3:Int):Option Bool:=
  some (x1.Txn == x3)
theorem Dr{x1:aQ}{b:Nat}{x3:Int}(H:Sep w (Blk b 2 [.int .i64 x3]::Fo) rs){r:Bool}(m:uR x1 x3=some r) :
    Cf 172 [.agg (uY x1).toArray,pt b 0] w λ v w'=>.bool r=v/\Sep w' (Blk b 2 [.int .i64 x3]::Fo) (rs):=by
 unfold uR at m
 refine ent func172 z ntmps172 z z λ a E=>sq<|bx E H z λ c w a H E=>pr 1 E z λ a E=>xp 1 E z λ a E=>lb2 E H 0 U2 z λ a E=>lb2 E H 1 U2 z λ a E=>pr 2 E z λ a E=>nt<|wR<|o1 E z<|have H:=H.drop 0;?_
 cases m
 exact ⟨z,H.reads Y0⟩

def eN(c:List aQ)(d:Int):Nat->Int->Option Int
  | 0,_=>none
  | f+1,b=>
    if (decide (b < (c.length:Int)))=true then ((idx c b).bind λ g=>(uR g d).bind λ e=>if e=true then (some (b)) else (eN c d f (IntKind.i64.wrap (b+1)))) else (some ((-1)))
def jK(b:List aQ)(c:Int):Option Int:=
  eN b c (((b.length:Int) - 0:Int).toNat+1) 0
theorem E2{e:VL}{b:List aQ}{f:Nat}{g:Int}(H:Sep w (Row 78 aY e b::Blk f 2 [.int .i64 g]::Fo) rs){r:Int}(m:jK b g=some r) :
    Cf 154 [e,.func (.func 172) #[] #[pt f 0]] w λ v w'=>.int .i64 r=v/\Sep w' (Blk f 2 [.int .i64 g]::Row 78 aY e b::Fo) (rs):=by
 unfold jK at m
 refine ent func154 z ntmps154 z z λ a E=>sq<|pn 1 E z λ a E=>wS<|sp 1 E z λ a E=>sv2 E z (mV (i:=0) E H z z z U58) λ a E=>pr 1 E z λ a E=>nt<|wB<|bG (λ c a w=>∃ n,Jn 19 a w [(0,e),(1,.func (.func 172) #[] #[pt f 0]),(7,.int .i64 (b.length:Int)),(8,.int .i64 n)] (Row 78 aY e b::Blk f 2 [.int .i64 g]::Fo) rs (eN b g c n=some r)) (((b.length:Int) - 0:Int).toNat+1) ?_ ?_
 ·exact ⟨_,_,E.to z,H,Y0,m⟩
 ·clear E H m
  rintro c a w ⟨n,q,E,H,j,m⟩
  cases c with
  | zero=>exact (bE m z).elim
  | succ c=>
   unfold eN at m
   refine sq<|pn 1 E z λ a E=>wS<|wif E m z (λ m=>?_) λ m=>?_
   ·refine wK<|aA<|wS<|wB<|sp 2 E z λ a E=>xp 3 E z λ a E=>bd m λ o k m=>?_
    obtain ⟨s,t,l⟩:=H.rowformNE (i:=0) z k
    refine sv2 E z (dG (d:=aY) E l z z z z U58 jZ k) λ a E=>sv2 E z (kH (i:=0) E H gR l z z z k (us:=[.string o.Dir,.int .i64 o.Txn,.int .i64 o.Age]) z U78 z jZ) λ a E=>have H:=H.frs [0,1] z;bd m λ u p m=>bK E (wn z) z z (bN E z z z ((cf_ 172) _)) (Dr H p)<|?_
    rintro _ w ⟨rfl,H⟩ a E
    refine nt<|wif E m z (λ m=>?_) λ m=>?_
    ·refine sq<|pn 2 E z λ a E=>wR<|bD<|aG<|aG<|bD<|aG<|o1 E z<|?_
     cases m
     exact ⟨z,H.reads j⟩
    ·exact wK<|bP<|aA<|wG<|pn 2 E z λ a E=>have H:=H.frs [0,1] z;⟨c,nL c,_,_,E.to z,H,j,m⟩
   ·refine wX<|aT<|aT<|cL<|aA<|sq<|pn 1 E z λ a E=>wR<|o1 E z<|have H:=H.frs [0,1] z;?_
    cases m
    exact ⟨z,H.reads j⟩

def gK(rec_1:jG->Int->Int->Option jG)(d:Int)(b:jG)(c:Int):Option jG:=
  rec_1 b c (IntKind.i64.wrap (d+1))
def dF(f:Int):Nat->jG->Int->Int->Option jG
  | 0,_,_,_=>none
  | g+1,c,b,d=>
    if (decide (d < (c.length:Int)))=true then ((idx c d).bind λ e=>(uR e f).bind λ i=>if (!i)=true then ((idx c b).bind λ j=>gK (dF f g) d (c.set b.toNat e) (IntKind.i64.wrap (b+1))) else (gK (dF f g) d c b)) else ((ck (0 <= b/\b <= c.length)).bind λ k=>(ck (0 <= b/\b <= (c.take b.toNat ++ List.replicate (c.length - b.toNat) (⟨⟨#[]⟩,0,0⟩:aQ)).length)).bind λ l=>some ((c.take b.toNat ++ List.replicate (c.length - b.toNat) (⟨⟨#[]⟩,0,0⟩:aQ)).take b.toNat))
def jV(b:List aQ)(d:Int):Option jG:=
  (jK b d).bind λ c=>if (c == (-1))=true then (some (b)) else (dF d (((b.length:Int) - (IntKind.i64.wrap (c+1)):Int).toNat+1) b c (IntKind.i64.wrap (c+1)))
theorem F5{l:VL}{u:List aQ}{c:Nat}{e:Int}(H:Sep w (Row 78 aY l u::Blk c 2 [.int .i64 e]::Fo) rs){r:jG}(m:jV u e=some r) :
    Cf 171 [l,.func (.func 172) #[] #[pt c 0]] w λ v w'=>∃ D,D=v/\Sep w' (Row 78 aY D r::Blk c 2 [.int .i64 e]::Fo) (rs):=by
 unfold jV at m
 refine ent func171 z ntmps171 z z λ a E=>sp 1 E z λ a E=>xp 2 E z λ a E=>bd m λ G F m=>xk2 E z (cf_ 154) (E2 H F) λ w H a E=>pn 1 E z λ a E=>wS<|sq<|pn 2 E z λ a E=>wif E m z (λ m=>?_) λ m=>?_
 ·refine sq<|pn 2 E z λ a E=>wR<|aG<|o1 E z<|have H:=H.frs [0,1] z;?_
  cases m
  exact ⟨_,z,H.reads Y0⟩
 ·refine wK<|aA<|wS<|sq<|pn 3 E z λ a E=>wB<|bG (λ f a w=>∃ x y n,Jn 42 a w [(0,l),(1,.func (.func 172) #[] #[pt c 0]),(5,.int .i64 y),(6,.int .i64 n)] (Row 78 aY l x::Blk c 2 [.int .i64 e]::Fo) rs (dF e f x y n=some r)) (((u.length:Int) - (IntKind.i64.wrap (G+1)):Int).toNat+1) ?_ ?_
  ·exact have H:=H.frs [0,1] z;X4 ⟨E.to z,H,Y0,m⟩
  ·clear E H m
   rintro f a w ⟨x,y,n,I,E,H,g,m⟩
   cases f with
   | zero=>exact (bE m z).elim
   | succ f=>
    unfold dF at m
    refine wS<|sp 2 E z λ a E=>sv2 E z (mV (i:=0) E H z z z U58) λ a E=>pn 1 E z λ a E=>wif E m z (λ m=>?_) λ m=>?_
    ·refine wK<|aA<|aJ (λ a w=>∃ o p,Jn 42 a w [(0,l),(1,.func (.func 172) #[] #[pt c 0]),(5,.int .i64 p),(6,.int .i64 n)] (Row 78 aY l o::Blk c 2 [.int .i64 e]::Fo) rs (gK (dF e f) n o p=some r)) ?_ ?_
     ·refine wB<|sp 2 E z λ a E=>bd m λ b j m=>?_
      obtain ⟨K,L,q⟩:=H.rowformNE (i:=0) z j
      refine sv2 E z (dG (d:=aY) E q z z z z U58 jZ j) λ a E=>sv2 E z (kH (i:=0) E H gR q z z z j (us:=[.string b.Dir,.int .i64 b.Txn,.int .i64 b.Age]) z U78 z jZ) λ a E=>al2 E H z DU λ M w a H E=>ss 0 E H z jZ z λ w H=>xp 1 E z λ a E=>ln 0 (uY b) E H U78 z jZ λ a E=>have H:=H.frs [1,1,2] z;bd m λ N A m=>bK E (wn z) z z (bN E z z z ((cf_ 172) _)) (Dr H A)<|?_
      rintro _ w ⟨rfl,H⟩ a E
      refine pn 1 E z λ a E=>wif E m z (λ m=>?_) λ m=>?_
      ·refine sp 2 E z λ a E=>ln 1 (uY b) E H U78 z jZ λ a E=>bd m λ O k m=>?_
       obtain ⟨P,Q,s⟩:=H.rowformNE (i:=2) z k
       exact sv2 E z (dG (d:=aY) E s z z z z U58 jZ k) λ a E=>P8 (d:=aY) (i:=2) (us:=[.string b.Dir,.int .i64 b.Txn,.int .i64 b.Age]) (z':=b) E H gR (wn z) z s z z z z z z z k jZ λ w H=>nt<|wG<|pr 3 E z λ a E=>wN<|bP<|aA<|have H:=H.drop 1;have H:=H.frs [0,1] z;X3 ⟨E.to z,H,g,m⟩
      ·exact wK<|bP<|aA<|have H:=H.drop 1;have H:=H.frs [0,1] z;X3 ⟨E.to z,H,g,m⟩
     ·clear E H m
      rintro a w ⟨o,p,J,E,H,B,m⟩
      unfold gK at m
      exact wG<|pn 3 E z λ a E=>⟨f,nL f,X4 ⟨E.to z,H,B,m⟩⟩
    ·refine wX<|aT<|aT<|cL<|aA<|sp 2 E z λ a E=>bk m λ t m=>sv2 E z (Ek (d:=aY) (i:=0) E H z z z z U58 jZ t) λ a E=>V9 (i:=0) (z0:=(⟨⟨#[]⟩,0,0⟩:aQ)) E H gR (wn z) z z z U58 PP z z z t λ w H=>xp 2 E z λ a E=>bk m λ C m=>Bn (i:=0) E H gR (wn z) z z z z z z U58 jZ C λ R a H E=>pn 1 E z λ a E=>wR<|o1 E z<|?_
     cases m
     exact ⟨_,z,H.reads g⟩

def G9(b:List aQ)(x3:Int):Option jG:=
  (ck (b.length <= LIM)).bind λ d=>(jV b x3).bind λ c=>some (c)
theorem Uq{c:VL}{d:List aQ}{x3:Int}(H:Sep w (Fo) rs)(e:rSl aY c d ∈ rs){r:jG}(m:G9 d x3=some r) :
    Cf 103 [c,.int .i64 x3] w λ v w'=>∃ f,f=v/\Sep w' (Row 78 aY f r::Fo) (rs):=by
 unfold G9 at m
 refine ent func103 z ntmps103 z z λ a E=>sq<|bx E H z λ j w a H E=>pr 1 E z λ a E=>xp 1 E z λ a E=>bk m λ g m=>xc2 E z (cf_ 60) (nZ H e g) λ k w H a E=>sv2 E z (nT E z z z) λ a E=>bd m λ l b m=>xc2 E z (cf_ 171) (F5 H b)<|?_
 rintro _ w ⟨i,rfl,H⟩ a E
 refine pn 1 E z λ a E=>wR<|o1 E z<|have H:=H.drop 1;?_
 cases m
 exact ⟨_,z,H.reads Y0⟩

def xH(x1:Int):Option Bool:=
  some (x1 != x1)
theorem Aa{x1:Int}(H:Sep w (Fo) rs){r:Bool}(m:xH x1=some r) :
    Cf 320 [.int .i64 x1] w λ v w'=>.bool r=v/\Sep w' (Fo) (rs):=by
 unfold xH at m
 refine ent func320 z ntmps320 z z λ a E=>sp 1 E z λ a E=>nx<|pn 4 E z λ a E=>wR<|o1 E z<|?_
 cases m
 exact ⟨z,H.reads Y0⟩

def yQ(x1:Int)(b:Int):Option Int:=
  (xH x1).bind λ d=>(xH b).bind λ c=>if d=true then (if c=true then (some (0)) else (some ((-1)))) else (if c=true then (some (1)) else (if (decide (x1 < b))=true then (some ((-1))) else (if (decide (x1 > b))=true then (some (1)) else (some (0)))))
theorem Gl{x1 b:Int}(H:Sep w (Fo) rs){r:Int}(m:yQ x1 b=some r) :
    Cf 270 [.int .i64 x1,.int .i64 b] w λ v w'=>.int .i64 r=v/\Sep w' (Fo) (rs):=by
 unfold yQ at m
 refine ent func270 z ntmps270 z z λ a E=>sp 1 E z λ a E=>xp 1 E z λ a E=>bd m λ e c m=>xk2 E z (cf_ 320) (Aa H c) λ w H a E=>pr 1 E z λ a E=>nx<|pr 1 E z λ a E=>bd m λ f d m=>xk2 E z (cf_ 320) (Aa H d) λ w H a E=>pn 1 E z λ a E=>wS<|sq<|pn 1 E z λ a E=>wif E m z (λ m=>?_) λ m=>?_
 ·refine wS<|sq<|pn 1 E z λ a E=>wif E m z (λ m=>?_) λ m=>?_
  ·refine sq<|pn 1 E z λ a E=>wR<|aG<|aG<|o1 E z<|?_
   cases m
   exact ⟨z,H.reads Y0⟩
  ·refine wK<|aA<|sq<|pn 1 E z λ a E=>wR<|aG<|o1 E z<|?_
   cases m
   exact ⟨z,H.reads Y0⟩
 ·refine wK<|aA<|wS<|sq<|pn 1 E z λ a E=>wif E m z (λ m=>?_) λ m=>?_
  ·refine sq<|pn 1 E z λ a E=>wR<|aG<|o1 E z<|?_
   cases m
   exact ⟨z,H.reads Y0⟩
  ·refine wK<|aA<|wS<|sq<|pn 3 E z λ a E=>wif E m z (λ m=>?_) λ m=>?_
   ·refine sq<|pn 1 E z λ a E=>wR<|aG<|o1 E z<|?_
    cases m
    exact ⟨z,H.reads Y0⟩
   ·refine wK<|aA<|wS<|sq<|pn 3 E z λ a E=>wif E m z (λ m=>?_) λ m=>?_
    ·refine sq<|pn 1 E z λ a E=>wR<|aG<|o1 E z<|?_
     cases m
     exact ⟨z,H.reads Y0⟩
    ·refine wK<|aA<|sq<|pn 1 E z λ a E=>wR<|o1 E z<|?_
     cases m
     exact ⟨z,H.reads Y0⟩

def rL(x1:aE)(x3:Int):Option Int:=
  (yQ x1.Num x3).bind λ b=>some (b)
theorem Ag{x1:aE}{c:VL}{x3:Int}(H:Sep w (Fo) rs){r:Int}(m:rL x1 x3=some r) :
    Cf 196 [.agg (kE x1 c).toArray,.int .i64 x3] w λ v w'=>.int .i64 r=v/\Sep w' (Fo) (rs):=by
 unfold rL at m
 refine ent func196 z ntmps196 z z λ a E=>sq<|bx E H z λ d w a H E=>pr 1 E z λ a E=>xp 1 E z λ a E=>lb2 E H 0 U2 z λ a E=>pr 1 E z λ a E=>bd m λ e b m=>xk2 E z (cf_ 270) (Gl H b) λ w H a E=>pn 1 E z λ a E=>wR<|o1 E z<|have H:=H.drop 0;?_
 cases m
 exact ⟨z,H.reads Y0⟩

def cA(c:List aE)(x3:Int):Nat->Int->Int->Option xM
  | 0,_,_=>none
  | e+1,b,d=>
    if (decide (b < d))=true then ((idx c (IntKind.i64.wrap (tM .u64 (IntKind.u64.wrap (IntKind.i64.wrap (b+d))) 1))).bind λ j=>(rL j x3).bind λ f=>if (decide (f < 0))=true then (cA c x3 e (IntKind.i64.wrap ((IntKind.i64.wrap (tM .u64 (IntKind.u64.wrap (IntKind.i64.wrap (b+d))) 1))+1)) d) else (cA c x3 e b (IntKind.i64.wrap (tM .u64 (IntKind.u64.wrap (IntKind.i64.wrap (b+d))) 1)))) else (if (decide (b < (c.length:Int)))=true then ((idx c b).bind λ g=>(rL g x3).bind λ i=>some (b,i == 0)) else (some (b,false)))
def eV(b:List aE)(x3:Int):Option xM:=
  cA b x3 (((b.length:Int) - 0:Int).toNat+1) 0 (b.length:Int)
theorem uC{j:VL}{e:List aE}{x3:Int}(H:Sep w (Row 126 aI j e::Fo) rs){r:Int×Bool}(m:eV e x3=some r) :
    Cf 195 [j,.int .i64 x3,.func (.func 196) #[] #[]] w λ v w'=>.tuple #[.int .i64 r.1,.bool r.2]=v/\Sep w' (Row 126 aI j e::Fo) (rs):=by
 unfold eV at m
 refine ent func195 z ntmps195 z z λ a E=>sp 2 E z λ a E=>xp 1 E z λ a E=>sv2 E z (mV (i:=0) E H z z z U71) λ a E=>pr 1 E z λ a E=>xp 3 E z λ a E=>nt<|wS<|wB<|bG (λ c a w=>∃ u x,Jn 49 a w [(0,j),(1,.int .i64 x3),(2,.func (.func 196) #[] #[]),(8,.int .i64 (e.length:Int)),(9,.int .i64 u),(10,.int .i64 x)] (Row 126 aI j e::Fo) rs (cA e x3 c u x=some r)) (((e.length:Int) - 0:Int).toNat+1) ?_ ?_
 ·exact X3 ⟨E.to z,H,Y0,m⟩
 ·clear E H m
  rintro c a w ⟨u,x,C,E,H,g,m⟩
  cases c with
  | zero=>exact (bE m z).elim
  | succ c=>
   unfold cA at m
   refine wS<|sq<|pn 3 E z λ a E=>wif E m z (λ m=>?_) λ m=>?_
   ·refine wK<|aA<|wB<|sp 4 E z λ a E=>sv2 E z (Eg E z z z (by decide)) λ a E=>pr 2 E z λ a E=>xp 3 E z λ a E=>bd m λ B l m=>?_
    obtain ⟨D,F,n⟩:=H.rowformNE (i:=0) z l
    refine sv2 E z (dG (d:=aI) E n z z z z U71 tO l) λ a E=>Nn (i:=0) (k:=0) (s:=3) E H n (wn z) z z z z z l z Mi z tO λ G a H E=>?_
    obtain ⟨_,hcs⟩:=H.rd (.head _)
    obtain ⟨p,rfl,-⟩:=dD hcs
    clear hcs
    refine have H:=H.derive1 m0 (rSl aS p B.Events) (λ ok h=>gZ h);?_
    replace E:Env 49 a ((28,.agg (kE B p).toArray)::_):=E
    refine pr 1 E z λ a E=>bd m λ I y m=>bK E (wn z) z z (bN E z z z ((cf_ 196) _)) (Ag H y)<|?_
    rintro _ w ⟨rfl,H⟩ a E
    refine pn 1 E z λ a E=>wif E m z (λ m=>?_) λ m=>?_
    ·exact wG<|pr 3 E z λ a E=>wN<|bP<|aA<|⟨c,nL c,X3 ⟨E.to z,H,(Y2 g),m⟩⟩
    ·exact wG<|pr 2 E z λ a E=>wN<|bP<|aA<|⟨c,nL c,X3 ⟨E.to z,H,(Y2 g),m⟩⟩
   ·refine wX<|aT<|aT<|cL<|aA<|sp 5 E z λ a E=>cs m (λ b m=>?_) λ b m=>?_
    ·refine pk 3 E (kc 39 z b) z λ a E=>bd m λ q f m=>?_
     obtain ⟨J,K,o⟩:=H.rowformNE (i:=0) z f
     refine gv 39 E b z (dG (d:=aI) E o z z z z U71 tO f) λ a E=>Nn (i:=0) (k:=0) (s:=3) E H o (ws' (d:=39) E z z z z b) z z z z z f z Mi z tO λ L a H E=>?_
     obtain ⟨_,hcs⟩:=H.rd (.head _)
     obtain ⟨t,rfl,-⟩:=dD hcs
     clear hcs
     refine have H:=H.derive1 m0 (rSl aS t q.Events) (λ ok h=>gZ h);?_
     replace E:Env 49 a ((44,.agg (kE q t).toArray)::_):=E
     refine pk 1 E (kc 39 z b) z λ a E=>bd m λ M A m=>bK E (ws' (d:=39) E z z z z b) z z (bN E z z z ((cf_ 196) _)) (Ag H A)<|?_
     rintro _ w ⟨rfl,H⟩ a E
     refine pk 4 E (kc 39 z b) z λ a E=>nt<|wR<|iH E z z z<|?_
     cases m
     exact ⟨z,H.reads (Y2 g)⟩
    ·refine pk 11 E (kc 39 z b) z λ a E=>nt<|wR<|iH E z z z<|?_
     cases m
     exact ⟨z,H.reads g⟩

def wL(c:aO)(d:aE)(b:eD):Option Es:=
  if c.Deep=true then (some (decide ((d.Events.length:Int) < 7),b)) else (some (false,b))
def zH(c:aO)(b:aE)(d:Int)(e:BY)(f:List aE)(g:Int)(i:Bool):Option Es:=
  if i=true then ((ck ((({ b with Count:=IntKind.i64.wrap (b.Count+1) }:aE).Events).length <= LIM)).bind λ j=>(ck ((({ b with Count:=IntKind.i64.wrap (b.Count+1) }:aE).Events).length+([(⟨IntKind.i64.wrap (b.Count+1),d,e,c.Num⟩:bU)]:List bU).length <= LIM)).bind λ k=>wL c b ((f.set g.toNat ({ b with Count:=IntKind.i64.wrap (b.Count+1) }:aE)).set g.toNat ({ ({ b with Count:=IntKind.i64.wrap (b.Count+1) }:aE) with Events:=(({ b with Count:=IntKind.i64.wrap (b.Count+1) }:aE).Events) ++ ([(⟨IntKind.i64.wrap (b.Count+1),d,e,c.Num⟩:bU)]:List bU) }:aE))) else (wL c b f)
def wM(c:aO)(b:aE)(f:List aE)(g:Int)(d:Int)(e:BY):Option Es:=
  if (decide ((b.Events.length:Int) < 8))=true then (zH c b d e f g (decide (b.Count < 281474976710656))) else (zH c b d e f g false)
def H8(d:List aE)(e:Int)(c:aE)(b:aO)(f:Int)(g:BY):Option Es:=
  if ((c.Events.length:Int) == 7)=true then (wM b c d e 4 b.Path) else (wM b c d e f g)
theorem Ur{n:VL}{D U V:Nat}{y:List aE}{t F:Int}{b:aE}{c:aO}{G:BY}(j:idx y t=some b)(l:n= .slice (some ⟨D,0,none⟩) U V)(H:Sep w (Row 126 aI n y::Fo) rs){r:Bool×eD}(m:H8 y t b c F G=some r) :
    Cf 335 [.pointer (some ⟨D,t.toNat * 3,none⟩),.agg (dP c).toArray,.int .i64 F,.string G] w λ v w'=>.bool r.1=v/\Sep w' (Row 126 aI n r.2::Fo) (rs):=by
 unfold H8 at m
 refine ent func335 z ntmps335 z z λ a E=>sq<|bx E H z λ p w a H E=>pr 1 E z λ a E=>xp 3 E z λ a E=>G2 (i:=1) (k:=2) E H l (wn z) z z z z z j z U44 z λ b0 a H E=>?_
 obtain ⟨_,hcs⟩:=H.rd (.head _)
 obtain ⟨M,rfl,-⟩:=dD hcs
 clear hcs
 refine have H:=H.derive1 m0 (rSl aS M b.Events) (λ ok h=>gZ h);?_
 replace E:Env 65 a ((14,M)::_):=E
 refine lS E H m0 U44 z λ a E=>pn 1 E z λ a E=>wS<|dz [0,0,0,0,0,0,0,0,0,0,1,2] [0,1] H λ w W0 hI H=>fn 3 E z λ a E=>fv E z (λ w hW=>AN (d:=aI) (k:=1) (u:=.int .i64 b.Count) E l j mm1 (λ w ok cs h=>by obtain ⟨n,rfl,-⟩:=dD h;rfl) z z U2 z hW) λ a E=>fn 4 E z λ a E=>fb2 E m0 U2 z λ a E=>fv E z (λ w hW=>(cH E z (E.evs z) (v:=.agg #[.int .i64 (IntKind.i64.wrap (b.Count+1)),.int .i64 F,.string G,.int .i64 c.Num]) (by kernel_rfl))) λ a E=>bQ z<|al2 E H z Sk λ q w a H E=>nt<|⟨sx H [1,2] z,bL z<|ss 0 E H z xL z λ w H=>nt<|bB<|?_⟩
 clear hI
 refine aA<|aJ (λ a w=>∃ f g,Jn 65 a w [(0,.pointer (some ⟨D,t.toNat * 3,none⟩)),(5,pt p 0),(9,.int .i64 (b.Events.length:Int)),(10,pt q 0)] (Row 126 aI n y::Blk p 35 (dP c)::Blk q 131 [.int .i64 (IntKind.i64.wrap (b.Count+1)),.int .i64 f,.string g,.int .i64 c.Num]::Fo) rs (wM c b y t f g=some r)) ?_ ?_
 ·refine sq<|pn 2 E z λ a E=>wif E m z (λ m=>?_) λ m=>?_
  ·refine dz [0,0,0,1,2,2] [1] H λ w W0 hI H=>fn 1 E z λ a E=>fb2 E m0 U9 z λ a E=>fn 1 E z λ a E=>bQ z<|ss 0 E H z sz3 z λ w H=>nt<|⟨sx H [1] z,bL z<|pn 1 E z λ a E=>bL z<|ss 0 E H z sz9 z λ w H=>nt<|bB<|?_⟩
   clear hI
   exact aA<|have H:=H.frs [0,1,2] z;X3 ⟨E.to z,H,(Y2 Y0),m⟩
  ·exact wK<|aA<|have H:=H.frs [0,1,2] z;X3 ⟨E.to z,H,(Y2 Y0),m⟩
 ·clear E H m
  rintro a w ⟨f,g,X,E,H,I,m⟩
  unfold wM at m
  refine aJ (λ a w=>∃ J,Jn 65 a w [(5,pt p 0),(9,.int .i64 (b.Events.length:Int))] (Blk p 35 (dP c)::Row 126 aI n J::Fo) rs (wL c b J=some r)) ?_ ?_
  ·refine aJ (λ a w=>∃ K,Jn 65 a w [(0,.pointer (some ⟨D,t.toNat * 3,none⟩)),(5,pt p 0),(9,.int .i64 (b.Events.length:Int)),(10,pt q 0),(40,.bool K)] (Row 126 aI n y::Blk p 35 (dP c)::Blk q 131 [.int .i64 (IntKind.i64.wrap (b.Count+1)),.int .i64 f,.string g,.int .i64 c.Num]::Fo) rs (zH c b f g y t K=some r)) ?_ ?_
   ·refine wG<|pr 3 E z λ a E=>cs m (λ o m=>?_) λ o m=>?_
    ·refine pk 3 E (kc 34 z o) z λ a E=>G2 (i:=0) (k:=1) E H l (ws' (d:=34) E z z z z o) z z z z z j z U2 z λ b1 a H E=>?_
     obtain ⟨_,hcs⟩:=H.rd (.head _)
     obtain ⟨P,rfl,-⟩:=dD hcs
     clear hcs
     refine have H:=H.derive1 m0 (rSl aS P b.Events) (λ ok h=>gZ h);?_
     replace E:Env 65 a ((38,.int .i64 b.Count)::_):=E
     exact pk 2 E (kc 34 z o) z λ a E=>nt<|⟨_,_,E.to z,H,(Y2 I),m⟩
    ·exact pk 6 E (kc 34 z o) z λ a E=>nt<|⟨_,_,E.to z,H,I,m⟩
   ·clear E H m
    rintro a w ⟨K,Y,E,H,s,m⟩
    unfold zH at m
    refine wif E m z (λ m=>?_) λ m=>?_
    ·refine sp 3 E z λ a E=>G2 (i:=0) (k:=1) E H l (wn z) z z z z z j z U2 z λ b2 a H E=>?_
     obtain ⟨_,hcs⟩:=H.rd (.head _)
     obtain ⟨Q,rfl,-⟩:=dD hcs
     clear hcs
     refine have H:=H.derive1 m0 (rSl aS Q b.Events) (λ ok h=>gZ h);?_
     replace E:Env 65 a ((44,.int .i64 b.Count)::_):=E
     refine pr 3 E z λ a E=>I9 (i:=0) (k:=1) (us:=[.int .i64 (IntKind.i64.wrap (b.Count+1))]) (y':=({ b with Count:=IntKind.i64.wrap (b.Count+1) }:aE)) E H l (wn z) z z z z z z j z sz2 z (λ ok cs hr h=>by obtain ⟨n,rfl,g1⟩:=dD h;exact mO (x:=({ b with Count:=IntKind.i64.wrap (b.Count+1) }:aE)) g1) λ w H=>nt<|bk m λ A m=>bk m λ B m=>?_
     have hI:dI [Blk q 131 [.int .i64 (IntKind.i64.wrap (b.Count+1)),.int .i64 f,.string g,.int .i64 c.Num]] [] { w with drawn:=w.drawn+1 }:=⟨_,_,H.kept (Kp.drawn _ w _),(aU mm2 (bH)),(bO)⟩
     refine oN _ (.go 0 0 (.go 1 0 (.go 2 0 (.go 3 0 (.go 6 0 (.alt 4 (.alt 5 (.go 7 1 (.go 8 1 (.go 9 2 (.go 10 2 (.go 11 2 .nil))))) 7 (.go 5 1 (.go 8 1 (.go 9 2 (.go 10 2 (.go 11 2 .nil)))))) 7 (.go 4 1 (.go 5 1 (.go 8 1 (.go 9 2 (.go 10 2 (.go 11 2 .nil)))))))))))) [9,10,11] pI (by kernel_rfl) (λ _ _ _ h=>False.elim h.2) hI<|have H:=H.kept (Kp.drawn _ w (w.drawn+1));?_
     generalize ({ w with drawn:=w.drawn+1 }:WD)=w at H hI ⊢
     replace hI:∃ W,dI [Blk q 131 [.int .i64 (IntKind.i64.wrap (b.Count+1)),.int .i64 f,.string g,.int .i64 c.Num]] [] W:=⟨_,hI⟩
     obtain ⟨W0,hI⟩:=hI
     refine om E z λ a E=>om E z λ a E=>ov E z (λ w hW=>(zB E z z)) λ a E=>ov E z (λ w hW=>mM E z z (v:=.pointer (some ⟨D,t.toNat * 3+2,none⟩)) (Xg _ _)) λ a E=>ov E z (λ w hW=>sI E z z (P7 (us:=[.int .i64 (IntKind.i64.wrap (b.Count+1)),.int .i64 f,.string g,.int .i64 c.Num]) m0 z Mj z xL w hW)) λ a E=>oO z z ?_ ?_
     ·refine G2 (i:=0) (k:=2) E H l (wn z) z z z z z (y9 j) z U44 z λ b3 a H E=>?_
      obtain ⟨_,hcs⟩:=H.rd (.head _)
      obtain ⟨N,rfl,-⟩:=dD hcs
      clear hcs
      refine have H:=H.derive1 m0 (rSl aS N (({ b with Count:=IntKind.i64.wrap (b.Count+1) }:aE).Events)) (λ ok h=>gZ h);?_
      replace E:Env 65 a ((52,N)::_):=E
      refine nt<|⟨sx H [2] z,oO z z ?_ ?_⟩
      ·refine xc2 E z (cf_ 76) (eW H m0 A) λ b4 w H a E=>nt<|⟨sx H [3] z,cF z<|xA (e:=131) (d:=aS) (cs:=[.int .i64 (IntKind.i64.wrap (b.Count+1)),.int .i64 f,.string g,.int .i64 c.Num]) (xs:=[(⟨IntKind.i64.wrap (b.Count+1),f,g,c.Num⟩:bU)]) E H (wn z) z z z (E.evs z) (by kernel_rfl) z (λ ok hr=>(Rows.single (d:=aS) (cs:=[.int .i64 (IntKind.i64.wrap (b.Count+1)),.int .i64 f,.string g,.int .i64 c.Num]) (x:=(⟨IntKind.i64.wrap (b.Count+1),f,g,c.Num⟩:bU)) J1)) λ b5 w a H E=>nt<|⟨sx H [3] z,cF z<|fE (i:=0) E H (wn z) z z z z z z (nU m0) U44 Of z B z λ b6 w a H E=>nt<|⟨sx H [3] z,cV z<|pn 1 E z λ a E=>cV z<|pn 1 E z λ a E=>cV z<|?_⟩⟩⟩
       obtain ⟨q70,R,rfl⟩:=H.rowform (i:=0) z
       refine have H:=H.thaw (i:=0) z;I9 (i:=0) (k:=2) (us:=[(.slice q70 ((({ b with Count:=IntKind.i64.wrap (b.Count+1) }:aE).Events) ++ ([(⟨IntKind.i64.wrap (b.Count+1),f,g,c.Num⟩:bU)]:List bU)).length R)]) (y':=({ ({ b with Count:=IntKind.i64.wrap (b.Count+1) }:aE) with Events:=(({ b with Count:=IntKind.i64.wrap (b.Count+1) }:aE).Events) ++ ([(⟨IntKind.i64.wrap (b.Count+1),f,g,c.Num⟩:bU)]:List bU) }:aE)) E H l (wn z) z z z z z z (y9 j) z Uk z (λ ok cs hr h=>by obtain ⟨n,rfl,g1⟩:=dD h;exact mO (x:=({ ({ b with Count:=IntKind.i64.wrap (b.Count+1) }:aE) with Events:=(({ b with Count:=IntKind.i64.wrap (b.Count+1) }:aE).Events) ++ ([(⟨IntKind.i64.wrap (b.Count+1),f,g,c.Num⟩:bU)]:List bU) }:aE)) (hr _ m0)) λ w H=>nt<|fA<|?_
       clear hI
       exact aA<|have H:=H.drop 2;have H:=H.frs [0,1] z;⟨_,_,E.to z,H,(Y6 s),m⟩
      ·refine xA (e:=131) (d:=aS) (cs:=[.int .i64 (IntKind.i64.wrap (b.Count+1)),.int .i64 f,.string g,.int .i64 c.Num]) (xs:=[(⟨IntKind.i64.wrap (b.Count+1),f,g,c.Num⟩:bU)]) E H (wn z) z z z (E.evs z) (by kernel_rfl) z (λ ok hr=>(Rows.single (d:=aS) (cs:=[.int .i64 (IntKind.i64.wrap (b.Count+1)),.int .i64 f,.string g,.int .i64 c.Num]) (x:=(⟨IntKind.i64.wrap (b.Count+1),f,g,c.Num⟩:bU)) J1)) λ b7 w a H E=>nt<|⟨sx H [2] z,cF z<|xc2 E z (cf_ 76) (eW H mm1 A) λ b8 w H a E=>nt<|⟨sx H [3] z,cF z<|fE (i:=0) E H (wn z) z z z z z z (nU m0) U44 Of z B z λ b9 w a H E=>nt<|⟨sx H [3] z,cV z<|pn 1 E z λ a E=>cV z<|pn 1 E z λ a E=>cV z<|?_⟩⟩⟩
       obtain ⟨q79,S,rfl⟩:=H.rowform (i:=0) z
       refine have H:=H.thaw (i:=0) z;I9 (i:=0) (k:=2) (us:=[(.slice q79 ((({ b with Count:=IntKind.i64.wrap (b.Count+1) }:aE).Events) ++ ([(⟨IntKind.i64.wrap (b.Count+1),f,g,c.Num⟩:bU)]:List bU)).length S)]) (y':=({ ({ b with Count:=IntKind.i64.wrap (b.Count+1) }:aE) with Events:=(({ b with Count:=IntKind.i64.wrap (b.Count+1) }:aE).Events) ++ ([(⟨IntKind.i64.wrap (b.Count+1),f,g,c.Num⟩:bU)]:List bU) }:aE)) E H l (wn z) z z z z z z (y9 j) z Uk z (λ ok cs hr h=>by obtain ⟨n,rfl,g1⟩:=dD h;exact mO (x:=({ ({ b with Count:=IntKind.i64.wrap (b.Count+1) }:aE) with Events:=(({ b with Count:=IntKind.i64.wrap (b.Count+1) }:aE).Events) ++ ([(⟨IntKind.i64.wrap (b.Count+1),f,g,c.Num⟩:bU)]:List bU) }:aE)) (hr _ m0)) λ w H=>nt<|fA<|?_
       clear hI
       exact aA<|have H:=H.drop 2;have H:=H.frs [0,1] z;⟨_,_,E.to z,H,(Y6 s),m⟩
     ·refine xA (e:=131) (d:=aS) (cs:=[.int .i64 (IntKind.i64.wrap (b.Count+1)),.int .i64 f,.string g,.int .i64 c.Num]) (xs:=[(⟨IntKind.i64.wrap (b.Count+1),f,g,c.Num⟩:bU)]) E H (wn z) z z z (E.evs z) (by kernel_rfl) z (λ ok hr=>(Rows.single (d:=aS) (cs:=[.int .i64 (IntKind.i64.wrap (b.Count+1)),.int .i64 f,.string g,.int .i64 c.Num]) (x:=(⟨IntKind.i64.wrap (b.Count+1),f,g,c.Num⟩:bU)) J1)) λ c0 w a H E=>nt<|⟨sx H [2] z,cF z<|G2 (i:=0) (k:=2) E H l (wn z) z z z z z (y9 j) z U44 z λ c1 a H E=>?_⟩
      obtain ⟨_,hcs⟩:=H.rd (.head _)
      obtain ⟨O,rfl,-⟩:=dD hcs
      clear hcs
      refine have H:=H.derive1 m0 (rSl aS O (({ b with Count:=IntKind.i64.wrap (b.Count+1) }:aE).Events)) (λ ok h=>gZ h);?_
      replace E:Env 65 a ((52,O)::_):=E
      refine nt<|⟨sx H [2] z,cF z<|xc2 E z (cf_ 76) (eW H m0 A) λ c2 w H a E=>nt<|⟨sx H [3] z,cF z<|fE (i:=0) E H (wn z) z z z z z z (nU mm2) U44 Of z B z λ c3 w a H E=>nt<|⟨sx H [3] z,cV z<|pn 1 E z λ a E=>cV z<|pn 1 E z λ a E=>cV z<|?_⟩⟩⟩
      obtain ⟨q90,T,rfl⟩:=H.rowform (i:=0) z
      refine have H:=H.thaw (i:=0) z;I9 (i:=0) (k:=2) (us:=[(.slice q90 ((({ b with Count:=IntKind.i64.wrap (b.Count+1) }:aE).Events) ++ ([(⟨IntKind.i64.wrap (b.Count+1),f,g,c.Num⟩:bU)]:List bU)).length T)]) (y':=({ ({ b with Count:=IntKind.i64.wrap (b.Count+1) }:aE) with Events:=(({ b with Count:=IntKind.i64.wrap (b.Count+1) }:aE).Events) ++ ([(⟨IntKind.i64.wrap (b.Count+1),f,g,c.Num⟩:bU)]:List bU) }:aE)) E H l (wn z) z z z z z z (y9 j) z Uk z (λ ok cs hr h=>by obtain ⟨n,rfl,g1⟩:=dD h;exact mO (x:=({ ({ b with Count:=IntKind.i64.wrap (b.Count+1) }:aE) with Events:=(({ b with Count:=IntKind.i64.wrap (b.Count+1) }:aE).Events) ++ ([(⟨IntKind.i64.wrap (b.Count+1),f,g,c.Num⟩:bU)]:List bU) }:aE)) (hr _ m0)) λ w H=>nt<|fA<|?_
      clear hI
      exact aA<|have H:=H.drop 2;have H:=H.frs [0,1] z;⟨_,_,E.to z,H,(Y6 s),m⟩
    ·exact wK<|aA<|have H:=H.drop 2;have H:=H.frs [0,1] z;⟨_,_,E.to z,H,s,m⟩
  ·clear E H m
   rintro a w ⟨J,Z,E,H,L,m⟩
   unfold wL at m
   refine sp 1 E z λ a E=>lb2 E H 0 U4 z λ a E=>pr 1 E z λ a E=>cs m (λ C m=>?_) λ C m=>?_
   ·refine pk 4 E (kc 61 z C) z λ a E=>nt<|wR<|o1 E z<|have H:=H.drop 0;?_
    cases m
    exact ⟨z,H.reads L⟩
   ·refine pk 4 E (kc 61 z C) z λ a E=>nt<|wR<|o1 E z<|have H:=H.drop 0;?_
    cases m
    exact ⟨z,H.reads L⟩

def xI(b:Int×Bool)(x1:aO)(e:Int)(g:BY)(c:eD):Option Es:=
  (idx c b.1).bind λ f=>(H8 c b.1 f x1 e g).bind λ d=>some (!d.1,d.2)
def qJ(x1:aO)(d:Int)(e:BY)(c:List aE)(f:Bool):Option Es:=
  if f=true then (some (false,c)) else ((eV c x1.Session).bind λ b=>if (!b.2)=true then ((ck (0 <= b.1/\b.1 <= c.length/\c.length <= 1000000)).bind λ g=>xI b x1 d e (c.take b.1.toNat ++ (⟨x1.Session,0,[]⟩:aE)::c.drop b.1.toNat)) else (xI b x1 d e c))
def uS(x1:aO)(b:BY)(d:List aE)(c:Int):Option Es:=
  if (!(sEq x1.Path b))=true then (if (!x1.Deep)=true then (qJ x1 c b d true) else ((G8 b x1.Path).bind λ e=>qJ x1 c b d (!e))) else (qJ x1 c b d false)
theorem Ds{x1:aO}{g j k:Nat}{l:BY}{A p:VL}{B:List aE}{f:Int}(H:Sep w (Blk g 9 [.string l]::Blk j 73 [p,A]::Row 126 aI A B::Blk k 3 [.int .i64 f]::Fo) rs){r:Bool×eD}(m:uS x1 l B f=some r) :
    Cf 334 [.agg (dP x1).toArray,pt g 0,pt j 0,pt k 0] w λ v w'=>∃ K,.bool r.1=v/\Sep w' (Blk g 9 [.string l]::Blk j 73 [p,K]::Blk k 3 [.int .i64 f]::Row 126 aI K r.2::Fo) (rs):=by
 unfold uS at m
 refine ent func334 z ntmps334 z z λ a E=>sq<|bx E H z λ q w a H E=>pn 1 E z λ a E=>wS<|aJ (λ a w=>∃ s,Jn 52 a w [(1,pt g 0),(2,pt j 0),(3,pt k 0),(4,pt q 0),(23,.bool s)] (Blk g 9 [.string l]::Blk j 73 [p,A]::Blk k 3 [.int .i64 f]::Blk q 35 (dP x1)::Row 126 aI A B::Fo) rs (qJ x1 f l B s=some r)) ?_ ?_
 ·refine wG<|pr 1 E z λ a E=>lb2 E H 0 U9 z λ a E=>lb2 E H 1 U9 z λ a E=>pr 2 E z λ a E=>cs m (λ b m=>?_) λ b m=>?_
  ·refine pk 1 E (kc 12 z b) z λ a E=>gl 12 E H 0 b U4 z λ a E=>pk 2 E (kc 12 z b) z λ a E=>cs m (λ c m=>?_) λ c m=>?_
   ·exact pk 7 E (kc' (kc 16 z c) 12 z b) z λ a E=>nt<|have H:=H.frs [3,1,4,4,4] z;⟨_,_,E.to z,H,Y0,m⟩
   ·refine gl 16 E H 1 c U9 z λ a E=>pk 1 E (kc 16 z c) z λ a E=>gl 16 E H 0 c U9 z λ a E=>bd m λ N D m=>gc 16 E c z (cf_ 65) (Ib H D)<|?_
    rintro _ w ⟨rfl,H⟩ a E
    exact pk 3 E (kc' (kc 16 z c) 12 z b) z λ a E=>nt<|have H:=H.frs [3,1,4,4,4] z;⟨_,_,E.to z,H,Y0,m⟩
  ·exact pk 11 E (kc 12 z b) z λ a E=>nt<|have H:=H.frs [3,1,4,4,4] z;⟨_,_,E.to z,H,Y0,m⟩
 ·clear E H m
  rintro a w ⟨s,L,E,H,n,m⟩
  unfold qJ at m
  refine wif E m z (λ m=>?_) λ m=>?_
  ·refine sq<|pn 1 E z λ a E=>wR<|aG<|o1 E z<|have H:=H.drop 3;?_
   cases m
   exact ⟨_,z,H.reads n⟩
  ·refine wK<|aA<|sp 1 E z λ a E=>lb2 E H 1 U71 z λ a E=>pr 1 E z λ a E=>lb2 E H 3 U2 z λ a E=>have H:=H.frs [3,3,3,3,4] z;bd m λ C F m=>xk2 E z (cf_ 195) (uC H F) λ w H a E=>pn 5 E z λ a E=>aJ (λ a w=>∃ t u,Jn 52 a w [(1,pt g 0),(2,pt j 0),(3,pt k 0),(4,pt q 0),(6,.int .i64 C.1)] (Blk g 9 [.string l]::Blk j 73 [p,t]::Blk k 3 [.int .i64 f]::Blk q 35 (dP x1)::Row 126 aI t u::Fo) rs (xI C x1 f l u=some r)) ?_ ?_
   ·refine sq<|pn 2 E z λ a E=>wif E m z (λ m=>?_) λ m=>?_
    ·refine wG<|pr 1 E z λ a E=>lb2 E H 2 U71 z λ a E=>pr 2 E z λ a E=>lb2 E H 4 U2 z λ a E=>sv2 E z (cH E z (E.evs z) (v:=.agg #[.int .i64 x1.Session,.int .i64 0,nS]) (by kernel_rfl)) λ a E=>kG (e:=126) (d:=aI) (cs:=[.int .i64 x1.Session,.int .i64 0,nS]) (xs:=[(⟨x1.Session,0,[]⟩:aE)]) E H (wn z) z z z (E.evs z) (by kernel_rfl) z z (λ ok hr=>(Rows.single (d:=aI) (cs:=[.int .i64 x1.Session,.int .i64 0,nS]) (x:=(⟨x1.Session,0,[]⟩:aE)) (mO (Sl.nil _ _ _)))) λ O w a H E=>bk m λ G m=>xc2 E z (cf_ 197) (Se.insert_a (ix:=1) (iu:=0) H z z (by decide) G) λ P w H a E=>pr 1 E z λ a E=>?_
     obtain ⟨q33,Q,rfl⟩:=H.rowform (i:=1) z
     exact ss 3 E H z Uj z λ w H=>nt<|have H:=H.drop 0;have H:=H.frs [0,4,4,4,4] z;X3 ⟨E.to z,H,n,m⟩
    ·exact wK<|aA<|have H:=H.frs [0,4,4,4,4] z;X3 ⟨E.to z,H,n,m⟩
   ·clear E H m
    rintro a w ⟨t,u,M,E,H,I,m⟩
    unfold xI at m
    refine wS<|dz [0,0,0,0,0,0,0,1,0,2] [0,1,2,3] H λ w W0 hI H=>fn 1 E z λ a E=>fb2 E mm1 U71 z λ a E=>fn 1 E z λ a E=>bd m λ R o m=>?_
    obtain ⟨S,T,y⟩:=H.rowformNE (i:=4) z o
    refine fv E z (λ w hW=>dG (d:=aI) E y z z z z U71 tO o) λ a E=>fbn E (dP x1) z (wn z) z z z z mm3 z U35 z tN λ a E=>fb2 E mm2 U3 z λ a E=>fb2 E m0 U9 z λ a E=>bQ z<|have H:=H.frs [3,3,3,3,4] z;bd m λ U J m=>xk2 E z (cf_ 335) (Ur o y H J) λ w H a E=>nt<|⟨sx H [1,2,3,4] z,fn 1 E z λ a E=>bL z<|pn 1 E z λ a E=>bB<|?_⟩
    clear hI
    refine aA<|wR<|o1 E z<|have H:=H.drop 4;have H:=H.frs [0,3,3,3] z;?_
    cases m
    exact ⟨_,z,H.reads I⟩

def dM(f:List aO)(g:BY)(d:Int):Nat->Int->eD->Option (Int×eD)
  | 0,_,_=>none
  | j+1,b,e=>
    if (decide (b < (f.length:Int)))=true then ((idx f b).bind λ i=>(uS i g e d).bind λ c=>if c.1=true then (some (b,c.2)) else (dM f g d j (IntKind.i64.wrap (b+1)) c.2)) else (some ((-1),e))
def iK(b:List aO)(d:BY)(e:List aE)(c:Int):Option (Int×eD):=
  dM b d c (((b.length:Int) - 0:Int).toNat+1) 0 e
theorem A3{l A n:VL}{e:List aO}{o p b:Nat}{q:BY}{B:List aE}{c:Int}(H:Sep w (Row 35 aP l e::Blk o 9 [.string q]::Blk p 73 [n,A]::Row 126 aI A B::Blk b 3 [.int .i64 c]::Fo) rs){r:Int×eD}(m:iK e q B c=some r) :
    Cf 268 [l,.func (.func 334) #[] #[pt o 0,pt p 0,pt b 0]] w λ v w'=>∃ C,.int .i64 r.1=v/\Sep w' (Blk o 9 [.string q]::Blk p 73 [n,C]::Blk b 3 [.int .i64 c]::Row 35 aP l e::Row 126 aI C r.2::Fo) (rs):=by
 unfold iK at m
 refine ent func268 z ntmps268 z z λ a E=>sq<|pn 1 E z λ a E=>wS<|sp 1 E z λ a E=>sv2 E z (mV (i:=0) E H z z z U70) λ a E=>pr 1 E z λ a E=>nt<|wB<|bG (λ k a w=>∃ s t u,Jn 19 a w [(0,l),(1,.func (.func 334) #[] #[pt o 0,pt p 0,pt b 0]),(7,.int .i64 (e.length:Int)),(8,.int .i64 t)] (Row 35 aP l e::Blk o 9 [.string q]::Blk p 73 [n,s]::Blk b 3 [.int .i64 c]::Row 126 aI s u::Fo) rs (dM e q c k t u=some r)) (((e.length:Int) - 0:Int).toNat+1) ?_ ?_
 ·exact have H:=H.frs [3,4,4,4,4] z;X4 ⟨E.to z,H,Y0,m⟩
 ·clear E H m
  rintro k a w ⟨s,t,u,D,E,H,f,m⟩
  cases k with
  | zero=>exact (bE m z).elim
  | succ k=>
   unfold dM at m
   refine sq<|pn 1 E z λ a E=>wS<|wif E m z (λ m=>?_) λ m=>?_
   ·refine wK<|aA<|wS<|wB<|sp 2 E z λ a E=>xp 3 E z λ a E=>bd m λ j g m=>?_
    obtain ⟨F,G,x⟩:=H.rowformNE (i:=0) z g
    refine sv2 E z (dG (d:=aP) E x z z z z U70 tN g) λ a E=>sv2 E z (kH (i:=0) E H lA x z z z g (us:=[.int .i64 j.Session,.int .i64 j.Num,.string j.Path,.bool j.Deep]) z U35 z tN) λ a E=>have H:=H.frs [0,3,4,4,4] z;bd m λ I y m=>bK E (wn z) z z (bN E z z z ((cf_ 334) _)) (Ds H y)<|?_
    rintro _ w ⟨J,rfl,H⟩ a E
    refine nt<|wif E m z (λ m=>?_) λ m=>?_
    ·refine sq<|pn 2 E z λ a E=>wR<|bD<|aG<|aG<|bD<|aG<|o1 E z<|have H:=H.frs [3,4,4,4,4] z;?_
     cases m
     exact ⟨_,z,H.reads f⟩
    ·exact wK<|bP<|aA<|wG<|pn 2 E z λ a E=>have H:=H.frs [3,3,3,3,4] z;⟨k,nL k,X4 ⟨E.to z,H,f,m⟩⟩
   ·refine wX<|aT<|aT<|cL<|aA<|sq<|pn 1 E z λ a E=>wR<|o1 E z<|have H:=H.frs [4,1,4,4,4] z;?_
    cases m
    exact ⟨_,z,H.reads f⟩

def fN(rec_1:fQ->Int->Int->eD->Option Q6)(b:Int)(c:fQ)(d:Int)(e:eD):Option Q6:=
  rec_1 c d (IntKind.i64.wrap (b+1)) e
def cO(j:BY)(e:Int):Nat->fQ->Int->Int->eD->Option Q6
  | 0,_,_,_,_=>none
  | k+1,c,b,d,g=>
    if (decide (d < (c.length:Int)))=true then ((idx c d).bind λ i=>(uS i j g e).bind λ f=>if (!f.1)=true then ((idx c b).bind λ l=>fN (cO j e k) d (c.set b.toNat i) (IntKind.i64.wrap (b+1)) f.2) else (fN (cO j e k) d c b f.2)) else ((ck (0 <= b/\b <= c.length)).bind λ m=>(ck (0 <= b/\b <= (c.take b.toNat ++ List.replicate (c.length - b.toNat) (⟨0,0,⟨#[]⟩,false⟩:aO)).length)).bind λ n=>some ((c.take b.toNat ++ List.replicate (c.length - b.toNat) (⟨0,0,⟨#[]⟩,false⟩:aO)).take b.toNat,g))
def gM(c:List aO)(e:BY)(f:List aE)(d:Int):Option Q6:=
  (iK c e f d).bind λ b=>if (b.1 == (-1))=true then (some (c,b.2)) else (cO e d (((c.length:Int) - (IntKind.i64.wrap (b.1+1)):Int).toNat+1) c b.1 (IntKind.i64.wrap (b.1+1)) b.2)
theorem C4{s O q:VL}{J:List aO}{g j c:Nat}{k:BY}{P:List aE}{e:Int}(H:Sep w (Row 35 aP s J::Blk g 9 [.string k]::Blk j 73 [q,O]::Row 126 aI O P::Blk c 3 [.int .i64 e]::Fo) rs){r:fQ×eD}(m:gM J k P e=some r) :
    Cf 333 [s,.func (.func 334) #[] #[pt g 0,pt j 0,pt c 0]] w λ v w'=>∃ Q R,Q=v/\Sep w' (Row 35 aP Q r.1::Blk g 9 [.string k]::Blk j 73 [q,R]::Blk c 3 [.int .i64 e]::Row 126 aI R r.2::Fo) (rs):=by
 unfold gM at m
 refine ent func333 z ntmps333 z z λ a E=>sp 1 E z λ a E=>xp 2 E z λ a E=>bd m λ S K m=>xc2 E z (cf_ 268) (A3 H K)<|?_
 rintro _ w ⟨V,rfl,H⟩ a E
 refine pn 1 E z λ a E=>wS<|sq<|pn 2 E z λ a E=>wif E m z (λ m=>?_) λ m=>?_
 ·refine sq<|pn 2 E z λ a E=>wR<|aG<|o1 E z<|have H:=H.frs [4,3,3,3,4] z;?_
  cases m
  exact ⟨_,_,z,H.reads Y0⟩
 ·refine wK<|aA<|wS<|sq<|pn 3 E z λ a E=>wB<|bG (λ l a w=>∃ t u x f y,Jn 42 a w [(0,s),(1,.func (.func 334) #[] #[pt g 0,pt j 0,pt c 0]),(5,.int .i64 x),(6,.int .i64 f)] (Row 35 aP s u::Blk g 9 [.string k]::Blk j 73 [q,t]::Blk c 3 [.int .i64 e]::Row 126 aI t y::Fo) rs (cO k e l u x f y=some r)) (((J.length:Int) - (IntKind.i64.wrap (S.1+1)):Int).toNat+1) ?_ ?_
  ·exact have H:=H.frs [4,3,3,3,4] z;X6 ⟨E.to z,H,Y0,m⟩
  ·clear E H m
   rintro l a w ⟨t,u,x,f,y,T,E,H,n,m⟩
   cases l with
   | zero=>exact (bE m z).elim
   | succ l=>
    unfold cO at m
    refine wS<|sp 2 E z λ a E=>sv2 E z (mV (i:=0) E H z z z U70) λ a E=>pn 1 E z λ a E=>wif E m z (λ m=>?_) λ m=>?_
    ·refine wK<|aA<|aJ (λ a w=>∃ A B C D,Jn 42 a w [(0,s),(1,.func (.func 334) #[] #[pt g 0,pt j 0,pt c 0]),(5,.int .i64 C),(6,.int .i64 f)] (Row 35 aP s B::Blk g 9 [.string k]::Blk j 73 [q,A]::Blk c 3 [.int .i64 e]::Row 126 aI A D::Fo) rs (fN (cO k e l) f B C D=some r)) ?_ ?_
     ·refine wB<|sp 2 E z λ a E=>bd m λ b o m=>?_
      obtain ⟨W,X,F⟩:=H.rowformNE (i:=0) z o
      refine sv2 E z (dG (d:=aP) E F z z z z U70 tN o) λ a E=>sv2 E z (kH (i:=0) E H lA F z z z o (us:=[.int .i64 b.Session,.int .i64 b.Num,.string b.Path,.bool b.Deep]) z U35 z tN) λ a E=>al2 E H z DS λ Y w a H E=>ss 0 E H z tN z λ w H=>xp 1 E z λ a E=>ln 0 (dP b) E H U35 z tN λ a E=>have H:=H.frs [1,1,4,5,5,5] z;bd m λ Z L m=>bK E (wn z) z z (bN E z z z ((cf_ 334) _)) (Ds H L)<|?_
      rintro _ w ⟨b0,rfl,H⟩ a E
      refine pn 1 E z λ a E=>wif E m z (λ m=>?_) λ m=>?_
      ·refine sp 2 E z λ a E=>ln 4 (dP b) E H U35 z tN λ a E=>bd m λ b1 p m=>?_
       obtain ⟨b2,b3,G⟩:=H.rowformNE (i:=5) z p
       exact sv2 E z (dG (d:=aP) E G z z z z U70 tN p) λ a E=>P8 (d:=aP) (i:=5) (us:=[.int .i64 b.Session,.int .i64 b.Num,.string b.Path,.bool b.Deep]) (z':=b) E H lA (wn z) z G z z z z z z z p tN λ w H=>nt<|wG<|pr 3 E z λ a E=>wN<|bP<|aA<|have H:=H.drop 4;have H:=H.frs [3,3,3,3,4] z;X5 ⟨E.to z,H,n,m⟩
      ·exact wK<|bP<|aA<|have H:=H.drop 4;have H:=H.frs [3,3,3,3,4] z;X5 ⟨E.to z,H,n,m⟩
     ·clear E H m
      rintro a w ⟨A,B,C,D,U,E,H,M,m⟩
      unfold fN at m
      exact wG<|pn 3 E z λ a E=>⟨l,nL l,X6 ⟨E.to z,H,M,m⟩⟩
    ·refine wX<|aT<|aT<|cL<|aA<|sp 2 E z λ a E=>bk m λ I m=>sv2 E z (Ek (d:=aP) (i:=0) E H z z z z U70 tN I) λ a E=>V9 (i:=0) (z0:=(⟨0,0,⟨#[]⟩,false⟩:aO)) E H lA (wn z) z z z U70 PK z z z I λ w H=>xp 2 E z λ a E=>bk m λ N m=>Bn (i:=0) E H lA (wn z) z z z z z z U70 tN N λ b4 a H E=>pn 1 E z λ a E=>wR<|o1 E z<|?_
     cases m
     exact ⟨_,_,z,H.reads n⟩

def rX(x1:Int):Option Bool:=
  if (decide (x1 ≥ 1))=true then (some (decide (x1 <= 281474976710656))) else (some (false))
theorem K3{x1:Int}(H:Sep w (Fo) rs){r:Bool}(m:rX x1=some r) :
    Cf 267 [.int .i64 x1] w λ v w'=>.bool r=v/\Sep w' (Fo) (rs):=by
 unfold rX at m
 refine ent func267 z ntmps267 z z λ a E=>sp 1 E z λ a E=>xp 3 E z λ a E=>cs m (λ b m=>?_) λ b m=>?_
 ·refine pk 4 E (kc 5 z b) z λ a E=>nt<|wR<|o1 E z<|?_
  cases m
  exact ⟨z,H.reads Y0⟩
 ·refine pk 4 E (kc 5 z b) z λ a E=>nt<|wR<|o1 E z<|?_
  cases m
  exact ⟨z,H.reads Y0⟩

def kT(rec_1:Int->Option Bool)(c:Int)(b:Bool):Option Bool:=
  if b=true then (some (false)) else (rec_1 (IntKind.i64.wrap (c+1)))
def fO(x1:aE):Nat->Int->Option Bool
  | 0,_=>none
  | d+1,c=>
    if (decide (c < (x1.Events.length:Int)))=true then ((idx x1.Events c).bind λ b=>if (b.Num != (IntKind.i64.wrap ((IntKind.i64.wrap ((IntKind.i64.wrap (x1.Count - (x1.Events.length:Int)))+1))+c)))=true then (kT (fO x1 d) c true) else (if (decide (b.Num < 1))=true then (kT (fO x1 d) c true) else (if (decide (b.Kind < 1))=true then (kT (fO x1 d) c true) else (if (decide (b.Kind > 4))=true then (kT (fO x1 d) c true) else ((gH b.Path).bind λ e=>if (!e)=true then (kT (fO x1 d) c true) else ((rX b.Watch).bind λ f=>kT (fO x1 d) c (!f))))))) else (some (true))
def oV(x1:aE)(b:Bool):Option Bool:=
  if b=true then (some (false)) else (fO x1 (((x1.Events.length:Int) - 0:Int).toNat+1) 0)
def zI(x1:aE):Option Bool:=
  (rX x1.Num).bind λ b=>if (!b)=true then (oV x1 true) else (if (decide (x1.Count < 0))=true then (oV x1 true) else (if (decide (x1.Count > 281474976710656))=true then (oV x1 true) else (oV x1 (decide ((x1.Events.length:Int) > 8)))))
theorem Oy{x1:aE}{p:VL}(H:Sep w (Fo) rs)(n:rSl aS p x1.Events ∈ rs){r:Bool}(m:zI x1=some r) :
    Cf 266 [.agg (kE x1 p).toArray] w λ v w'=>.bool r=v/\Sep w' (Fo) (rs):=by
 unfold zI at m
 refine ent func266 z ntmps266 z z λ a E=>sq<|bx E H z λ C w a H E=>pn 1 E z λ a E=>wS<|aJ (λ a w=>∃ u,Jn 75 a w [(1,pt C 0),(25,.bool u)] (Blk C 126 (kE x1 p)::Fo) rs (oV x1 u=some r)) ?_ ?_
 ·refine wG<|pr 1 E z λ a E=>lb2 E H 0 U2 z λ a E=>bd m λ F x m=>xk2 E z (cf_ 267) (K3 H x) λ w H a E=>pr 2 E z λ a E=>cs m (λ f m=>?_) λ f m=>?_
  ·exact pk 15 E (kc 10 z f) z λ a E=>nt<|⟨_,_,E.to z,H,Y0,m⟩
  ·refine pk 1 E (kc 10 z f) z λ a E=>gl 10 E H 0 f U2 z λ a E=>pk 3 E (kc 10 z f) z λ a E=>cs m (λ g m=>?_) λ g m=>?_
   ·exact pk 10 E (kc 15 z g) z λ a E=>nt<|⟨_,_,E.to z,H,Y0,m⟩
   ·refine pk 1 E (kc 15 z g) z λ a E=>gl 15 E H 0 g U2 z λ a E=>pk 3 E (kc 15 z g) z λ a E=>cs m (λ c m=>?_) λ c m=>?_
    ·exact pk 5 E (kc 20 z c) z λ a E=>nt<|⟨_,_,E.to z,H,Y0,m⟩
    ·exact pk 1 E (kc 20 z c) z λ a E=>gl 20 E H 0 c U44 z λ a E=>gv 20 E c z (zC E H z z n U44) λ a E=>pk 2 E (kc 20 z c) z λ a E=>nt<|⟨_,_,E.to z,H,Y0,m⟩
 ·clear E H m
  rintro a w ⟨u,G,E,H,o,m⟩
  unfold oV at m
  refine wif E m z (λ m=>?_) λ m=>?_
  ·refine sq<|pn 1 E z λ a E=>wR<|aG<|o1 E z<|have H:=H.drop 0;?_
   cases m
   exact ⟨z,H.reads o⟩
  ·refine wK<|aA<|sp 1 E z λ a E=>lb2 E H 0 U2 z λ a E=>pr 1 E z λ a E=>lb2 E H 0 U44 z λ a E=>lS E H (o _ n) U44 z λ a E=>pr 3 E z λ a E=>nt<|wS<|sp 1 E z λ a E=>lb2 E H 0 U44 z λ a E=>lS E H (o _ n) U44 z λ a E=>pn 1 E z λ a E=>wB<|bG (λ l a w=>∃ q,Jn 75 a w [(3,.int .i64 (IntKind.i64.wrap ((IntKind.i64.wrap (x1.Count - (x1.Events.length:Int)))+1))),(34,p),(35,.int .i64 (x1.Events.length:Int)),(36,.int .i64 q)] (Fo) rs (fO x1 l q=some r)) (((x1.Events.length:Int) - 0:Int).toNat+1) ?_ ?_
   ·exact have H:=H.drop 0;⟨_,_,E.to z,H,o,m⟩
   ·clear E H m
    rintro l a w ⟨q,I,E,H,b,m⟩
    cases l with
    | zero=>exact (bE m z).elim
    | succ l=>
     unfold fO at m
     refine sq<|pn 1 E z λ a E=>wS<|wif E m z (λ m=>?_) λ m=>?_
     ·refine wK<|aA<|wS<|wB<|sp 1 E z λ a E=>bd m λ J y m=>dB E H (wn z) z z z z z (b _ n) U44 xL y λ q13 a H E=>ldf rM E H z z z z z m0 Mj z xL λ a E=>al2 E H z Sk λ K w a H E=>pr 1 E z λ a E=>ss 0 E H z xL z λ w H=>nt<|aJ (λ a w=>∃ s,Jn 75 a w [(3,.int .i64 (IntKind.i64.wrap ((IntKind.i64.wrap (x1.Count - (x1.Events.length:Int)))+1))),(34,p),(35,.int .i64 (x1.Events.length:Int)),(36,.int .i64 q),(73,.bool s)] (Fo) rs (kT (fO x1 l) q s=some r)) ?_ ?_
      ·refine wG<|pr 1 E z λ a E=>lb2 E H 0 U2 z λ a E=>pr 5 E z λ a E=>cs m (λ i m=>?_) λ i m=>?_
       ·exact pk 26 E (kc 47 z i) z λ a E=>nt<|have H:=H.drop 0;⟨_,_,E.to z,H,(Y1 b),m⟩
       ·refine pk 1 E (kc 47 z i) z λ a E=>gl 47 E H 0 i U2 z λ a E=>pk 3 E (kc 47 z i) z λ a E=>cs m (λ j m=>?_) λ j m=>?_
        ·exact pk 21 E (kc 52 z j) z λ a E=>nt<|have H:=H.drop 0;⟨_,_,E.to z,H,(Y1 b),m⟩
        ·refine pk 1 E (kc 52 z j) z λ a E=>gl 52 E H 0 j U3 z λ a E=>pk 3 E (kc 52 z j) z λ a E=>cs m (λ k m=>?_) λ k m=>?_
         ·exact pk 16 E (kc 57 z k) z λ a E=>nt<|have H:=H.drop 0;⟨_,_,E.to z,H,(Y1 b),m⟩
         ·refine pk 1 E (kc 57 z k) z λ a E=>gl 57 E H 0 k U3 z λ a E=>pk 3 E (kc 57 z k) z λ a E=>cs m (λ d m=>?_) λ d m=>?_
          ·exact pk 11 E (kc 62 z d) z λ a E=>nt<|have H:=H.drop 0;⟨_,_,E.to z,H,(Y1 b),m⟩
          ·refine pk 1 E (kc 62 z d) z λ a E=>gl 62 E H 0 d U9 z λ a E=>bd m λ L A m=>gc 62 E d z (cf_ 83) (kK H A)<|?_
           rintro _ w ⟨rfl,H⟩ a E
           refine pk 3 E (kc 62 z d) z λ a E=>cs m (λ e m=>?_) λ e m=>?_
           ·exact pk 5 E (kc 68 z e) z λ a E=>nt<|have H:=H.drop 0;⟨_,_,E.to z,H,(Y1 b),m⟩
           ·refine pk 1 E (kc 68 z e) z λ a E=>gl 68 E H 0 e U2 z λ a E=>bd m λ M B m=>gc 68 E e z (cf_ 267) (K3 H B)<|?_
            rintro _ w ⟨rfl,H⟩ a E
            exact pk 2 E (kc 68 z e) z λ a E=>nt<|have H:=H.drop 0;⟨_,_,E.to z,H,(Y1 b),m⟩
      ·clear E H m
       rintro a w ⟨s,D,E,H,t,m⟩
       unfold kT at m
       refine wif E m z (λ m=>?_) λ m=>?_
       ·refine sq<|pn 1 E z λ a E=>wR<|bD<|aG<|aG<|bD<|aG<|o1 E z<|?_
        cases m
        exact ⟨z,H.reads t⟩
       ·exact wK<|bP<|aA<|wG<|pn 2 E z λ a E=>⟨l,nL l,_,_,E.to z,H,t,m⟩
     ·refine wX<|aT<|aT<|cL<|aA<|sq<|pn 1 E z λ a E=>wR<|o1 E z<|?_
      cases m
      exact ⟨z,H.reads b⟩

def lE(x1:aE):Option Bool:=
  (zI x1).bind λ b=>some (!b)
theorem Ah{x1:aE}{b:VL}{c:Nat}(H:Sep w (Blk c 124 [.func (.func 266) #[] #[]]::Fo) rs)(d:rSl aS b x1.Events ∈ rs){r:Bool}(m:lE x1=some r) :
    Cf 319 [.agg (kE x1 b).toArray,pt c 0] w λ v w'=>.bool r=v/\Sep w' (Blk c 124 [.func (.func 266) #[] #[]]::Fo) (rs):=by
 unfold lE at m
 refine ent func319 z ntmps319 z z λ a E=>sq<|bx E H z λ f w a H E=>pr 1 E z λ a E=>nx<|lb2 E H 1 QC z λ a E=>ln 0 (kE x1 b) E H Mi z tO λ a E=>bd m λ g e m=>bK E (wn z) z z (bN E z z z ((cf_ 266) _)) (Oy H d e)<|?_
 rintro _ w ⟨rfl,H⟩ a E
 refine pn 2 E z λ a E=>wR<|o1 E z<|have H:=H.drop 0;?_
 cases m
 exact ⟨z,H.reads Y0⟩

def dW(c:List aE):Nat->Int->Option Int
  | 0,_=>none
  | e+1,b=>
    if (decide (b < (c.length:Int)))=true then ((idx c b).bind λ f=>(lE f).bind λ d=>if d=true then (some (b)) else (dW c e (IntKind.i64.wrap (b+1)))) else (some ((-1)))
def hX(b:List aE):Option Int:=
  dW b (((b.length:Int) - 0:Int).toNat+1) 0
theorem s8{g:VL}{d:List aE}{e:Nat}(H:Sep w (Blk e 124 [.func (.func 266) #[] #[]]::Fo) rs)(f:rSl aI g d ∈ rs){r:Int}(m:hX d=some r) :
    Cf 350 [g,.func (.func 319) #[] #[pt e 0]] w λ v w'=>.int .i64 r=v/\Sep w' (Blk e 124 [.func (.func 266) #[] #[]]::Fo) (rs):=by
 unfold hX at m
 refine ent func350 z ntmps350 z z λ a E=>sq<|pn 1 E z λ a E=>wS<|sp 1 E z λ a E=>lS E H f U71 z λ a E=>pr 1 E z λ a E=>nt<|wB<|bG (λ c a w=>∃ i,Jn 19 a w [(0,g),(1,.func (.func 319) #[] #[pt e 0]),(7,.int .i64 (d.length:Int)),(8,.int .i64 i)] (Blk e 124 [.func (.func 266) #[] #[]]::Fo) rs (dW d c i=some r)) (((d.length:Int) - 0:Int).toNat+1) ?_ ?_
 ·exact ⟨_,_,E.to z,H,Y0,m⟩
 ·clear E H m
  rintro c a w ⟨i,l,E,H,b,m⟩
  cases c with
  | zero=>exact (bE m z).elim
  | succ c=>
   unfold dW at m
   refine sq<|pn 1 E z λ a E=>wS<|wif E m z (λ m=>?_) λ m=>?_
   ·refine wK<|aA<|wS<|wB<|sp 2 E z λ a E=>xp 3 E z λ a E=>bd m λ q k m=>dB E H (wn z) z z z z z (b _ f) U71 tO k λ q10 a H E=>Ar E H (wn z) z z z z m0 Mi z tO λ n a H E=>?_
    obtain ⟨o,rfl,h⟩:=Z6 H;clear H;have H:=h
    refine bd m λ p j m=>bK E (wn z) z z (bN E z z z ((cf_ 319) _)) (Ah H m0 j)<|?_
    rintro _ w ⟨rfl,H⟩ a E
    refine nt<|wif E m z (λ m=>?_) λ m=>?_
    ·refine sq<|pn 2 E z λ a E=>wR<|bD<|aG<|aG<|bD<|aG<|o1 E z<|?_
     cases m
     exact ⟨z,H.reads (Y3 b)⟩
    ·exact wK<|bP<|aA<|wG<|pn 2 E z λ a E=>⟨c,nL c,_,_,E.to z,H,(Y3 b),m⟩
   ·refine wX<|aT<|aT<|cL<|aA<|sq<|pn 1 E z λ a E=>wR<|o1 E z<|?_
    cases m
    exact ⟨z,H.reads b⟩

def gS(b:List aE):Option Bool:=
  (hX b).bind λ c=>some (decide (c ≥ 0))
theorem zJ{c:VL}{d:List aE}{b:Nat}(H:Sep w (Blk b 124 [.func (.func 266) #[] #[]]::Fo) rs)(e:rSl aI c d ∈ rs){r:Bool}(m:gS d=some r) :
    Cf 318 [c,.func (.func 319) #[] #[pt b 0]] w λ v w'=>.bool r=v/\Sep w' (Blk b 124 [.func (.func 266) #[] #[]]::Fo) (rs):=by
 unfold gS at m
 refine ent func318 z ntmps318 z z λ a E=>sp 1 E z λ a E=>xp 2 E z λ a E=>bd m λ g f m=>xk2 E z (cf_ 350) (s8 H e f) λ w H a E=>pn 2 E z λ a E=>wR<|o1 E z<|?_
 cases m
 exact ⟨z,H.reads Y0⟩

def qA(b:List aE):Option Bool:=
  (gS b).bind λ c=>some (!c)
theorem Bj{b:VL}{c:List aE}(H:Sep w (Fo) rs)(d:rSl aI b c ∈ rs){r:Bool}(m:qA c=some r) :
    Cf 265 [b,.func (.func 266) #[] #[]] w λ v w'=>.bool r=v/\Sep w' (Fo) (rs):=by
 unfold qA at m
 refine ent func265 z ntmps265 z z λ a E=>sq<|bx E H z λ f w a H E=>pr 1 E z λ a E=>xp 1 E z λ a E=>sv2 E z (nT E z z z) λ a E=>bd m λ g e m=>xk2 E z (cf_ 318) (zJ H d e) λ w H a E=>pn 2 E z λ a E=>wR<|o1 E z<|have H:=H.drop 0;?_
 cases m
 exact ⟨z,H.reads Y0⟩

def yY(x1:aO):Option Bool:=
  (rX x1.Session).bind λ b=>if b=true then ((rX x1.Num).bind λ c=>if c=true then ((gH x1.Path).bind λ d=>some (d)) else (some (false))) else (some (false))
theorem Ga{x1:aO}(H:Sep w (Fo) rs){r:Bool}(m:yY x1=some r) :
    Cf 193 [.agg (dP x1).toArray] w λ v w'=>.bool r=v/\Sep w' (Fo) (rs):=by
 unfold yY at m
 refine ent func193 z ntmps193 z z λ a E=>sq<|bx E H z λ g w a H E=>pr 1 E z λ a E=>xp 1 E z λ a E=>lb2 E H 0 U2 z λ a E=>bd m λ i e m=>xk2 E z (cf_ 267) (K3 H e) λ w H a E=>pr 1 E z λ a E=>cs m (λ b m=>?_) λ b m=>?_
 ·refine pk 1 E (kc 6 z b) z λ a E=>gl 6 E H 0 b U2 z λ a E=>bd m λ j f m=>gc 6 E b z (cf_ 267) (K3 H f)<|?_
  rintro _ w ⟨rfl,H⟩ a E
  refine pk 2 E (kc 6 z b) z λ a E=>cs m (λ c m=>?_) λ c m=>?_
  ·refine pk 1 E (kc 11 z c) z λ a E=>gl 11 E H 0 c U9 z λ a E=>bd m λ k d m=>gc 11 E c z (cf_ 83) (kK H d)<|?_
   rintro _ w ⟨rfl,H⟩ a E
   refine pk 2 E (kc 11 z c) z λ a E=>nt<|wR<|o1 E z<|have H:=H.drop 0;?_
   cases m
   exact ⟨z,H.reads Y0⟩
  ·refine pk 5 E (kc 11 z c) z λ a E=>nt<|wR<|o1 E z<|have H:=H.drop 0;?_
   cases m
   exact ⟨z,H.reads Y0⟩
 ·refine pk 10 E (kc 6 z b) z λ a E=>nt<|wR<|o1 E z<|have H:=H.drop 0;?_
  cases m
  exact ⟨z,H.reads Y0⟩

def mD(x1:aO):Option Bool:=
  (yY x1).bind λ b=>some (!b)
theorem Bk{x1:aO}{b:Nat}(H:Sep w (Blk b 236 [.func (.func 193) #[] #[]]::Fo) rs){r:Bool}(m:mD x1=some r) :
    Cf 317 [.agg (dP x1).toArray,pt b 0] w λ v w'=>.bool r=v/\Sep w' (Blk b 236 [.func (.func 193) #[] #[]]::Fo) (rs):=by
 unfold mD at m
 refine ent func317 z ntmps317 z z λ a E=>sq<|bx E H z λ d w a H E=>pr 1 E z λ a E=>nx<|lb2 E H 1 QB z λ a E=>ln 0 (dP x1) E H U35 z tN λ a E=>bd m λ e c m=>bK E (wn z) z z (bN E z z z ((cf_ 193) _)) (Ga H c)<|?_
 rintro _ w ⟨rfl,H⟩ a E
 refine pn 2 E z λ a E=>wR<|o1 E z<|have H:=H.drop 0;?_
 cases m
 exact ⟨z,H.reads Y0⟩

def eO(c:List aO):Nat->Int->Option Int
  | 0,_=>none
  | e+1,b=>
    if (decide (b < (c.length:Int)))=true then ((idx c b).bind λ f=>(mD f).bind λ d=>if d=true then (some (b)) else (eO c e (IntKind.i64.wrap (b+1)))) else (some ((-1)))
def jL(b:List aO):Option Int:=
  eO b (((b.length:Int) - 0:Int).toNat+1) 0
theorem E3{g:VL}{d:List aO}{e:Nat}(H:Sep w (Blk e 236 [.func (.func 193) #[] #[]]::Fo) rs)(f:rSl aP g d ∈ rs){r:Int}(m:jL d=some r) :
    Cf 268 [g,.func (.func 317) #[] #[pt e 0]] w λ v w'=>.int .i64 r=v/\Sep w' (Blk e 236 [.func (.func 193) #[] #[]]::Fo) (rs):=by
 unfold jL at m
 refine ent func268 z ntmps268 z z λ a E=>sq<|pn 1 E z λ a E=>wS<|sp 1 E z λ a E=>lS E H f U70 z λ a E=>pr 1 E z λ a E=>nt<|wB<|bG (λ c a w=>∃ i,Jn 19 a w [(0,g),(1,.func (.func 317) #[] #[pt e 0]),(7,.int .i64 (d.length:Int)),(8,.int .i64 i)] (Blk e 236 [.func (.func 193) #[] #[]]::Fo) rs (eO d c i=some r)) (((d.length:Int) - 0:Int).toNat+1) ?_ ?_
 ·exact ⟨_,_,E.to z,H,Y0,m⟩
 ·clear E H m
  rintro c a w ⟨i,l,E,H,b,m⟩
  cases c with
  | zero=>exact (bE m z).elim
  | succ c=>
   unfold eO at m
   refine sq<|pn 1 E z λ a E=>wS<|wif E m z (λ m=>?_) λ m=>?_
   ·refine wK<|aA<|wS<|wB<|sp 2 E z λ a E=>xp 3 E z λ a E=>bd m λ o k m=>dB E H (wn z) z z z z z (b _ f) U70 tN k λ q10 a H E=>ldf lA E H z z z z z m0 U35 z tN λ a E=>bd m λ n j m=>bK E (wn z) z z (bN E z z z ((cf_ 317) _)) (Bk H j)<|?_
    rintro _ w ⟨rfl,H⟩ a E
    refine nt<|wif E m z (λ m=>?_) λ m=>?_
    ·refine sq<|pn 2 E z λ a E=>wR<|bD<|aG<|aG<|bD<|aG<|o1 E z<|?_
     cases m
     exact ⟨z,H.reads (Y1 b)⟩
    ·exact wK<|bP<|aA<|wG<|pn 2 E z λ a E=>⟨c,nL c,_,_,E.to z,H,(Y1 b),m⟩
   ·refine wX<|aT<|aT<|cL<|aA<|sq<|pn 1 E z λ a E=>wR<|o1 E z<|?_
    cases m
    exact ⟨z,H.reads b⟩

def iE(b:List aO):Option Bool:=
  (jL b).bind λ c=>some (decide (c ≥ 0))
theorem y0{c:VL}{d:List aO}{b:Nat}(H:Sep w (Blk b 236 [.func (.func 193) #[] #[]]::Fo) rs)(e:rSl aP c d ∈ rs){r:Bool}(m:iE d=some r) :
    Cf 316 [c,.func (.func 317) #[] #[pt b 0]] w λ v w'=>.bool r=v/\Sep w' (Blk b 236 [.func (.func 193) #[] #[]]::Fo) (rs):=by
 unfold iE at m
 refine ent func316 z ntmps316 z z λ a E=>sp 1 E z λ a E=>xp 2 E z λ a E=>bd m λ g f m=>xk2 E z (cf_ 268) (E3 H e f) λ w H a E=>pn 2 E z λ a E=>wR<|o1 E z<|?_
 cases m
 exact ⟨z,H.reads Y0⟩

def rY(b:List aO):Option Bool:=
  (iE b).bind λ c=>some (!c)
theorem Dt{b:VL}{c:List aO}(H:Sep w (Fo) rs)(d:rSl aP b c ∈ rs){r:Bool}(m:rY c=some r) :
    Cf 264 [b,.func (.func 193) #[] #[]] w λ v w'=>.bool r=v/\Sep w' (Fo) (rs):=by
 unfold rY at m
 refine ent func264 z ntmps264 z z λ a E=>sq<|bx E H z λ f w a H E=>pr 1 E z λ a E=>xp 1 E z λ a E=>sv2 E z (nT E z z z) λ a E=>bd m λ g e m=>xk2 E z (cf_ 316) (y0 H d e) λ w H a E=>pn 2 E z λ a E=>wR<|o1 E z<|have H:=H.drop 0;?_
 cases m
 exact ⟨z,H.reads Y0⟩

def A4(rec_1:Int->Sr->Option Bool)(c:Int)(b:Sr):Option Bool:=
  rec_1 (IntKind.i64.wrap (c+1)) b
def yJ(rec_2:Bool->Int->Option Bool)(b:Int)(c:Bool):Option Bool:=
  rec_2 c (IntKind.i64.wrap (b+1))
def jC(x1:aV)(d:Sr):Nat->Bool->Int->Option Bool
  | 0,_,_=>none
  | e+1,c,b=>
    if (decide (b < (x1.Sessions.length:Int)))=true then (if c=true then ((idx x1.Sessions (IntKind.i64.wrap (b - 1))).bind λ f=>(idx x1.Sessions b).bind λ g=>yJ (jC x1 d e) b (decide (f.Num < g.Num))) else (yJ (jC x1 d e) b false)) else (if (decide ((x1.Watches.length:Int) <= 64))=true then (if ((d.length:Int) == (x1.Watches.length:Int))=true then ((rY x1.Watches).bind λ i=>if i=true then ((qA x1.Sessions).bind λ j=>if j=true then (some (c)) else (some (false))) else (some (false))) else (some (false))) else (some (false)))
def oW(x1:aV):Nat->Int->Sr->Option Bool
  | 0,_,_=>none
  | f+1,d,c=>
    if (decide (d < (x1.Watches.length:Int)))=true then ((idx x1.Watches d).bind λ b=>(mlk L2 c (b.Session,b.Num)).bind λ e=>(ck (L2.ok (b.Session,b.Num)=true/\c.length+1 < maxLen)).bind λ g=>A4 (oW x1 f) d (lP c (b.Session,b.Num) (IntKind.i64.wrap ((e.getD 0)+1)))) else (jC x1 c (((x1.Sessions.length:Int) - 1:Int).toNat+1) true 1)
def tL(x1:aV):Option Bool:=
  oW x1 (((x1.Watches.length:Int) - 0:Int).toNat+1) 0 []
theorem M6{x1:aV}{n D:VL}(H:Sep w (Fo) rs)(o:rSl aP n x1.Watches ∈ rs)(F:rSl aI D x1.Sessions ∈ rs){r:Bool}(m:tL x1=some r) :
    Cf 192 [.agg #[n,D]] w λ v w'=>.bool r=v/\Sep w' (Fo) (rs):=by
 unfold tL at m
 refine ent func192 z ntmps192 z z λ a E=>sq<|bx E H z λ p w a H E=>pr 1 E z λ a E=>nx<|C9 (k:=294) (K:=L2) (d:=(kI .i64)) (g:=false) E H (wn z) z z z λ q w a H E=>pn 1 E z λ a E=>wS<|sp 1 E z λ a E=>lb2 E H 1 U70 z λ a E=>lS E H o U70 z λ a E=>pn 1 E z λ a E=>wB<|bG (λ t a w=>∃ G x,Jn 76 a w [(1,pt p 0),(3,.map (some q)),(10,n),(11,.int .i64 (x1.Watches.length:Int)),(12,.int .i64 G)] (Blk p 73 [n,D]::bX Tryz.prog 294 L2 (kI .i64) false q x::Fo) rs (oW x1 t G x=some r)) (((x1.Watches.length:Int) - 0:Int).toNat+1) ?_ ?_
 ·exact have H:=H.frs [0,1] z;X3 ⟨E.to z,H,Y0,m⟩
 ·clear E H m
  rintro t a w ⟨G,x,b4,E,H,l,m⟩
  cases t with
  | zero=>exact (bE m z).elim
  | succ t=>
   unfold oW at m
   refine sq<|pn 1 E z λ a E=>wS<|wif E m z (λ m=>?_) λ m=>?_
   ·refine wK<|aA<|aJ (λ a w=>∃ I,Jn 76 a w [(1,pt p 0),(3,.map (some q)),(10,n),(11,.int .i64 (x1.Watches.length:Int)),(12,.int .i64 G)] (Blk p 73 [n,D]::bX Tryz.prog 294 L2 (kI .i64) false q I::Fo) rs (A4 (oW x1 t) G I=some r)) ?_ ?_
    ·refine wB<|sq<|bd m λ B Q m=>dB E H (wn z) z z z z z (l _ o) U70 tN Q λ q17 a H E=>ldf lA E H z z z z z m0 U35 z tN λ a E=>al2 E H z DS λ C w a H E=>ss 0 E H z tN z λ w H=>nt<|bd m λ O J m=>bk m λ L m=>?_
     have hI:dI [Blk C 35 (dP B)] [] { w with drawn:=w.drawn+1 }:=⟨_,_,H.kept (Kp.drawn _ w _),(aU m0 (bH)),(bO)⟩
     refine oN _ (.go 0 0 (.go 1 0 (.go 2 0 (.go 3 0 (.go 4 0 (.go 5 0 (.alt 6 (.go 7 0 (.go 8 1 (.go 9 0 (.go 10 2 .nil)))) 8 (.go 9 0 (.go 6 1 (.go 7 0 (.go 10 2 .nil))))))))))) [10] pI (by kernel_rfl) (λ _ _ _ h=>False.elim h.2) hI<|have H:=H.kept (Kp.drawn _ w (w.drawn+1));?_
     generalize ({ w with drawn:=w.drawn+1 }:WD)=w at H hI ⊢
     replace hI:∃ W,dI [Blk C 35 (dP B)] [] W:=⟨_,hI⟩
     obtain ⟨W0,hI⟩:=hI
     refine om E z λ a E=>ov E z (λ w hW=>mM E z z (v:=pt C 0) (Oe _ _)) λ a E=>ol E m0 U2 z λ a E=>ov E z (λ w hW=>mM E z z (v:=pt C 1) (Uf _ _)) λ a E=>ol E m0 U2 z λ a E=>ov E z (λ w hW=>(cH E z (E.evs z) (v:=.agg #[.int .i64 B.Session,.int .i64 B.Num]) (by kernel_rfl))) λ a E=>oO z z ?_ ?_
     ·refine sv2 E z (Tu (i:=2) (K:=L2) (z0:=0) (u:=O) E H z z z z Dl Mh Uh J) λ a E=>nt<|⟨sx H [0] z,ov E z (λ w hW=>(oJ E z z z z)) λ a E=>cF z<|Kx (i:=2) (K:=L2) (z0:=0) E H (wn z) z z z z z z Dl Mh Uh L λ q33 w a H E=>nt<|⟨sx H [0] z,ox E z λ a E=>cV z<|Ft (i:=2) (K:=L2) E H (wn z) z z z z z z Dl Mh λ w H=>nt<|fA<|?_⟩⟩
      clear hI
      exact bP<|aA<|have H:=H.drop 0;⟨_,_,E.to z,H,(Y1 l),m⟩
     ·refine Kx (i:=2) (K:=L2) (z0:=0) E H (wn z) z z z z z z Dl Mh Uh L λ q36 w a H E=>nt<|⟨sx H [0] z,ox E z λ a E=>cF z<|sv2 E z (DK (i:=2) (K:=L2) (z0:=0) (u:=O) E H z z z z Dl Mh Uh J) λ a E=>nt<|⟨sx H [0] z,ov E z (λ w hW=>(oJ E z z z z)) λ a E=>cV z<|Ft (i:=2) (K:=L2) E H (wn z) z z z z z z Dl Mh λ w H=>nt<|fA<|?_⟩⟩
      clear hI
      exact bP<|aA<|have H:=H.drop 0;⟨_,_,E.to z,H,(Y1 l),m⟩
    ·clear E H m
     rintro a w ⟨I,b5,E,H,R,m⟩
     unfold A4 at m
     exact wG<|pn 2 E z λ a E=>⟨t,nL t,X3 ⟨E.to z,H,R,m⟩⟩
   ·refine wX<|aT<|aT<|cL<|aA<|sq<|pn 1 E z λ a E=>wS<|sq<|pn 1 E z λ a E=>wB<|bG (λ y a w=>∃ M s,Jn 76 a w [(1,pt p 0),(3,.map (some q)),(6,.bool M),(7,.int .i64 s)] (Blk p 73 [n,D]::bX Tryz.prog 294 L2 (kI .i64) false q x::Fo) rs (jC x1 x y M s=some r)) (((x1.Sessions.length:Int) - 1:Int).toNat+1) ?_ ?_
    ·exact X3 ⟨E.to z,H,l,m⟩
    ·clear E H m
     rintro y a w ⟨M,s,b6,E,H,c,m⟩
     cases y with
     | zero=>exact (bE m z).elim
     | succ y=>
      unfold jC at m
      refine wS<|sp 2 E z λ a E=>lb2 E H 0 U71 z λ a E=>lS E H (c _ F) U71 z λ a E=>pn 1 E z λ a E=>wif E m z (λ m=>?_) λ m=>?_
      ·refine wK<|aA<|aJ (λ a w=>∃ N,Jn 76 a w [(1,pt p 0),(3,.map (some q)),(6,.bool N),(7,.int .i64 s)] (Blk p 73 [n,D]::bX Tryz.prog 294 L2 (kI .i64) false q x::Fo) rs (yJ (jC x1 x y) s N=some r)) ?_ ?_
       ·refine wB<|?_
        obtain ⟨b8,H⟩:=H.raw (c _ F)
        refine dw [(0,0),(1,0),(2,0),(3,0),(4,0),(5,0),(6,0),(7,0),(8,0),(9,0),(10,0),(11,0),(12,0),(13,0),(14,0),(15,0),(16,0),(17,2)] [0] [0] H (by kernel_rfl) (λ _ _ _ h=>False.elim h.2) λ w W0 hI H=>fn 2 E z λ a E=>cs m (λ b m=>?_) λ b m=>?_
        ·refine fk 1 E (kc 35 z b) z λ a E=>fb E z (ws' (d:=35) E z z z z b) z z z z m0 z U71 z λ a E=>fk 2 E (kc 35 z b) z λ a E=>bd m λ b9 S m=>?_
         obtain ⟨q50,c0,T,U⟩:=fW (P:=Tryz.prog) (k:=.i64) hI (fV (.head _)) U71 tO S
         refine cU E z (ws' (d:=35) E z z z z b) z z (λ w hW=>iD E z z z (T w)) λ a E=>?_
         have V:=gY U (λ _ _ _ h=>zY h)
         refine fk 1 E (kc 35 z b) z λ a E=>fa E z (ws' (d:=35) E z z z z b) z z z z V U2 z λ a E=>fk 1 E (kc 35 z b) z λ a E=>fb E z (ws' (d:=35) E z z z z b) z z z z m0 z U71 z λ a E=>fk 1 E (kc 35 z b) z λ a E=>bd m λ c1 X m=>?_
         obtain ⟨q57,c2,Y,Z⟩:=fW (P:=Tryz.prog) (k:=.i64) hI (fV (.head _)) U71 tO X
         refine cU E z (ws' (d:=35) E z z z z b) z z (λ w hW=>iD E z z z (Y w)) λ a E=>?_
         have b0:=gY Z (λ _ _ _ h=>zY h)
         refine fk 1 E (kc 35 z b) z λ a E=>fa E z (ws' (d:=35) E z z z z b) z z z z b0 U2 z λ a E=>fk 2 E (kc 35 z b) z λ a E=>bL z<|pn 1 E z λ a E=>bB<|?_
         clear hI
         exact bP<|aA<|⟨_,_,E.to z,H,(Y1 c),m⟩
        ·refine fk 15 E (kc 35 z b) z λ a E=>bL z<|pn 1 E z λ a E=>bB<|?_
         clear hI
         exact bP<|aA<|⟨_,_,E.to z,H,(Y1 c),m⟩
       ·clear E H m
        rintro a w ⟨N,b7,E,H,b1,m⟩
        unfold yJ at m
        exact wG<|pn 3 E z λ a E=>⟨y,nL y,X3 ⟨E.to z,H,b1,m⟩⟩
      ·refine wX<|aT<|aT<|cL<|aA<|sp 1 E z λ a E=>lb2 E H 0 U70 z λ a E=>lS E H (c _ o) U70 z λ a E=>pr 2 E z λ a E=>cs m (λ e m=>?_) λ e m=>?_
       ·refine pk 1 E (kc 55 z e) z λ a E=>gv 55 E e z (X2 (i:=1) E H z z z Mh) λ a E=>pk 1 E (kc 55 z e) z λ a E=>gl 55 E H 0 e U70 z λ a E=>gv 55 E e z (zC E H z z (c _ o) U70) λ a E=>pk 3 E (kc 55 z e) z λ a E=>cs m (λ f m=>?_) λ f m=>?_
        ·refine pk 1 E (kc 63 z f) z λ a E=>gl 63 E H 0 f U70 z λ a E=>bd m λ c3 b2 m=>gc 63 E f z (cf_ 264) (Dt H (c _ o) b2)<|?_
         rintro _ w ⟨rfl,H⟩ a E
         refine pk 2 E (kc 63 z f) z λ a E=>cs m (λ j m=>?_) λ j m=>?_
         ·refine pk 1 E (kc 68 z j) z λ a E=>gl 68 E H 0 j U71 z λ a E=>bd m λ c4 b3 m=>gc 68 E j z (cf_ 265) (Bj H (c _ F) b3)<|?_
          rintro _ w ⟨rfl,H⟩ a E
          refine pk 2 E (kc 68 z j) z λ a E=>cs m (λ A m=>?_) λ A m=>?_
          ·refine pk 3 E (kc 73 z A) z λ a E=>nt<|wR<|o1 E z<|have H:=H.drs [0,0];?_
           cases m
           exact ⟨z,H.reads c⟩
          ·refine pk 3 E (kc 73 z A) z λ a E=>nt<|wR<|o1 E z<|have H:=H.drs [0,0];?_
           cases m
           exact ⟨z,H.reads c⟩
         ·refine pk 8 E (kc 68 z j) z λ a E=>nt<|wR<|o1 E z<|have H:=H.drs [0,0];?_
          cases m
          exact ⟨z,H.reads c⟩
        ·refine pk 13 E (kc 63 z f) z λ a E=>nt<|wR<|o1 E z<|have H:=H.drs [0,0];?_
         cases m
         exact ⟨z,H.reads c⟩
       ·refine pk 21 E (kc 55 z e) z λ a E=>nt<|wR<|o1 E z<|have H:=H.drs [0,0];?_
        cases m
        exact ⟨z,H.reads c⟩

def sU(x1:aV)(d:BY)(e:Int)(c:Bool):Option Er:=
  if c=true then (some ((⟨[],[]⟩:aV),1)) else ((ck (x1.Sessions.length <= LIM)).bind λ f=>(ck (x1.Watches.length <= LIM)).bind λ g=>(gM x1.Watches d x1.Sessions e).bind λ b=>some ((⟨b.1,b.2⟩:aV),0))
def Q9(x1:aV)(b:Int)(c:BY):Option Er:=
  (tL x1).bind λ d=>if (!d)=true then (sU x1 c b true) else (if (decide (b < 1))=true then (sU x1 c b true) else (if (decide (b > 3))=true then (sU x1 c b true) else ((gH c).bind λ e=>sU x1 c b (!e))))
theorem Us{x1:aV}{j k:VL}{l:Int}{n:BY}(H:Sep w (Fo) rs)(o:rSl aP j x1.Watches ∈ rs)(p:rSl aI k x1.Sessions ∈ rs){r:aV×Int}(m:Q9 x1 l n=some r) :
    Cf 302 [.agg #[j,k],.int .i64 l,.string n] w λ v w'=>∃ C D,.tuple #[.agg #[C,D],.int .i64 r.2]=v/\Sep w' (Fo) (rSl aP C r.1.Watches::rSl aI D r.1.Sessions::rs):=by
 unfold Q9 at m
 refine ent func302 z ntmps302 z z λ a E=>sq<|bx E H z λ F w a H E=>bx E H z λ G w a H E=>bx E H z λ q w a H E=>al2 E H z V1 λ s w a H E=>pn 1 E z λ a E=>wS<|aJ (λ a w=>∃ f,Jn 36 a w [(3,pt F 0),(4,pt G 0),(5,pt q 0),(6,pt s 0),(23,.bool f)] (Blk F 73 [j,k]::Blk G 3 [.int .i64 l]::Blk q 9 [.string n]::Blk s 73 [nS,nS]::Fo) rs (sU x1 n l f=some r)) ?_ ?_
 ·refine wG<|ln 3 [j,k] E H U73 z gG λ a E=>bd m λ L u m=>xk2 E z (cf_ 192) (M6 H o p u) λ w H a E=>pr 2 E z λ a E=>cs m (λ c m=>?_) λ c m=>?_
  ·exact pk 12 E (kc 11 z c) z λ a E=>nt<|have H:=H.frs [0,1,2,3] z;⟨_,_,E.to z,H,Y0,m⟩
  ·refine gl 11 E H 2 c U3 z λ a E=>pk 3 E (kc 11 z c) z λ a E=>cs m (λ d m=>?_) λ d m=>?_
   ·exact pk 8 E (kc 15 z d) z λ a E=>nt<|have H:=H.frs [0,1,2,3] z;⟨_,_,E.to z,H,Y0,m⟩
   ·refine gl 15 E H 2 d U3 z λ a E=>pk 3 E (kc 15 z d) z λ a E=>cs m (λ b m=>?_) λ b m=>?_
    ·exact pk 4 E (kc 19 z b) z λ a E=>nt<|have H:=H.frs [0,1,2,3] z;⟨_,_,E.to z,H,Y0,m⟩
    ·refine gl 19 E H 1 b U9 z λ a E=>bd m λ M x m=>gc 19 E b z (cf_ 83) (kK H x)<|?_
     rintro _ w ⟨rfl,H⟩ a E
     exact pk 2 E (kc 19 z b) z λ a E=>nt<|have H:=H.frs [0,1,2,3] z;⟨_,_,E.to z,H,Y0,m⟩
 ·clear E H m
  rintro a w ⟨f,K,E,H,e,m⟩
  unfold sU at m
  refine wif E m z (λ m=>?_) λ m=>?_
  ·refine sq<|sv2 E z (cH E z (E.evs z) (v:=.agg #[nS,nS]) (by kernel_rfl)) λ a E=>ss 3 E H z gG z λ w H=>pn 1 E z λ a E=>wR<|aG<|zW E z (qH (i:=3) (us:=[nS,nS]) H z z z U73 z gG) (rvT z)<|have H:=H.nilSl aP;have H:=H.nilSl aI;have H:=H.drs [0,0,0,0];?_
   cases m
   exact ⟨_,_,z,H.rdx [1,0] z (λ r hr=>(t2 (e r hr)))⟩
  ·refine wK<|aA<|sp 1 E z λ a E=>lb2 E H 0 U71 z λ a E=>bk m λ y m=>xc2 E z (cf_ 75) (dL H (e _ p) y) λ N w H a E=>pr 1 E z λ a E=>?_
   obtain ⟨q18,O,rfl⟩:=H.rowform (i:=0) z
   refine ss 1 E H z Uj z λ w H=>xp 1 E z λ a E=>lb2 E H 1 U70 z λ a E=>bk m λ A m=>xc2 E z (cf_ 74) (eX H (e _ o) A) λ P w H a E=>sv2 E z (nT E z z z) λ a E=>have H:=H.frs [5,4,3,4,5,5] z;bd m λ g B m=>xc2 E z (cf_ 333) (C4 H B)<|?_
   rintro _ w ⟨Q,I,rfl,H⟩ a E
   refine pr 1 E z λ a E=>?_
   obtain ⟨q27,t,rfl⟩:=H.rowform (i:=0) z
   refine ss 2 E H z Yr z λ w H=>nx<|ln 2 [(.slice q27 g.1.length t),I] E H U73 z gG λ a E=>?_
   obtain ⟨q29,J,rfl⟩:=H.rowform (i:=4) z
   refine ss 5 E H z gG z λ w H=>pn 1 E z λ a E=>wR<|zW E z (qH (i:=5) (us:=[(.slice q27 g.1.length t),(.slice q29 g.2.length J)]) H z z z U73 z gG) (rvT z)<|have H:=H.thaw (i:=0) z;have H:=H.thaw (i:=3) z;have H:=H.drs [0,0,0,0];?_
   cases m
   exact ⟨_,_,z,H.rdx [1,0] z (λ r hr=>(t2 (e r hr)))⟩

def gU(c:List aO)(d:List aE)(x20:Int)(e:BY):Option Q6:=
  (Q9 (⟨c,d⟩:aV) x20 e).bind λ b=>if (b.2 == 0)=true then (some (b.1.Watches,b.1.Sessions)) else (some (c,d))
theorem xP{s:Nat}{b c i j k l n o p:VL}{d:List aO}{e:List aE}{x20:Int}{q:BY}(H:Sep w (Blk s 87 [i,j,k,l,b,c,n,o,p]::Fo) rs)(f:rSl aP b d ∈ rs)(g:rSl aI c e ∈ rs){r:fQ×eD}(m:gU d e x20 q=some r) :
    Cf 233 [pt s 0,.int .i64 x20,.string q] w λ v w'=>∃ u x,.tuple #[]=v/\Sep w' (Blk s 87 [i,j,k,l,u,x,n,o,p]::Fo) (rSl aP u r.1::rSl aI x r.2::rs):=by
 unfold gU at m
 refine ent func233 z ntmps233 z z λ a E=>sp 3 E z λ a E=>ln 0 [b,c] E H U73 z gG λ a E=>pr 2 E z λ a E=>bd m λ B t m=>xc2 E z (cf_ 302) (Us (x1:=(⟨d,e⟩:aV)) H f g t)<|?_
 rintro _ w ⟨y,A,rfl,H⟩ a E
 refine pr 3 E z λ a E=>al2 E H z V1 λ C w a H E=>ss 0 E H z gG (kJ H m0 mm1) λ w H=>pr 1 E z λ a E=>nx<|pn 2 E z λ a E=>wif E m z (λ m=>?_) λ m=>?_
 ·refine wG<|pr 1 E z λ a E=>ln 0 [y,A] E H U73 z gG λ a E=>pr 2 E z λ a E=>ss 1 E H z gG (kJ H m0 mm1) λ w H=>wN<|wV E z<|have H:=H.drop 0;?_
  cases m
  exact ⟨_,_,z,H.rdx [0,1] z (λ r hr=>(t2 hr))⟩
 ·refine wK<|wV E z<|have H:=H.drop 0;?_
  cases m
  exact ⟨_,_,z,H.reads (aD (t2 f) (aD (t2 g) (λ r hr=>(t2 hr))))⟩

def hY(rec_1:Int->fQ->eD->Option Q6)(b:Int)(c:fQ)(d:eD):Option Q6:=
  rec_1 (IntKind.i64.wrap (b+1)) c d
def oE(rec_1:Int->fQ->eD->Option Q6)(d:Int)(b:eG)(e:cR):Nat->Int->fQ->eD->Option Q6
  | 0,_,_,_=>none
  | l+1,c,f,g=>
    if (decide (c < (b.Names.length:Int)))=true then ((idx b.Names c).bind λ j=>(D2 e.Part.Path j).bind λ k=>(gU f g 2 k.1).bind λ i=>oE rec_1 d b e l (IntKind.i64.wrap (c+1)) i.1 i.2) else (hY rec_1 d f g)
def dO(c:List cR)(d:List eG):Nat->Int->fQ->eD->Option Q6
  | 0,_,_,_=>none
  | i+1,b,f,g=>
    if (decide (b < (c.length:Int)))=true then ((idx c b).bind λ e=>if (e.Part.Kind == 2)=true then ((idx d b).bind λ n=>(gU f g 1 n.Path).bind λ j=>hY (dO c d i) b j.1 j.2) else (if (e.Part.Kind == 3)=true then ((gU f g 2 e.Part.Path).bind λ k=>hY (dO c d i) b k.1 k.2) else (if (e.Part.Kind == 5)=true then ((gU f g 3 e.Part.Path).bind λ l=>hY (dO c d i) b l.1 l.2) else (if (e.Part.Kind == 10)=true then ((idx d b).bind λ m=>oE (dO c d i) b m e (((m.Names.length:Int) - 0:Int).toNat+1) 0 f g) else (hY (dO c d i) b f g))))) else (some (f,g))
def vX(c:List aO)(d:List aE)(b:List cR)(e:List eG):Option Q6:=
  dO b e (((b.length:Int) - 0:Int).toNat+1) 0 c d
theorem Ie{k:Nat}{Y Z l n o p q s t u x:VL}{b0:List aO}{b1:List aE}{c:List cR}{y:List eG}(H:Sep w (Blk k 87 [o,p,q,s,Y,Z,t,u,x]::Fo) rs)(b5:rSl aP Y b0 ∈ rs)(b6:rSl aI Z b1 ∈ rs)(D:rSl bR l c ∈ rs)(F:rSl aZ n y ∈ rs){r:fQ×eD}(m:vX b0 b1 c y=some r) :
    Cf 158 [pt k 0,l,n] w λ v w'=>∃ c9 d0,.tuple #[]=v/\Sep w' (Blk k 87 [o,p,q,s,c9,d0,t,u,x]::Fo) (rSl aP c9 r.1::rSl aI d0 r.2::rs):=by
 unfold vX at m
 refine ent func158 z ntmps158 z z λ a E=>sp 1 E z λ a E=>lS E H D U26 z λ a E=>pn 1 E z λ a E=>wB<|bG (λ A a w=>∃ G I g J K i,Env 70 a [(0,pt k 0),(2,n),(12,l),(13,.int .i64 (c.length:Int)),(14,.int .i64 g)]/\Sep w (Blk k 87 [o,p,q,s,G,I,t,u,x]::Fo) i/\(∀ r,r ∈ rs->r ∈ i)/\rSl aP G J ∈ i/\rSl aI I K ∈ i/\dO c y A g J K=some r) (((c.length:Int) - 0:Int).toNat+1) ?_ ?_
 ·exact X6 ⟨E.to z,H,Y0,b5,b6,m⟩
 ·clear E H m
  rintro A a w ⟨G,I,g,J,K,i,E,H,b,d,e,m⟩
  cases A with
  | zero=>exact (bE m z).elim
  | succ A=>
   unfold dO at m
   refine sq<|pn 1 E z λ a E=>wS<|wif E m z (λ m=>?_) λ m=>?_
   ·refine wK<|aA<|aJ (λ a w=>∃ L M N O j,Env 70 a [(0,pt k 0),(2,n),(12,l),(13,.int .i64 (c.length:Int)),(14,.int .i64 g)]/\Sep w (Blk k 87 [o,p,q,s,L,M,t,u,x]::Fo) j/\(∀ r,r ∈ rs->r ∈ j)/\rSl aP L N ∈ j/\rSl aI M O ∈ j/\hY (dO c y A) g N O=some r) ?_ ?_
    ·refine wB<|sp 1 E z λ a E=>bd m λ b2 b7 m=>dB E H (wn z) z z z z z (b _ D) U26 U8 b7 λ q54 a H E=>ldf z6 E H z z z z z m0 U99 z U8 λ a E=>al2 E H z Yp λ b3 w a H E=>pr 1 E z λ a E=>ss 0 E H z U8 z λ w H=>xp 2 E z λ a E=>lb2 E H 0 U3 z λ a E=>nt<|wB<|sq<|pn 2 E z λ a E=>wif E m z (λ m=>?_) λ m=>?_
     ·refine wG<|pr 3 E z λ a E=>bd m λ d1 b8 m=>dB E H (wn z) z z z z z (t1 (b _ F)) U40 V2 b8 λ q58 a H E=>have H:=H.derive1 m0 (rAt kS (q58.add 1) d1.Path) (λ ok h=>Lw h);pr 1 E z λ a E=>sv2 E z (sK E H z z m0 U9 z) λ a E=>have H:=H.frs [0,1] z;bd m λ d2 b9 m=>xc2 E z (cf_ 233) (xP H (t3 d) (t3 e) b9)<|?_
      rintro _ w ⟨d3,d4,rfl,H⟩ a E
      exact wN<|bP<|bP<|aA<|have H:=H.drop 1;X5 ⟨E.to z,H,(Y5 b),m0,mm1,m⟩
     ·refine sq<|pn 2 E z λ a E=>wif E m z (λ m=>?_) λ m=>?_
      ·refine wG<|pr 3 E z λ a E=>lb2 E H 0 U9 z λ a E=>have H:=H.frs [0,1] z;bd m λ d5 c0 m=>xc2 E z (cf_ 233) (xP H (t1 d) (t1 e) c0)<|?_
       rintro _ w ⟨d6,d7,rfl,H⟩ a E
       exact wN<|bP<|bP<|aA<|have H:=H.drop 1;X5 ⟨E.to z,H,(Y3 b),m0,mm1,m⟩
      ·refine sq<|pn 2 E z λ a E=>wif E m z (λ m=>?_) λ m=>?_
       ·refine wG<|pr 3 E z λ a E=>lb2 E H 0 U9 z λ a E=>have H:=H.frs [0,1] z;bd m λ d8 c1 m=>xc2 E z (cf_ 233) (xP H (t1 d) (t1 e) c1)<|?_
        rintro _ w ⟨d9,e0,rfl,H⟩ a E
        exact wN<|bP<|bP<|aA<|have H:=H.drop 1;X5 ⟨E.to z,H,(Y3 b),m0,mm1,m⟩
       ·refine sq<|pn 2 E z λ a E=>wif E m z (λ m=>?_) λ m=>?_
        ·refine sp 2 E z λ a E=>bd m λ B c2 m=>dB E H (wn z) z z z z z (t1 (b _ F)) U40 V2 c2 λ q73 a H E=>have H:=H.derive1 m0 (rAt (kL kS) (q73.add 4) B.Names) (λ ok h=>Lx h);pr 1 E z λ a E=>JW E H (wn z) z z z z m0 U33 z λ b4 a H E=>lS E H m0 U33 z λ a E=>pr 1 E z λ a E=>nt<|wB<|bG (λ C a w=>∃ P Q R S T f,Env 70 a [(0,pt k 0),(2,n),(7,pt b3 0),(12,l),(13,.int .i64 (c.length:Int)),(14,.int .i64 g),(51,b4),(52,.int .i64 (B.Names.length:Int)),(53,.int .i64 R)]/\Sep w (Blk k 87 [o,p,q,s,P,Q,t,u,x]::Blk b3 99 (Lb b2)::Fo) f/\(∀ r,r ∈ rs->r ∈ f)/\rSl kS b4 B.Names ∈ f/\rSl aP P S ∈ f/\rSl aI Q T ∈ f/\oE (dO c y A) g B b2 C R S T=some r) (((B.Names.length:Int) - 0:Int).toNat+1) ?_ ?_
         ·exact have H:=H.frs [0,1] z;X6 ⟨E.to z,H,(Y4 b),m0,(t4 d),(t4 e),m⟩
         ·clear E H m
          rintro C a w ⟨P,Q,R,S,T,f,E,H,U,V,W,X,m⟩
          cases C with
          | zero=>exact (bE m z).elim
          | succ C=>
           unfold oE at m
           refine sq<|pn 1 E z λ a E=>wS<|wif E m z (λ m=>?_) λ m=>?_
           ·refine wK<|aA<|wS<|wB<|sq<|bd m λ e1 c3 m=>dB E H (wn z) z z z z z V U33 sz9 c3 λ q87 a H E=>sv2 E z (sK E H z z m0 U9 z) λ a E=>pr 1 E z λ a E=>xp 2 E z λ a E=>lb2 E H 1 U9 z λ a E=>pr 1 E z λ a E=>bd m λ e2 c4 m=>xk2 E z (cf_ 208) (Le H c4) λ w H a E=>pn 5 E z λ a E=>wG<|pr 2 E z λ a E=>bd m λ e3 c5 m=>xc2 E z (cf_ 233) (xP H (t1 W) (t1 X) c5)<|?_
            rintro _ w ⟨e4,e5,rfl,H⟩ a E
            exact wN<|bP<|aA<|wG<|pn 2 E z λ a E=>⟨C,nL C,X6 ⟨E.to z,H,(Y3 U),(t3 V),m0,mm1,m⟩⟩
           ·exact wX<|aT<|aT<|cL<|bP<|bP<|aA<|have H:=H.drop 1;X5 ⟨E.to z,H,U,W,X,m⟩
        ·exact wK<|bP<|bP<|aA<|have H:=H.drop 0;X5 ⟨E.to z,H,(Y1 b),(t1 d),(t1 e),m⟩
    ·clear E H m
     rintro a w ⟨L,M,N,O,j,E,H,c6,c7,c8,m⟩
     unfold hY at m
     exact wG<|pn 2 E z λ a E=>⟨A,nL A,X6 ⟨E.to z,H,c6,c7,c8,m⟩⟩
   ·refine wX<|aT<|aT<|cL<|wV E z<|?_
    cases m
    exact ⟨_,_,z,H.reads (aD d (aD e (b)))⟩

end Go.Cb
