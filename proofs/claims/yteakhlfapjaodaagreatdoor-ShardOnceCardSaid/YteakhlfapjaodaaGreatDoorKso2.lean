/- Functions of the program, walked: each comes to its plain function. -/
import Derived.Test.YteakhlfapjaodaaGreatDoorKso1
import Derived.Test.YteakhlfapjaodaaGreatDoorExso
set_option linter.unusedVariables false
set_option linter.unusedSimpArgs false
set_option maxRecDepth 20000
set_option maxHeartbeats 1000000
namespace Go.Cb
open Go.Proofs Go.RowKit
variable {w:World} {Fo:List Ob} {rs:List Rp}

def lA(x1:aR)(g:dZ)(i:dR)(b:Int)(c:ByteArray)(d:ByteArray)(e:Int)(f:eY):Option (aR×cN):=
  if (b != 0)=true then (some (x1,(⟨b,c,d,e,f⟩:cN))) else (some ((⟨g,i⟩:aR),(⟨b,c,d,e,f⟩:cN)))
def F8(x1:aR)(b:bE)(m:Bool):Option (aR×cN):=
  if m=true then (some ((⟨[],[]⟩:aR),(⟨1,(ByteArray.mk #[]),(ByteArray.mk #[]),0,[]⟩:cN))) else ((ck (x1.Nodes.length <= LIM)).bind λ o=>(ck (x1.Turns.length <= LIM)).bind λ p=>if (b.Kind == 1)=true then ((wL x1.Nodes 0 (ByteArray.mk #[]) (ByteArray.mk #[]) 0 [] b).bind λ g=>lA x1 x1.Nodes x1.Turns g.1 g.2.1 g.2.2.1 g.2.2.2.1 g.2.2.2.2) else (if (b.Kind == 2)=true then ((yP x1.Nodes x1.Turns 0 (ByteArray.mk #[]) 0 [] b).bind λ c=>lA x1 c.1 c.2.1 c.2.2.1 c.2.2.2.1 c.2.2.2.2.1 c.2.2.2.2.2.1 c.2.2.2.2.2.2) else (if (b.Kind == 3)=true then ((uX x1.Nodes 0 (ByteArray.mk #[]) (ByteArray.mk #[]) 0 [] b).bind λ d=>lA x1 d.1 x1.Turns d.2.1 d.2.2.1 d.2.2.2.1 d.2.2.2.2.1 d.2.2.2.2.2) else (if (b.Kind == 4)=true then ((zN x1.Nodes x1.Turns 0 (ByteArray.mk #[]) (ByteArray.mk #[]) 0 [] b).bind λ e=>lA x1 x1.Nodes e.1 e.2.1 e.2.2.1 e.2.2.2.1 e.2.2.2.2.1 e.2.2.2.2.2) else (if (b.Kind == 5)=true then ((wI x1.Nodes 0 (ByteArray.mk #[]) (ByteArray.mk #[]) 0 [] b).bind λ f=>lA x1 f.1 x1.Turns f.2.1 f.2.2.1 f.2.2.2.1 f.2.2.2.2.1 f.2.2.2.2.2) else (if (b.Kind == 6)=true then ((xM x1.Nodes 0 (ByteArray.mk #[]) (ByteArray.mk #[]) 0 [] b).bind λ i=>lA x1 x1.Nodes x1.Turns i.1 i.2.1 i.2.2.1 i.2.2.2.1 i.2.2.2.2) else (if (b.Kind == 7)=true then ((xN x1.Nodes 0 (ByteArray.mk #[]) (ByteArray.mk #[]) 0 [] b).bind λ j=>lA x1 x1.Nodes x1.Turns j.1 j.2.1 j.2.2.1 j.2.2.2.1 j.2.2.2.2) else (if (b.Kind == 8)=true then ((yO x1.Nodes 0 (ByteArray.mk #[]) (ByteArray.mk #[]) 0 [] b).bind λ k=>lA x1 x1.Nodes x1.Turns k.1 k.2.1 k.2.2.1 k.2.2.2.1 k.2.2.2.2) else (if (b.Kind == 9)=true then ((wM x1.Nodes [] b).bind λ n=>lA x1 x1.Nodes x1.Turns 0 (ByteArray.mk #[]) (ByteArray.mk #[]) 0 n) else (if (b.Kind == 10)=true then ((wJ x1.Nodes [] b).bind λ l=>lA x1 l.1 x1.Turns 0 (ByteArray.mk #[]) (ByteArray.mk #[]) 0 l.2) else none))))))))))
def W3(x1:aR)(b:bE):Option (aR×cN):=
  (sD x1).bind λ c=>if (!c)=true then (F8 x1 b true) else ((J4 b).bind λ d=>F8 x1 b (!d))
theorem BB{x1:aR}{p q:Value}{c:bE}(H:Sep w (Fo) rs)(s:rSl aB p x1.Nodes ∈ rs)(t:rSl aC q x1.Turns ∈ rs)(b9:N2 Tryz.prog ∈ rs){r:aR×cN}(m:W3 x1 c=some r) :
    Cf 64 [.agg #[p,q],.agg (cB c).toArray] w λ v w'=>∃ c0 c1 c2,.tuple #[.agg #[c0,c1],.agg (P7 r.2 c2).toArray]=v/\Sep w' (Fo) (rSl aB c0 r.1.Nodes::rSl aC c1 r.1.Turns::rSl kS c2 r.2.Names::rs):=by
 unfold W3 at m
 refine ent Tryz.func64 z Tryz.ntmps64 z z λ a E=>sq<|bx E H z λ Q w a H E=>bx E H z λ c3 w a H E=>al2 E H z oC λ u w a H E=>al2 E H z LQ λ x w a H E=>nx<|sv2 E z (cJ E z (E.evs z) (v:=.agg #[.nilFunc,.func (.func 125) #[] #[],.func (.func 126) #[] #[],.func (.func 127) #[] #[],.func (.func 128) #[] #[],.func (.func 129) #[] #[],.func (.func 130) #[] #[],.func (.func 131) #[] #[],.func (.func 132) #[] #[],.func (.func 133) #[] #[],.func (.func 134) #[] #[]]) (by kernel_rfl)) λ a E=>al2 E H z PF λ R w a H E=>ss 0 E H z PG z λ w H=>nt<|wS<|aN (λ a w=>∃ D,Jn 54 a w [(2,pt Q 0),(3,pt c3 0),(4,pt u 0),(5,pt x 0),(6,pt R 0),(16,.bool D)] (Blk Q 25 [p,q]::Blk c3 97 (cB c)::Blk u 25 [nS,nS]::Blk x 93 Hb::Blk R 183 [.nilFunc,.func (.func 125) #[] #[],.func (.func 126) #[] #[],.func (.func 127) #[] #[],.func (.func 128) #[] #[],.func (.func 129) #[] #[],.func (.func 130) #[] #[],.func (.func 131) #[] #[],.func (.func 132) #[] #[],.func (.func 133) #[] #[],.func (.func 134) #[] #[]]::Fo) rs (F8 x1 c D=some r)) ?_ ?_
 ·refine wG<|ln 4 [p,q] E H U25 z dF λ a E=>bd m λ d0 V m=>xk2 E z (cf_ 37) (Q4 H s t V) λ w H a E=>pr 2 E z λ a E=>cs m (λ e m=>?_) λ e m=>?_
  ·exact pk 4 E (kc 12 z e) z λ a E=>nt<|have H:=H.frs [0,1,2,3,4] z;⟨_,_,E.to z,H,Y0,m⟩
  ·refine gv 12 E e z (L3 (i:=3) (us:=(cB c)) E H z z z z U97 z mC) λ a E=>bd m λ d1 W m=>gc 12 E e z (cf_ 121) (Od H W)<|?_
   rintro _ w ⟨rfl,H⟩ a E
   exact pk 2 E (kc 12 z e) z λ a E=>nt<|have H:=H.frs [0,1,2,3,4] z;⟨_,_,E.to z,H,Y0,m⟩
 ·clear E H m
  rintro a w ⟨D,c8,E,H,b,m⟩
  unfold F8 at m
  refine wif E m z (λ m=>?_) λ m=>?_
  ·refine sq<|sv2 E z (cJ E z (E.evs z) (v:=.agg #[nS,nS]) (by kernel_rfl)) λ a E=>sv2 E z (cJ E z (E.evs z) (v:=.agg #[.int .i64 1,.string (ByteArray.mk #[]),.string (ByteArray.mk #[]),.int .i64 0,nS]) (by kernel_rfl)) λ a E=>ss 2 E H z dF z λ w H=>ss 3 E H z F4 z λ w H=>nt<|wR<|aH<|zJ E z (pR (i:=2) (us:=[nS,nS]) H z z z U25 z dF) (pR (i:=3) (us:=[.int .i64 1,.string (ByteArray.mk #[]),.string (ByteArray.mk #[]),.int .i64 0,nS]) H z z z U93 z F4)<|have H:=H.nilSl aB;have H:=H.nilSl aC;have H:=H.nilSl kS;have H:=H.drs [0,0,0,0,0];?_
   cases m
   exact X3 ⟨z,H.rdx [2,1,0] z (λ r hr=>(t3 (b r hr)))⟩
  ·refine wK<|aA<|wS<|dw [(0,0),(1,0),(3,0),(4,0),(2,1),(5,1),(6,0),(7,0),(8,1),(9,2)] [0] [] H (by kernel_rfl) (λ _ _ _ h=>False.elim h.2) λ w W0 hI H=>fn 1 E z λ a E=>fb2 E m0 U22 z λ a E=>fn 1 E z λ a E=>fb2 E m0 U23 z λ a E=>bQ z<|bk m λ X m=>xc2 E z (cf_ 56) (uF H (b _ s) X) λ d2 w H a E=>nt<|⟨sx H [1] z,bQ z<|bk m λ Y m=>xc2 E z (cf_ 57) (uG H (b _ t) Y) λ d3 w H a E=>nt<|⟨sx H [2] z,?_⟩⟩
   obtain ⟨q22,S,rfl⟩:=H.rowform (i:=1) z
   obtain ⟨q24,T,rfl⟩:=H.rowform (i:=0) z
   refine fv E z (λ w hW=>(cJ E z (E.evs z) (v:=.agg #[(.slice q22 x1.Nodes.length S),(.slice q24 x1.Turns.length T)]) (by kernel_rfl))) λ a E=>fv E z (λ w hW=>(cJ E z (E.evs z) (v:=.agg #[(.slice q22 x1.Nodes.length S),(.slice q24 x1.Turns.length T),.int .i64 0,.string (ByteArray.mk #[]),.string (ByteArray.mk #[]),.int .i64 0,nS]) (by kernel_rfl))) λ a E=>bQ z<|bx E H z λ U w a H E=>nt<|⟨sx H [3] z,bH z<|pn 1 E z λ a E=>bG<|?_⟩
   clear hI
   refine aA<|wS<|aN (λ a w=>∃ y A n B C f g k l o,Jn 54 a w [(2,pt Q 0),(4,pt u 0),(5,pt x 0),(7,pt U 0)] (Blk Q 25 [p,q]::Blk u 25 [nS,nS]::Blk x 93 Hb::Blk U 185 [y,A,.int .i64 f,.string g,.string k,.int .i64 l,n]::Row 107 aB y B::Row 89 aC A C::Row 9 kS n o::Fo) rs (lA x1 B C f g k l o=some r)) ?_ ?_
   ·refine dz [0,0,0,0,0,0,1] [4,7] H λ w W0 hI H=>fn 1 E z λ a E=>fb2 E m0 U3 z λ a E=>cs m (λ F m=>?_) λ F m=>?_
    ·refine fv E z (λ w hW=>vL (j:=1) E z z z F z Ce V2) λ a E=>fb2 E mm1 Cg z λ a E=>fn 1 E z λ a E=>fbn E (cB c) z (wn z) z z z z m0 z U97 z mC λ a E=>bQ z<|have H:=H.nilRow 9 kS;have H:=H.frs [8,8,8,8,8,7,6,8,8] z;bd m λ d4 Z m=>bK E (wn z) z z (bO E z z z ((cf_ 125) _)) (Kc H Z)<|?_
     rintro _ w ⟨d5,rfl,H⟩ a E
     refine nt<|⟨⟨_,_,H,(aJ mm5 (aJ (t2 mm6) (bC))),(bI)⟩,bG<|?_⟩
     clear hI
     exact aA<|have H:=H.drs [5,7];have H:=H.frs [2,3,3,3,6,6,6] z;X11 ⟨E.to z,H,b,m⟩
    ·refine cs m (λ G m=>?_) λ G m=>?_
     ·refine fv E z (λ w hW=>vL (j:=2) E z z z G z Ce V2) λ a E=>fb2 E mm1 Cg z λ a E=>fn 1 E z λ a E=>fbn E (cB c) z (wn z) z z z z m0 z U97 z mC λ a E=>bQ z<|have H:=H.nilRow 9 kS;have H:=H.frs [8,8,8,8,8,5,7,8,8] z;bd m λ d6 b0 m=>bK E (wn z) z z (bO E z z z ((cf_ 126) _)) (Of H (b _ b9) b0)<|?_
      rintro _ w ⟨d7,d8,d9,rfl,H⟩ a E
      refine nt<|⟨⟨_,_,H,(aJ mm5 (aJ (t2 mm6) (bC))),(bI)⟩,bG<|?_⟩
      clear hI
      exact aA<|have H:=H.drs [5,7];have H:=H.frs [3,3,3,3,6,6,6] z;X11 ⟨E.to z,H,b,m⟩
     ·refine cs m (λ I m=>?_) λ I m=>?_
      ·refine fv E z (λ w hW=>vL (j:=3) E z z z I z Ce V2) λ a E=>fb2 E mm1 Cg z λ a E=>fn 1 E z λ a E=>fbn E (cB c) z (wn z) z z z z m0 z U97 z mC λ a E=>bQ z<|have H:=H.nilRow 9 kS;have H:=H.frs [8,8,8,8,8,7,6,8,8] z;bd m λ e0 b1 m=>bK E (wn z) z z (bO E z z z ((cf_ 127) _)) (Hr H b1)<|?_
       rintro _ w ⟨e1,e2,rfl,H⟩ a E
       refine nt<|⟨⟨_,_,H,(aJ mm5 (aJ (t2 mm6) (bC))),(bI)⟩,bG<|?_⟩
       clear hI
       exact aA<|have H:=H.drs [5,7];have H:=H.frs [2,3,3,3,6,6,6] z;X11 ⟨E.to z,H,b,m⟩
      ·refine cs m (λ J m=>?_) λ J m=>?_
       ·refine fv E z (λ w hW=>vL (j:=4) E z z z J z Ce V2) λ a E=>fb2 E mm1 Cg z λ a E=>fn 1 E z λ a E=>fbn E (cB c) z (wn z) z z z z m0 z U97 z mC λ a E=>bQ z<|have H:=H.nilRow 9 kS;have H:=H.frs [8,8,8,8,8,5,7,8,8] z;bd m λ e3 b2 m=>bK E (wn z) z z (bO E z z z ((cf_ 128) _)) (Kf H b2)<|?_
        rintro _ w ⟨e4,e5,rfl,H⟩ a E
        refine nt<|⟨⟨_,_,H,(aJ mm5 (aJ (t2 mm6) (bC))),(bI)⟩,bG<|?_⟩
        clear hI
        exact aA<|have H:=H.drs [5,7];have H:=H.frs [3,3,3,3,6,6,6] z;X11 ⟨E.to z,H,b,m⟩
       ·refine cs m (λ K m=>?_) λ K m=>?_
        ·refine fv E z (λ w hW=>vL (j:=5) E z z z K z Ce V2) λ a E=>fb2 E mm1 Cg z λ a E=>fn 1 E z λ a E=>fbn E (cB c) z (wn z) z z z z m0 z U97 z mC λ a E=>bQ z<|have H:=H.nilRow 9 kS;have H:=H.frs [8,8,8,8,8,7,6,8,8] z;bd m λ e6 b3 m=>bK E (wn z) z z (bO E z z z ((cf_ 129) _)) (Ka H b3)<|?_
         rintro _ w ⟨e7,rfl,H⟩ a E
         refine nt<|⟨⟨_,_,H,(aJ mm5 (aJ (t2 mm6) (bC))),(bI)⟩,bG<|?_⟩
         clear hI
         exact aA<|have H:=H.drs [5,7];have H:=H.frs [2,3,3,3,6,6,6] z;X11 ⟨E.to z,H,b,m⟩
        ·refine cs m (λ L m=>?_) λ L m=>?_
         ·refine fv E z (λ w hW=>vL (j:=6) E z z z L z Ce V2) λ a E=>fb2 E mm1 Cg z λ a E=>fn 1 E z λ a E=>fbn E (cB c) z (wn z) z z z z m0 z U97 z mC λ a E=>bQ z<|have H:=H.nilRow 9 kS;have H:=H.frs [8,8,8,8,8,7,6,8,8] z;bd m λ e8 b4 m=>bK E (wn z) z z (bO E z z z ((cf_ 130) _)) (Lz H b4)<|?_
          rintro _ w ⟨e9,rfl,H⟩ a E
          refine nt<|⟨⟨_,_,H,(aJ mm5 (aJ (t2 mm6) (bC))),(bI)⟩,bG<|?_⟩
          clear hI
          exact aA<|have H:=H.drs [5,7];have H:=H.frs [2,3,3,3,6,6,6] z;X11 ⟨E.to z,H,b,m⟩
         ·refine cs m (λ M m=>?_) λ M m=>?_
          ·refine fv E z (λ w hW=>vL (j:=7) E z z z M z Ce V2) λ a E=>fb2 E mm1 Cg z λ a E=>fn 1 E z λ a E=>fbn E (cB c) z (wn z) z z z z m0 z U97 z mC λ a E=>bQ z<|have H:=H.nilRow 9 kS;have H:=H.frs [8,8,8,8,8,7,6,8,8] z;bd m λ f0 b5 m=>bK E (wn z) z z (bO E z z z ((cf_ 131) _)) (Ma H b5)<|?_
           rintro _ w ⟨f1,rfl,H⟩ a E
           refine nt<|⟨⟨_,_,H,(aJ mm5 (aJ (t2 mm6) (bC))),(bI)⟩,bG<|?_⟩
           clear hI
           exact aA<|have H:=H.drs [5,7];have H:=H.frs [2,3,3,3,6,6,6] z;X11 ⟨E.to z,H,b,m⟩
          ·refine cs m (λ N m=>?_) λ N m=>?_
           ·refine fv E z (λ w hW=>vL (j:=8) E z z z N z Ce V2) λ a E=>fb2 E mm1 Cg z λ a E=>fn 1 E z λ a E=>fbn E (cB c) z (wn z) z z z z m0 z U97 z mC λ a E=>bQ z<|have H:=H.nilRow 9 kS;have H:=H.frs [8,8,8,8,8,7,6,8,8] z;bd m λ f2 b6 m=>bK E (wn z) z z (bO E z z z ((cf_ 132) _)) (Oe H b6)<|?_
            rintro _ w ⟨f3,rfl,H⟩ a E
            refine nt<|⟨⟨_,_,H,(aJ mm5 (aJ (t2 mm6) (bC))),(bI)⟩,bG<|?_⟩
            clear hI
            exact aA<|have H:=H.drs [5,7];have H:=H.frs [2,3,3,3,6,6,6] z;X11 ⟨E.to z,H,b,m⟩
           ·refine cs m (λ O m=>?_) λ O m=>?_
            ·refine fv E z (λ w hW=>vL (j:=9) E z z z O z Ce V2) λ a E=>fb2 E mm1 Cg z λ a E=>fn 1 E z λ a E=>fbn E (cB c) z (wn z) z z z z m0 z U97 z mC λ a E=>bQ z<|have H:=H.nilRow 9 kS;have H:=H.frs [8,8,8,8,8,7,6,8,8] z;bd m λ f4 b7 m=>bK E (wn z) z z (bO E z z z ((cf_ 133) _)) (Ke H b7)<|?_
             rintro _ w ⟨f5,rfl,H⟩ a E
             refine nt<|⟨⟨_,_,H,(aJ mm5 (aJ (t2 mm6) (bC))),(bI)⟩,bG<|?_⟩
             clear hI
             exact aA<|have H:=H.drs [5,7];have H:=H.frs [2,3,3,3,6,6,6] z;X11 ⟨E.to z,H,b,m⟩
            ·refine cs m (λ P m=>?_) λ P m=>?_
             ·refine fv E z (λ w hW=>vL (j:=10) E z z z P z Ce V2) λ a E=>fb2 E mm1 Cg z λ a E=>fn 1 E z λ a E=>fbn E (cB c) z (wn z) z z z z m0 z U97 z mC λ a E=>bQ z<|have H:=H.nilRow 9 kS;have H:=H.frs [8,8,8,8,8,7,6,8,8] z;bd m λ f6 b8 m=>bK E (wn z) z z (bO E z z z ((cf_ 134) _)) (Kb H b8)<|?_
              rintro _ w ⟨f7,f8,rfl,H⟩ a E
              refine nt<|⟨⟨_,_,H,(aJ mm5 (aJ (t2 mm6) (bC))),(bI)⟩,bG<|?_⟩
              clear hI
              exact aA<|have H:=H.drs [5,7];have H:=H.frs [2,3,3,3,6,6,6] z;X11 ⟨E.to z,H,b,m⟩
             ·exact (bF m z).elim
   ·clear E H m
    rintro a w ⟨y,A,n,B,C,f,g,k,l,o,c9,E,H,d,m⟩
    unfold lA at m
    refine sp 4 E z λ a E=>lb2 E H 3 U41 z λ a E=>pn 1 E z λ a E=>wif E m z (λ m=>?_) λ m=>?_
    ·refine wS<|dz [0,0,0,0,0,1,2] [0,3] H λ w W0 hI H=>fbn E [p,q] z (wn z) z z z z m0 z U25 z dF λ a E=>fn 3 E z λ a E=>fbn E [.int .i64 f,.string g,.string k,.int .i64 l,n] z (wn z) z z z z mm1 z U93 z F4 λ a E=>bQ z<|Mo (i:=1) E H (wn z) z z z z z z dF z (mI H (d _ s) (d _ t)) λ w H=>nt<|⟨sx H [0,3] z,bH z<|?_⟩
     obtain ⟨q39,c4,rfl⟩:=H.rowform (i:=6) z
     refine ss 2 E H z F4 z λ w H=>nt<|bG<|?_
     clear hI
     refine aA<|wR<|aH<|zJ E z (pR (i:=1) (us:=[p,q]) H z z z U25 z dF) (pR (i:=2) (us:=[.int .i64 f,.string g,.string k,.int .i64 l,(.slice q39 o.length c4)]) H z z z U93 z F4)<|have H:=H.thaw (i:=6) z;have H:=H.drs [0,0,0,0,0,0];?_
     cases m
     exact X3 ⟨z,H.reads (aD (t1 (d _ s)) (aD (t1 (d _ t)) (aD m0 (λ r hr=>(t1 (d r hr))))))⟩
    ·refine wK<|aA<|wS<|dz [0,0,0,0,0,0,0,0,1,2] [3] H λ w W0 hI H=>fn 3 E z λ a E=>fbn E [y,A] z (wn z) z z z z m0 z U25 z dF λ a E=>fn 3 E z λ a E=>fbn E [.int .i64 f,.string g,.string k,.int .i64 l,n] z (wn z) z z z z m0 z U93 z F4 λ a E=>bQ z<|?_
     obtain ⟨q41,c5,rfl⟩:=H.rowform (i:=4) z
     obtain ⟨q43,c6,rfl⟩:=H.rowform (i:=5) z
     refine ss 1 E H z dF z λ w H=>nt<|⟨sx H [3] z,bH z<|?_⟩
     obtain ⟨q45,c7,rfl⟩:=H.rowform (i:=6) z
     refine ss 2 E H z F4 z λ w H=>nt<|bG<|?_
     clear hI
     refine aA<|wR<|zJ E z (pR (i:=1) (us:=[(.slice q41 B.length c5),(.slice q43 C.length c6)]) H z z z U25 z dF) (pR (i:=2) (us:=[.int .i64 f,.string g,.string k,.int .i64 l,(.slice q45 o.length c7)]) H z z z U93 z F4)<|have H:=H.thaw (i:=4) z;have H:=H.thaw (i:=4) z;have H:=H.thaw (i:=4) z;have H:=H.drs [0,0,0,0];?_
     cases m
     exact X3 ⟨z,H.rdx [2,1,0] z (λ r hr=>(t3 (d r hr)))⟩

def kG(c:List cN)(d:List cN):Nat->Int->Option Bool
  | 0,_=>none
  | i+1,b=>
    if (decide (b < (c.length:Int)))=true then ((idx c b).bind λ e=>(idx d b).bind λ f=>(rE e f).bind λ g=>if (!g)=true then (some (false)) else (kG c d i (IntKind.i64.wrap (b+1)))) else (some (true))
def qR(b:List cN)(c:List cN):Option Bool:=
  if ((b.length:Int) != (c.length:Int))=true then (some (false)) else (kG b c (((b.length:Int) - 0:Int).toNat+1) 0)
theorem Cs{p q:Value}{n s:List cN}(H:Sep w (Fo) rs)(i:rSl aY p n ∈ rs)(o:rSl aY q s ∈ rs){r:Bool}(m:qR n s=some r) :
    Cf 16 [p,q] w λ v w'=>.bool r=v/\Sep w' (Fo) (rs):=by
 unfold qR at m
 refine ent Tryz.func16 z Tryz.ntmps16 z z λ a E=>sq<|pn 1 E z λ a E=>wS<|sp 1 E z λ a E=>lS E H i U40 z λ a E=>pr 1 E z λ a E=>lS E H o U40 z λ a E=>pn 1 E z λ a E=>wif E m z (λ m=>?_) λ m=>?_
 ·refine sq<|pn 1 E z λ a E=>wR<|aH<|o1 E z<|?_
  cases m
  exact ⟨z,H.reads Y0⟩
 ·refine wK<|aA<|wS<|sq<|pn 1 E z λ a E=>wB<|bL (λ g a w=>∃ t,Jn 27 a w [(0,p),(1,q),(5,.int .i64 t)] (Fo) rs (kG n s g t=some r)) (((n.length:Int) - 0:Int).toNat+1) ?_ ?_
  ·exact ⟨_,_,E.to z,H,Y0,m⟩
  ·clear E H m
   rintro g a w ⟨t,M,E,H,b,m⟩
   cases g with
   | zero=>exact (bF m z).elim
   | succ g=>
    unfold kG at m
    refine wS<|sp 2 E z λ a E=>lS E H (b _ i) U40 z λ a E=>pn 1 E z λ a E=>wif E m z (λ m=>?_) λ m=>?_
    ·refine wK<|aA<|wS<|wB<|wS<|?_
     obtain ⟨N,H⟩:=H.raw (b _ i)
     obtain ⟨O,H⟩:=H.raw (t1 (b _ o))
     refine dw [(0,0),(1,0),(2,0),(3,0),(4,0),(5,0),(6,0),(7,0),(8,1),(9,0)] [] [1,0] H (by kernel_rfl) (λ _ _ _ h=>False.elim h.2) λ w W0 hI H=>fn 2 E z λ a E=>bd m λ e u m=>?_
     obtain ⟨q14,Q,x,j⟩:=fB (P:=Tryz.prog) (k:=.i64) hI (fA (.head _)) U40 F4 u
     refine fv E z (λ w hW=>gO E z z z (x w)) λ a E=>?_
     obtain ⟨_,y⟩:=Wo hI j
     obtain ⟨K,A,-⟩:=K8 y
     have c:=j
     rw [A] at c
     have B:=Zy c (λ _ _ h=>Z5 h)
     refine fv E z (λ w hW=>kK E z z (Zz (cs:=[.int .i64 e.Err,.string e.Path,.string e.Data,.int .i64 e.Version,K]) (DR.ir c) U93 z F4 w hW)) λ a E=>fn 2 E z λ a E=>bd m λ f C m=>?_
     obtain ⟨q25,R,D,l⟩:=fB (P:=Tryz.prog) (k:=.i64) hI (fA (.tail _ (.head _))) U40 F4 C
     refine fv E z (λ w hW=>gO E z z z (D w)) λ a E=>?_
     obtain ⟨_,F⟩:=Wo hI l
     obtain ⟨L,G,-⟩:=K8 F
     have d:=l
     rw [G] at d
     have I:=Zy d (λ _ _ h=>Z5 h)
     refine fv E z (λ w hW=>kK E z z (Zz (cs:=[.int .i64 f.Err,.string f.Path,.string f.Data,.int .i64 f.Version,L]) (DR.ir d) U93 z F4 w hW)) λ a E=>have H:=H.dr (aD mm1 (aD m0 (bI))) B;have H:=H.dr (aD mm2 (aD mm1 (bI))) I;bQ z<|bd m λ S J m=>xk2 E z (cf_ 58) (Dl H mm1 m0 J) λ w H a E=>nt<|⟨⟨_,_,H,(bC),(aD mm3 (aD mm2 (bI)))⟩,fn 1 E z λ a E=>bG<|?_⟩
     clear hI
     refine aA<|wif E m z (λ m=>?_) λ m=>?_
     ·refine sq<|pn 1 E z λ a E=>wR<|bM<|aH<|aH<|bM<|aH<|o1 E z<|?_
      cases m
      exact ⟨z,H.reads (Y4 b)⟩
     ·exact wK<|bR<|aA<|wG<|pn 3 E z λ a E=>⟨g,nL g,_,_,E.to z,H,(Y4 b),m⟩
    ·refine wX<|aW<|aW<|cT<|aA<|sq<|pn 1 E z λ a E=>wR<|o1 E z<|?_
     cases m
     exact ⟨z,H.reads b⟩

def mQ(x1:aR)(c:Int):Option Bool:=
  if (decide (c ≥ 3000))=true then (some (true)) else ((tJ x1.Nodes).bind λ b=>some (b))
def hU(x1:aR):Nat->Int->Int->Option Bool
  | 0,_,_=>none
  | e+1,b,c=>
    if (decide (c < (x1.Turns.length:Int)))=true then (if (decide (b < 3000))=true then ((idx x1.Turns c).bind λ d=>hU x1 e (IntKind.i64.wrap (b+(min (d.Dir.size:Int) 3000))) (IntKind.i64.wrap (c+1))) else (mQ x1 b)) else (mQ x1 b)
def qC(x1:aR):Option Bool:=
  hU x1 3002 (x1.Turns.length:Int) 0
theorem R6{x1:aR}{k l:Value}(H:Sep w (Fo) rs)(s:rSl aB k x1.Nodes ∈ rs)(f:rSl aC l x1.Turns ∈ rs){r:Bool}(m:qC x1=some r) :
    Cf 10 [.agg #[k,l]] w λ v w'=>.bool r=v/\Sep w' (Fo) (rs):=by
 unfold qC at m
 refine ent Tryz.func10 z Tryz.ntmps10 z z λ a E=>sq<|bx E H z λ n w a H E=>pr 1 E z λ a E=>xp 1 E z λ a E=>lb2 E H 0 U23 z λ a E=>lS E H f U23 z λ a E=>pr 1 E z λ a E=>nt<|aN (λ a w=>∃ o,Jn 36 a w [(1,pt n 0),(3,.int .i64 o)] (Blk n 25 [k,l]::Fo) rs (mQ x1 o=some r)) ?_ ?_
 ·refine sq<|pn 1 E z λ a E=>wB<|bL (λ e a w=>∃ g i,Jn 36 a w [(1,pt n 0),(3,.int .i64 g),(4,.int .i64 i)] (Blk n 25 [k,l]::Fo) rs (hU x1 e g i=some r)) (3002) ?_ ?_
  ·exact X3 ⟨E.to z,H,Y0,m⟩
  ·clear E H m
   rintro e a w ⟨g,i,x,E,H,c,m⟩
   cases e with
   | zero=>exact (bF m z).elim
   | succ e=>
    unfold hU at m
    refine wS<|sp 2 E z λ a E=>lb2 E H 0 U23 z λ a E=>lS E H (c _ f) U23 z λ a E=>pr 2 E z λ a E=>cs m (λ d m=>?_) λ d m=>?_
    ·refine pk 3 E (kc 13 z d) z λ a E=>nt<|wif E m z (λ m=>?_) λ m=>?_
     ·exact wK<|aA<|wS<|wB<|wG<|pr 2 E z λ a E=>lb2 E H 0 U23 z λ a E=>pr 1 E z λ a E=>bd m λ u p m=>dP E H (wn z) z z z z z (c _ f) U23 rW p λ q20 a H E=>have H:=H.derive1 m0 (rAt kS (q20.add 0) u.Dir) (λ ok h=>Pd h);pr 1 E z λ a E=>sv2 E z (vK E H z z m0 U9 z) λ a E=>pr 1 E z λ a E=>sv2 E z (Mn (t:=0) E z z z) λ a E=>pr 2 E z λ a E=>wN<|bR<|aA<|wG<|pn 3 E z λ a E=>⟨e,nL e,X3 ⟨E.to z,H,(Y2 c),m⟩⟩
     ·exact wX<|aW<|aW<|cT<|aA<|⟨_,_,E.to z,H,c,m⟩
    ·exact pk 3 E (kc 13 z d) z λ a E=>nt<|wp_cond_false (E.eval z)<|wX<|aW<|aW<|cT<|aA<|⟨_,_,E.to z,H,c,m⟩
 ·clear E H m
  rintro a w ⟨o,y,E,H,j,m⟩
  unfold mQ at m
  refine sp 3 E z λ a E=>cs m (λ b m=>?_) λ b m=>?_
  ·refine pk 5 E (kc 31 z b) z λ a E=>nt<|wR<|o1 E z<|have H:=H.drop 0;?_
   cases m
   exact ⟨z,H.reads j⟩
  ·refine pk 1 E (kc 31 z b) z λ a E=>gl 31 E H 0 b U22 z λ a E=>bd m λ A q m=>gc 31 E b z (cf_ 39) (Gh H (j _ s) q)<|?_
   rintro _ w ⟨rfl,H⟩ a E
   refine pk 2 E (kc 31 z b) z λ a E=>nt<|wR<|o1 E z<|have H:=H.drop 0;?_
   cases m
   exact ⟨z,H.reads j⟩

def pG(x1:bE):Option Bool:=
  if (decide ((x1.Dir.size:Int) > 3000))=true then (some (true)) else (if (decide ((x1.Path.size:Int) > 3000))=true then (some (true)) else (some (decide ((x1.Data.size:Int) > 3000))))
theorem Bb{x1:bE}(H:Sep w (Fo) rs){r:Bool}(m:pG x1=some r) :
    Cf 89 [.agg (cB x1).toArray] w λ v w'=>.bool r=v/\Sep w' (Fo) (rs):=by
 unfold pG at m
 refine ent Tryz.func89 z Tryz.ntmps89 z z λ a E=>sq<|bx E H z λ d w a H E=>pr 1 E z λ a E=>xp 1 E z λ a E=>lb2 E H 0 U9 z λ a E=>pr 3 E z λ a E=>cs m (λ b m=>?_) λ b m=>?_
 ·refine pk 12 E (kc 7 z b) z λ a E=>nt<|wR<|o1 E z<|have H:=H.drop 0;?_
  cases m
  exact ⟨z,H.reads Y0⟩
 ·refine pk 1 E (kc 7 z b) z λ a E=>gl 7 E H 0 b U9 z λ a E=>pk 4 E (kc 7 z b) z λ a E=>cs m (λ c m=>?_) λ c m=>?_
  ·refine pk 6 E (kc 13 z c) z λ a E=>nt<|wR<|o1 E z<|have H:=H.drop 0;?_
   cases m
   exact ⟨z,H.reads Y0⟩
  ·refine pk 1 E (kc 13 z c) z λ a E=>gl 13 E H 0 c U9 z λ a E=>pk 4 E (kc 13 z c) z λ a E=>nt<|wR<|o1 E z<|have H:=H.drop 0;?_
   cases m
   exact ⟨z,H.reads Y0⟩

def hX(b:List cR):Nat->Int->Option Bool
  | 0,_=>none
  | e+1,c=>
    if (decide (c < (b.length:Int)))=true then ((idx b c).bind λ f=>(pG f.Part).bind λ d=>if d=true then (some (true)) else (hX b e (IntKind.i64.wrap (c+1)))) else (some (false))
def nE(b:List cR):Option Bool:=
  if (decide ((b.length:Int) > 60))=true then (some (true)) else (hX b (((b.length:Int) - 0:Int).toNat+1) 0)
theorem Ac{f:Value}{e:List cR}(H:Sep w (Fo) rs)(d:rSl bT f e ∈ rs){r:Bool}(m:nE e=some r) :
    Cf 40 [f] w λ v w'=>.bool r=v/\Sep w' (Fo) (rs):=by
 unfold nE at m
 refine ent Tryz.func40 z Tryz.ntmps40 z z λ a E=>sq<|pn 1 E z λ a E=>wS<|sp 1 E z λ a E=>lS E H d U26 z λ a E=>pr 1 E z λ a E=>nt<|wif E m z (λ m=>?_) λ m=>?_
 ·refine sq<|pn 1 E z λ a E=>wR<|aH<|o1 E z<|?_
  cases m
  exact ⟨z,H.reads Y0⟩
 ·refine wK<|aA<|wS<|sq<|pn 1 E z λ a E=>wB<|bL (λ c a w=>∃ g,Jn 19 a w [(0,f),(3,.int .i64 g)] (Fo) rs (hX e c g=some r)) (((e.length:Int) - 0:Int).toNat+1) ?_ ?_
  ·exact ⟨_,_,E.to z,H,Y0,m⟩
  ·clear E H m
   rintro c a w ⟨g,l,E,H,b,m⟩
   cases c with
   | zero=>exact (bF m z).elim
   | succ c=>
    unfold hX at m
    refine wS<|sp 2 E z λ a E=>lS E H (b _ d) U26 z λ a E=>pn 1 E z λ a E=>wif E m z (λ m=>?_) λ m=>?_
    ·refine wK<|aA<|wS<|wB<|sp 2 E z λ a E=>bd m λ k j m=>dP E H (wn z) z z z z z (b _ d) U26 T7 j λ q9 a H E=>have H:=H.derive1 m0 (rAt cP (q9.add 1) k.Part) (λ ok h=>Nk h);pr 1 E z λ a E=>ldf Bq E H z z z z z m0 U97 z mC λ a E=>bd m λ n i m=>xk2 E z (cf_ 89) (Bb H i) λ w H a E=>nt<|wif E m z (λ m=>?_) λ m=>?_
     ·refine sq<|pn 1 E z λ a E=>wR<|bM<|aH<|aH<|bM<|aH<|o1 E z<|?_
      cases m
      exact ⟨z,H.reads (Y2 b)⟩
     ·exact wK<|bR<|aA<|wG<|pn 3 E z λ a E=>⟨c,nL c,_,_,E.to z,H,(Y2 b),m⟩
    ·refine wX<|aW<|aW<|cT<|aA<|sq<|pn 1 E z λ a E=>wR<|o1 E z<|?_
     cases m
     exact ⟨z,H.reads b⟩

def lB(x1:aR)(e:aR):Nat->Int->Option Bool
  | 0,_=>none
  | f+1,b=>
    if (decide (b < (x1.Turns.length:Int)))=true then ((idx x1.Turns b).bind λ c=>(idx e.Turns b).bind λ d=>if (!((sEq c.Dir d.Dir) && (c.Next == d.Next)))=true then (some (false)) else (lB x1 e f (IntKind.i64.wrap (b+1)))) else (some (true))
def rI(x1:aR)(c:aR)(b:Bool):Option Bool:=
  if b=true then (some (false)) else (lB x1 c (((x1.Turns.length:Int) - 0:Int).toNat+1) 0)
def oE(x1:aR)(b:aR):Option Bool:=
  (uV x1.Nodes b.Nodes).bind λ c=>if (!c)=true then (rI x1 b true) else (rI x1 b ((x1.Turns.length:Int) != (b.Turns.length:Int)))
theorem W4{x1 j:aR}{s t u x:Value}(H:Sep w (Fo) rs)(I:rSl aB s x1.Nodes ∈ rs)(l:rSl aC t x1.Turns ∈ rs)(J:rSl aB u j.Nodes ∈ rs)(n:rSl aC x j.Turns ∈ rs){r:Bool}(m:oE x1 j=some r) :
    Cf 14 [.agg #[s,t],.agg #[u,x]] w λ v w'=>.bool r=v/\Sep w' (Fo) (rs):=by
 unfold oE at m
 refine ent Tryz.func14 z Tryz.ntmps14 z z λ a E=>sq<|bx E H z λ d w a H E=>bx E H z λ e w a H E=>pn 1 E z λ a E=>wS<|aN (λ a w=>∃ o,Jn 39 a w [(2,pt d 0),(3,pt e 0),(20,.bool o)] (Blk d 25 [s,t]::Blk e 25 [u,x]::Fo) rs (rI x1 j o=some r)) ?_ ?_
 ·refine wG<|pr 1 E z λ a E=>lb2 E H 1 U22 z λ a E=>pr 1 E z λ a E=>lb2 E H 0 U22 z λ a E=>bd m λ M y m=>xk2 E z (cf_ 55) (Hm H I J y) λ w H a E=>pr 2 E z λ a E=>cs m (λ b m=>?_) λ b m=>?_
  ·exact pk 8 E (kc 12 z b) z λ a E=>nt<|have H:=H.frs [0,1] z;⟨_,_,E.to z,H,Y0,m⟩
  ·exact pk 1 E (kc 12 z b) z λ a E=>gl 12 E H 1 b U23 z λ a E=>gv 12 E b z (tG E H z z l U23) λ a E=>pk 1 E (kc 12 z b) z λ a E=>gl 12 E H 0 b U23 z λ a E=>gv 12 E b z (tG E H z z n U23) λ a E=>pk 2 E (kc 12 z b) z λ a E=>nt<|have H:=H.frs [0,1] z;⟨_,_,E.to z,H,Y0,m⟩
 ·clear E H m
  rintro a w ⟨o,K,E,H,p,m⟩
  unfold rI at m
  refine wif E m z (λ m=>?_) λ m=>?_
  ·refine sq<|pn 1 E z λ a E=>wR<|aH<|o1 E z<|have H:=H.drs [0,0];?_
   cases m
   exact ⟨z,H.reads p⟩
  ·refine wK<|aA<|wS<|sq<|pn 1 E z λ a E=>wB<|bL (λ i a w=>∃ q,Jn 39 a w [(2,pt d 0),(3,pt e 0),(5,.int .i64 q)] (Blk d 25 [s,t]::Blk e 25 [u,x]::Fo) rs (lB x1 j i q=some r)) (((x1.Turns.length:Int) - 0:Int).toNat+1) ?_ ?_
   ·exact ⟨_,_,E.to z,H,p,m⟩
   ·clear E H m
    rintro i a w ⟨q,L,E,H,c,m⟩
    cases i with
    | zero=>exact (bF m z).elim
    | succ i=>
     unfold lB at m
     refine wS<|sp 2 E z λ a E=>lb2 E H 0 U23 z λ a E=>lS E H (c _ l) U23 z λ a E=>pn 1 E z λ a E=>wif E m z (λ m=>?_) λ m=>?_
     ·refine wK<|aA<|wS<|wB<|wS<|?_
      obtain ⟨N,H⟩:=H.raw (c _ l)
      obtain ⟨O,H⟩:=H.raw (t1 (c _ n))
      refine dw [(0,0),(1,0),(2,0),(3,0),(4,0),(5,0),(6,0),(7,0),(8,0),(9,0),(10,0)] [0,1] [1,0] H (by kernel_rfl) (λ _ _ _ h=>False.elim h.2) λ w W0 hI H=>fn 1 E z λ a E=>fb2 E m0 U23 z λ a E=>fn 1 E z λ a E=>bd m λ f A m=>?_
      obtain ⟨q23,Q,B,C⟩:=fB (P:=Tryz.prog) (k:=.i64) hI (fA (.head _)) U23 rW A
      refine fv E z (λ w hW=>gO E z z z (B w)) λ a E=>fv E z (λ w hW=>kK E z z (yJ (cs:=[.string f.Dir,.int .i64 f.Next]) (DR.ir (w9 C)) (λ _ _ _ h=>yL h) U89 z rW w hW)) λ a E=>fn 1 E z λ a E=>fb2 E mm1 U23 z λ a E=>fn 1 E z λ a E=>bd m λ g D m=>?_
      obtain ⟨q29,R,F,G⟩:=fB (P:=Tryz.prog) (k:=.i64) hI (fA (.tail _ (.head _))) U23 rW D
      refine fv E z (λ w hW=>gO E z z z (F w)) λ a E=>fv E z (λ w hW=>kK E z z (yJ (cs:=[.string g.Dir,.int .i64 g.Next]) (DR.ir (w9 G)) (λ _ _ _ h=>yL h) U89 z rW w hW)) λ a E=>fv E z (λ w hW=>(xJ E z z z (v:=.bool (!((sEq f.Dir g.Dir) && (f.Next == g.Next)))) (Gu PR (V8 U89 PQ (rX (by rfl) (by kernel_rfl) (by kernel_rfl) (O1 U9) (Ao (by rfl) (by kernel_rfl) (by kernel_rfl) (A3 U2))))))) λ a E=>bG<|?_
      clear hI
      refine aA<|wif E m z (λ m=>?_) λ m=>?_
      ·refine sq<|pn 1 E z λ a E=>wR<|bM<|aH<|aH<|bM<|aH<|o1 E z<|have H:=H.drs [0,0];?_
       cases m
       exact ⟨z,H.reads (Y2 c)⟩
      ·exact wK<|bR<|aA<|wG<|pn 3 E z λ a E=>⟨i,nL i,_,_,E.to z,H,(Y2 c),m⟩
     ·refine wX<|aW<|aW<|cT<|aA<|sq<|pn 1 E z λ a E=>wR<|o1 E z<|have H:=H.drs [0,0];?_
      cases m
      exact ⟨z,H.reads c⟩

def xD(g:List cR)(x1:aR):Nat->Q1->Int->dZ->dR->Option (aR×Q1×Int×Int)
  | 0,_,_,_,_=>none
  | j+1,d,c,e,f=>
    if (decide (c < (g.length:Int)))=true then ((idx g c).bind λ i=>(W3 (⟨e,f⟩:aR) i.Part).bind λ b=>if (b.2.Err != 0)=true then (some (x1,[],b.2.Err,c)) else ((ck (d.length+([b.2]:List cN).length <= LIM)).bind λ k=>xD g x1 j (d ++ ([b.2]:List cN)) (IntKind.i64.wrap (c+1)) b.1.Nodes b.1.Turns)) else (some ((⟨e,f⟩:aR),d,0,0))
def C7(x1:aR)(b:List cR):Option (aR×Q1×Int×Int):=
  xD b x1 (((b.length:Int) - 0:Int).toNat+1) [] 0 x1.Nodes x1.Turns
theorem Ct{x1:aR}{s t K:Value}{y:List cR}(H:Sep w (Fo) rs)(n:rSl aB s x1.Nodes ∈ rs)(o:rSl aC t x1.Turns ∈ rs)(D:rSl bT K y ∈ rs)(O:N2 Tryz.prog ∈ rs){r:aR×Q1×Int×Int}(m:C7 x1 y=some r) :
    Cf 23 [.agg #[s,t],K] w λ v w'=>∃ P Q R,.tuple #[.agg #[P,Q],R,.int .i64 r.2.2.1,.int .i64 r.2.2.2]=v/\Sep w' (Row 93 aY R r.2.1::Fo) (rSl aB P r.1.Nodes::rSl aC Q r.1.Turns::rs):=by
 unfold C7 at m
 refine ent Tryz.func23 z Tryz.ntmps23 z z λ a E=>sq<|bx E H z λ F w a H E=>al2 E H z oC λ G w a H E=>pr 3 E z λ a E=>nx<|ln 1 [s,t] E H U25 z dF λ a E=>al2 E H z oC λ I w a H E=>ss 0 E H z dF (mI H n o) λ w H=>nx<|pn 1 E z λ a E=>wS<|sp 1 E z λ a E=>lS E H D U26 z λ a E=>pn 1 E z λ a E=>wB<|bL (λ u a w=>∃ A g j B C p q f,Env 44 a [(2,pt F 0),(4,pt G 0),(8,pt I 0),(9,A),(15,K),(16,.int .i64 (y.length:Int)),(17,.int .i64 C)]/\Sep w (Blk F 25 [s,t]::Blk G 25 [nS,nS]::Blk I 25 [g,j]::Row 93 aY A B::Fo) f/\(∀ r,r ∈ rs->r ∈ f)/\rSl aB g p ∈ f/\rSl aC j q ∈ f/\xD y x1 u B C p q=some r) (((y.length:Int) - 0:Int).toNat+1) ?_ ?_
 ·exact have H:=H.nilRow 93 aY;have H:=H.frs [0,1,2,3] z;X8 ⟨E.to z,H,Y0,n,o,m⟩
 ·clear E H m
  rintro u a w ⟨A,g,j,B,C,p,q,f,E,H,c,k,l,m⟩
  cases u with
  | zero=>exact (bF m z).elim
  | succ u=>
   unfold xD at m
   refine sq<|pn 1 E z λ a E=>wS<|wif E m z (λ m=>?_) λ m=>?_
   ·refine wK<|aA<|wS<|wB<|sp 1 E z λ a E=>bd m λ S L m=>dP E H (wn z) z z z z z (c _ D) U26 T7 L λ q26 a H E=>ldf y5 E H z z z z z m0 U99 z T7 λ a E=>al2 E H z Yj λ W w a H E=>pr 1 E z λ a E=>ss 0 E H z T7 z λ w H=>nx<|ln 3 [g,j] E H U25 z dF λ a E=>pr 1 E z λ a E=>ln 0 (cB S.Part) E H U97 z mC λ a E=>bd m λ b M m=>xc2 E z (cf_ 64) (BB (x1:=(⟨p,q⟩:aR)) H (t1 k) (t1 l) (t1 (c _ O)) M)<|?_
    rintro _ w ⟨T,U,V,rfl,H⟩ a E
    refine pr 3 E z λ a E=>al2 E H z oC λ X w a H E=>al2 E H z LQ λ Y w a H E=>ss 1 E H z dF (mI H m0 mm1) λ w H=>ss 0 E H z F4 (Pg H mm2) λ w H=>nt<|wS<|sp 1 E z λ a E=>lb2 E H 0 U41 z λ a E=>pn 1 E z λ a E=>wif E m z (λ m=>?_) λ m=>?_
    ·refine wS<|dz [0,0,0,0,1,1,1,2] [0,3] H λ w W0 hI H=>fbn E [s,t] z (wn z) z z z z mm1 z U25 z dF λ a E=>fn 1 E z λ a E=>fb2 E m0 U41 z λ a E=>fn 1 E z λ a E=>bQ z<|Mo (i:=4) E H (wn z) z z z z z z dF z (mI H (t4 (c _ n)) (t4 (c _ o))) λ w H=>nt<|⟨sx H [0,3] z,bQ z<|pn 1 E z λ a E=>⟨sx H [0,3] z,bQ z<|pn 1 E z λ a E=>⟨sx H [0,3] z,bH z<|pn 1 E z λ a E=>bG<|?_⟩⟩⟩
     clear hI
     refine aA<|wR<|aH<|bM<|aH<|aH<|bM<|aH<|FP E z (pR (i:=4) (us:=[s,t]) H z z z U25 z dF) (rvT z) (rvT z) (rvT z)<|have H:=H.nilRow 93 aY;have H:=H.drs [1,1,1,1,1,1,1];?_
     cases m
     exact X3 ⟨z,H.reads (aD (t4 (c _ n)) (aD (t4 (c _ o)) (λ r hr=>(t4 (c r hr)))))⟩
    ·refine wK<|aA<|sq<|ln 1 [T,U] E H U25 z dF λ a E=>ss 5 E H z dF (mI H m0 mm1) λ w H=>nt<|wG<|pr 1 E z λ a E=>ln 0 (P7 b.2 V) E H U93 z F4 λ a E=>?_
     obtain ⟨q35,J,rfl⟩:=H.slform mm2
     exact xK (e:=93) (d:=aY) (cs:=[.int .i64 b.2.Err,.string b.2.Path,.string b.2.Data,.int .i64 b.2.Version,(.slice q35 b.2.Names.length J)]) (xs:=[b.2]) E H (wn z) z z z (E.evs z) (by kernel_rfl) z (λ ok hr=>(Rows.single (d:=aY) (cs:=[.int .i64 b.2.Err,.string b.2.Path,.string b.2.Data,.int .i64 b.2.Version,(.slice q35 b.2.Names.length J)]) (x:=b.2) (Nl (hr _ mm2)))) λ Z w a H E=>bk m λ N m=>eZ (i:=6) E H (wn z) z z z z z z (nW m0) U40 PJ z N z λ b0 w a H E=>pr 1 E z λ a E=>wN<|bR<|aA<|wG<|pr 2 E z λ a E=>nt<|have H:=H.drs [0,0,0];⟨u,nL u,X8 ⟨E.to z,H,(Y5 c),mm1,mm2,m⟩⟩
   ·refine wX<|aW<|aW<|cT<|aA<|sq<|ln 2 [g,j] E H U25 z dF λ a E=>pr 1 E z λ a E=>ss 1 E H z dF (mI H k l) λ w H=>pn 3 E z λ a E=>wR<|FP E z (pR (i:=1) (us:=[g,j]) H z z z U25 z dF) (rvT z) (rvT z) (rvT z)<|have H:=H.drs [0,0,0];?_
    cases m
    exact X3 ⟨z,H.reads (aD k (aD l (c)))⟩

def kC(rec_1:Int->Option Bool)(c:Int)(b:Bool):Option Bool:=
  if b=true then (some (false)) else (rec_1 (IntKind.i64.wrap (c+1)))
def fW(b:List aF):Nat->Int->Option Bool
  | 0,_=>none
  | d+1,c=>
    if (decide (c < (b.length:Int)))=true then ((idx b c).bind λ e=>(fU e.Prefix).bind λ f=>if (!f)=true then (kC (fW b d) c true) else (if (decide (e.Epoch < 0))=true then (kC (fW b d) c true) else (if (decide (e.Epoch > 281474976710656))=true then (kC (fW b d) c true) else (if (decide (e.State < 1))=true then (kC (fW b d) c true) else (if (decide (e.State > 3))=true then (kC (fW b d) c true) else (if (decide (c > 0))=true then ((idx b (IntKind.i64.wrap (c - 1))).bind λ g=>kC (fW b d) c (!(sLt g.Prefix e.Prefix))) else (kC (fW b d) c false))))))) else (some (decide ((b.length:Int) <= 32)))
def oO(b:List aF):Option Bool:=
  fW b (((b.length:Int) - 0:Int).toNat+1) 0
theorem B2{p:Value}{l:List aF}(H:Sep w (Fo) rs)(o:rSl aO p l ∈ rs){r:Bool}(m:oO l=some r) :
    Cf 38 [p] w λ v w'=>.bool r=v/\Sep w' (Fo) (rs):=by
 unfold oO at m
 refine ent Tryz.func38 z Tryz.ntmps38 z z λ a E=>sq<|pn 1 E z λ a E=>wS<|sp 1 E z λ a E=>lS E H o U32 z λ a E=>pr 1 E z λ a E=>nt<|wB<|bL (λ n a w=>∃ q,Jn 55 a w [(0,p),(5,p),(6,.int .i64 (l.length:Int)),(7,.int .i64 q)] (Fo) rs (fW l n q=some r)) (((l.length:Int) - 0:Int).toNat+1) ?_ ?_
 ·exact ⟨_,_,E.to z,H,Y0,m⟩
 ·clear E H m
  rintro n a w ⟨q,F,E,H,c,m⟩
  cases n with
  | zero=>exact (bF m z).elim
  | succ n=>
   unfold fW at m
   refine sq<|pn 1 E z λ a E=>wS<|wif E m z (λ m=>?_) λ m=>?_
   ·refine wK<|aA<|wS<|wB<|sp 1 E z λ a E=>bd m λ M C m=>dP E H (wn z) z z z z z (c _ o) U32 kA C λ q9 a H E=>ldf lZ E H z z z z z m0 U31 z kA λ a E=>al2 E H z Ph λ G w a H E=>pr 1 E z λ a E=>ss 0 E H z kA z λ w H=>nt<|aN (λ a w=>∃ s,Jn 55 a w [(0,p),(5,p),(6,.int .i64 (l.length:Int)),(7,.int .i64 q),(50,.bool s)] (Fo) rs (kC (fW l n) q s=some r)) ?_ ?_
    ·obtain ⟨I,H⟩:=H.raw (t1 (c _ o))
     refine dw [(0,0),(1,0),(2,1),(3,0),(4,0),(5,0),(6,0),(7,0),(8,0),(9,0),(10,0),(11,0),(12,0),(13,0),(14,0),(15,0),(16,0),(17,0),(18,0),(19,0),(20,0),(21,0),(22,0),(23,0),(24,0),(25,0),(26,0),(27,0),(28,0),(29,0),(30,0),(31,0),(32,0),(33,0),(34,0),(35,0),(36,0),(37,0),(38,0)] [0] [0] H (by kernel_rfl) (λ _ _ _ h=>False.elim h.2) λ w W0 hI H=>fn 1 E z λ a E=>fb2 E m0 U9 z λ a E=>bQ z<|bd m λ J u m=>xk2 E z (cf_ 83) (jQ H u) λ w H a E=>nt<|⟨⟨_,_,H,(aJ m0 (bC)),(aD m0 (bI))⟩,fn 2 E z λ a E=>cs m (λ e m=>?_) λ e m=>?_⟩
     ·refine fk 34 E (kc 16 z e) z λ a E=>bG<|?_
      clear hI
      exact aA<|have H:=H.drop 0;⟨_,_,E.to z,H,(Y2 c),m⟩
     ·refine fk 1 E (kc 16 z e) z λ a E=>fb E z (ws' (d:=16) E z z z z e) z z z z m0 z U2 z λ a E=>fk 3 E (kc 16 z e) z λ a E=>cs m (λ f m=>?_) λ f m=>?_
      ·refine fk 29 E (kc 21 z f) z λ a E=>bG<|?_
       clear hI
       exact aA<|have H:=H.drop 0;⟨_,_,E.to z,H,(Y2 c),m⟩
      ·refine fk 1 E (kc 21 z f) z λ a E=>fb E z (ws' (d:=21) E z z z z f) z z z z m0 z U2 z λ a E=>fk 3 E (kc 21 z f) z λ a E=>cs m (λ g m=>?_) λ g m=>?_
       ·refine fk 24 E (kc 26 z g) z λ a E=>bG<|?_
        clear hI
        exact aA<|have H:=H.drop 0;⟨_,_,E.to z,H,(Y2 c),m⟩
       ·refine fk 1 E (kc 26 z g) z λ a E=>fb E z (ws' (d:=26) E z z z z g) z z z z m0 z U3 z λ a E=>fk 3 E (kc 26 z g) z λ a E=>cs m (λ i m=>?_) λ i m=>?_
        ·refine fk 19 E (kc 31 z i) z λ a E=>bG<|?_
         clear hI
         exact aA<|have H:=H.drop 0;⟨_,_,E.to z,H,(Y2 c),m⟩
        ·refine fk 1 E (kc 31 z i) z λ a E=>fb E z (ws' (d:=31) E z z z z i) z z z z m0 z U3 z λ a E=>fk 3 E (kc 31 z i) z λ a E=>cs m (λ j m=>?_) λ j m=>?_
         ·refine fk 14 E (kc 36 z j) z λ a E=>bG<|?_
          clear hI
          exact aA<|have H:=H.drop 0;⟨_,_,E.to z,H,(Y2 c),m⟩
         ·refine fk 3 E (kc 36 z j) z λ a E=>cs m (λ b m=>?_) λ b m=>?_
          ·refine fk 3 E (kc 39 z b) z λ a E=>bd m λ K x m=>?_
           obtain ⟨q25,L,y,A⟩:=fB (P:=Tryz.prog) (k:=.i64) hI (fA (.head _)) U32 kA x
           refine dL E z (ws' (d:=39) E z z z z b) z z (λ w hW=>gO E z z z (y w)) λ a E=>?_
           have B:=pF A (λ _ _ _ h=>vM h)
           refine fk 1 E (kc 39 z b) z λ a E=>fa E z (ws' (d:=39) E z z z z b) z z z z B U9 z λ a E=>fk 1 E (kc 39 z b) z λ a E=>fb E z (ws' (d:=39) E z z z z b) z z z z m0 z U9 z λ a E=>fk 3 E (kc' (kc 39 z b) 36 z j) z λ a E=>bG<|?_
           clear hI
           exact aA<|have H:=H.drop 0;⟨_,_,E.to z,H,(Y2 c),m⟩
          ·refine fk 11 E (kc' (kc 39 z b) 36 z j) z λ a E=>bG<|?_
           clear hI
           exact aA<|have H:=H.drop 0;⟨_,_,E.to z,H,(Y2 c),m⟩
    ·clear E H m
     rintro a w ⟨s,D,E,H,t,m⟩
     unfold kC at m
     refine wif E m z (λ m=>?_) λ m=>?_
     ·refine sq<|pn 1 E z λ a E=>wR<|bM<|aH<|aH<|bM<|aH<|o1 E z<|?_
      cases m
      exact ⟨z,H.reads t⟩
     ·exact wK<|bR<|aA<|wG<|pn 2 E z λ a E=>⟨n,nL n,_,_,E.to z,H,t,m⟩
   ·refine wX<|aW<|aW<|cT<|aA<|sp 1 E z λ a E=>lS E H (c _ o) U32 z λ a E=>pr 2 E z λ a E=>nt<|wR<|o1 E z<|?_
    cases m
    exact ⟨z,H.reads c⟩

def F9(d:ByteArray)(e:ByteArray)(f:Bool):Option Bool:=
  if f=true then (some (false)) else ((gZ d (ByteArray.mk #[47])).bind λ g=>(kT e g).bind λ b=>if b.2=true then (if (sEq b.1 (ByteArray.mk #[]))=true then (some (true)) else ((idx b.1.data.toList 0).bind λ c=>some ((c.toNat:Int) == 47))) else (some (false)))
def G1(b:ByteArray)(c:ByteArray):Option Bool:=
  (fU b).bind λ d=>if (!d)=true then (F9 c b true) else ((fU c).bind λ e=>F9 c b (!e))
theorem Hu{f g:ByteArray}(H:Sep w (Fo) rs){r:Bool}(m:G1 f g=some r) :
    Cf 65 [.string f,.string g] w λ v w'=>.bool r=v/\Sep w' (Fo) (rs):=by
 unfold G1 at m
 refine ent Tryz.func65 z Tryz.ntmps65 z z λ a E=>sq<|pn 1 E z λ a E=>wS<|aN (λ a w=>∃ i,Jn 32 a w [(0,.string f),(1,.string g),(14,.bool i)] (Fo) rs (F9 g f i=some r)) ?_ ?_
 ·refine wG<|pr 1 E z λ a E=>bd m λ p j m=>xk2 E z (cf_ 83) (jQ H j) λ w H a E=>pr 2 E z λ a E=>cs m (λ b m=>?_) λ b m=>?_
  ·exact pk 4 E (kc 10 z b) z λ a E=>nt<|⟨_,_,E.to z,H,Y0,m⟩
  ·refine pk 1 E (kc 10 z b) z λ a E=>bd m λ q k m=>gc 10 E b z (cf_ 83) (jQ H k)<|?_
   rintro _ w ⟨rfl,H⟩ a E
   exact pk 2 E (kc 10 z b) z λ a E=>nt<|⟨_,_,E.to z,H,Y0,m⟩
 ·clear E H m
  rintro a w ⟨i,s,E,H,e,m⟩
  unfold F9 at m
  refine wif E m z (λ m=>?_) λ m=>?_
  ·refine sq<|pn 1 E z λ a E=>wR<|aH<|o1 E z<|?_
   cases m
   exact ⟨z,H.reads e⟩
  ·refine wK<|aA<|sp 2 E z λ a E=>bd m λ u n m=>xk2 E z (cf_ 136) (Q3 H n) λ w H a E=>bd m λ x o m=>xk2 E z (cf_ 135) (R3 H o) λ w H a E=>pr 5 E z λ a E=>xp 2 E z λ a E=>cs m (λ c m=>?_) λ c m=>?_
   ·refine pk 3 E (kc 23 z c) z λ a E=>cs m (λ d m=>?_) λ d m=>?_
    ·refine pk 6 E (kc' (kc 26 z d) 23 z c) z λ a E=>nt<|wR<|o1 E z<|?_
     cases m
     exact ⟨z,H.reads e⟩
    ·refine pk 1 E (kc 26 z d) z λ a E=>bd m λ t l m=>gv 26 E d z (St E z z z U9 l) λ a E=>pk 4 E (kc' (kc 26 z d) 23 z c) z λ a E=>nt<|wR<|o1 E z<|?_
     cases m
     exact ⟨z,H.reads e⟩
   ·refine pk 9 E (kc 23 z c) z λ a E=>nt<|wR<|o1 E z<|?_
    cases m
    exact ⟨z,H.reads e⟩

def B3(rec_1:Int->Int->Option Int)(b:Int)(c:Int):Option Int:=
  rec_1 c (IntKind.i64.wrap (b+1))
def yD(rec_1:Int->Int->Option Int)(b:Int)(d:Int)(c:Bool):Option Int:=
  if c=true then (B3 rec_1 b b) else (B3 rec_1 b d)
def mJ(b:List aF)(e:ByteArray):Nat->Int->Int->Option Int
  | 0,_,_=>none
  | g+1,c,d=>
    if (decide (d < (b.length:Int)))=true then ((idx b d).bind λ f=>(G1 e f.Prefix).bind λ i=>if i=true then (if (decide (c < 0))=true then (yD (mJ b e g) d c true) else ((idx b c).bind λ j=>yD (mJ b e g) d c (decide ((f.Prefix.size:Int) > (j.Prefix.size:Int))))) else (yD (mJ b e g) d c false)) else ((oO b).bind λ k=>if (!k)=true then (some ((-1))) else (some (c)))
def mE(b:List aF)(c:ByteArray):Option Int:=
  mJ b c (((b.length:Int) - 0:Int).toNat+1) (-1) 0
theorem y7{g:Value}{f:List aF}{i:ByteArray}(H:Sep w (Fo) rs)(n:rSl aO g f ∈ rs){r:Int}(m:mE f i=some r) :
    Cf 24 [g,.string i] w λ v w'=>.int .i64 r=v/\Sep w' (Fo) (rs):=by
 unfold mE at m
 refine ent Tryz.func24 z Tryz.ntmps24 z z λ a E=>sp 1 E z λ a E=>nx<|pn 1 E z λ a E=>wS<|sp 1 E z λ a E=>lS E H n U32 z λ a E=>pn 1 E z λ a E=>wB<|bL (λ j a w=>∃ o l,Jn 41 a w [(0,g),(1,.string i),(5,.int .i64 o),(8,g),(9,.int .i64 (f.length:Int)),(10,.int .i64 l)] (Fo) rs (mJ f i j o l=some r)) (((f.length:Int) - 0:Int).toNat+1) ?_ ?_
 ·exact X3 ⟨E.to z,H,Y0,m⟩
 ·clear E H m
  rintro j a w ⟨o,l,I,E,H,c,m⟩
  cases j with
  | zero=>exact (bF m z).elim
  | succ j=>
   unfold mJ at m
   refine sq<|pn 1 E z λ a E=>wS<|wif E m z (λ m=>?_) λ m=>?_
   ·refine wK<|aA<|aN (λ a w=>∃ s,Jn 41 a w [(0,g),(1,.string i),(5,.int .i64 s),(8,g),(9,.int .i64 (f.length:Int)),(10,.int .i64 l)] (Fo) rs (B3 (mJ f i j) l s=some r)) ?_ ?_
    ·refine wB<|sp 1 E z λ a E=>bd m λ J t m=>dP E H (wn z) z z z z z (c _ n) U32 kA t λ q14 a H E=>ldf lZ E H z z z z z m0 U31 z kA λ a E=>al2 E H z Ph λ K w a H E=>pr 1 E z λ a E=>ss 0 E H z kA z λ w H=>nt<|aN (λ a w=>∃ p,Jn 41 a w [(0,g),(1,.string i),(5,.int .i64 o),(6,.int .i64 l),(8,g),(9,.int .i64 (f.length:Int)),(10,.int .i64 l),(34,.bool p)] (Fo) rs (yD (mJ f i j) l o p=some r)) ?_ ?_
     ·obtain ⟨L,H⟩:=H.raw (t1 (c _ n))
      refine dw [(0,0),(1,0),(2,0),(3,1),(4,0),(5,0),(6,0),(7,0),(8,0),(9,0),(10,0),(11,0),(12,0),(13,0),(14,0),(15,0),(16,0),(17,0),(18,0),(19,0)] [0] [0] H (by kernel_rfl) (λ _ _ _ h=>False.elim h.2) λ w W0 hI H=>fn 2 E z λ a E=>fb2 E m0 U9 z λ a E=>bQ z<|bd m λ M u m=>xk2 E z (cf_ 65) (Hu H u) λ w H a E=>nt<|⟨⟨_,_,H,(aJ m0 (bC)),(aD m0 (bI))⟩,fn 1 E z λ a E=>cs m (λ e m=>?_) λ e m=>?_⟩
      ·refine fk 3 E (kc 19 z e) z λ a E=>cs m (λ b m=>?_) λ b m=>?_
       ·refine fk 12 E (kc' (kc 22 z b) 19 z e) z λ a E=>bG<|?_
        clear hI
        exact aA<|have H:=H.drop 0;⟨_,_,E.to z,H,(Y2 c),m⟩
       ·refine fk 1 E (kc 22 z b) z λ a E=>fb E z (ws' (d:=22) E z z z z b) z z z z m0 z U9 z λ a E=>fk 3 E (kc 22 z b) z λ a E=>bd m λ N x m=>?_
        obtain ⟨q26,O,y,A⟩:=fB (P:=Tryz.prog) (k:=.i64) hI (fA (.head _)) U32 kA x
        refine dL E z (ws' (d:=22) E z z z z b) z z (λ w hW=>gO E z z z (y w)) λ a E=>?_
        have B:=pF A (λ _ _ _ h=>vM h)
        refine fk 1 E (kc 22 z b) z λ a E=>fa E z (ws' (d:=22) E z z z z b) z z z z B U9 z λ a E=>fk 4 E (kc' (kc 22 z b) 19 z e) z λ a E=>bG<|?_
        clear hI
        exact aA<|have H:=H.drop 0;⟨_,_,E.to z,H,(Y2 c),m⟩
      ·refine fk 15 E (kc 19 z e) z λ a E=>bG<|?_
       clear hI
       exact aA<|have H:=H.drop 0;⟨_,_,E.to z,H,(Y2 c),m⟩
     ·clear E H m
      rintro a w ⟨p,F,E,H,q,m⟩
      unfold yD at m
      refine wif E m z (λ m=>?_) λ m=>?_
      ·exact wG<|pr 2 E z λ a E=>wN<|bR<|aA<|⟨_,_,E.to z,H,q,m⟩
      ·exact wK<|bR<|aA<|⟨_,_,E.to z,H,q,m⟩
    ·clear E H m
     rintro a w ⟨s,G,E,H,C,m⟩
     unfold B3 at m
     exact wG<|pn 2 E z λ a E=>⟨j,nL j,X3 ⟨E.to z,H,C,m⟩⟩
   ·refine wX<|aW<|aW<|cT<|aA<|wS<|sp 1 E z λ a E=>bd m λ Q D m=>xk2 E z (cf_ 38) (B2 H (c _ n) D) λ w H a E=>pn 1 E z λ a E=>wif E m z (λ m=>?_) λ m=>?_
    ·refine sq<|pn 1 E z λ a E=>wR<|aH<|o1 E z<|?_
     cases m
     exact ⟨z,H.reads c⟩
    ·refine wK<|aA<|sq<|pn 2 E z λ a E=>wR<|o1 E z<|?_
     cases m
     exact ⟨z,H.reads c⟩

def oV(x1:aF)(b:ByteArray):Option Int:=
  (pS x1.Prefix b).bind λ c=>some (c)
theorem Do{x1:aF}{b:ByteArray}(H:Sep w (Fo) rs){r:Int}(m:oV x1 b=some r) :
    Cf 242 [.agg (qJ x1).toArray,.string b] w λ v w'=>.int .i64 r=v/\Sep w' (Fo) (rs):=by
 unfold oV at m
 refine ent Tryz.func242 z Tryz.ntmps242 z z λ a E=>sq<|bx E H z λ d w a H E=>pr 1 E z λ a E=>xp 1 E z λ a E=>lb2 E H 0 U9 z λ a E=>pr 1 E z λ a E=>bd m λ e c m=>xk2 E z (cf_ 113) (wH H c) λ w H a E=>pn 1 E z λ a E=>wR<|o1 E z<|have H:=H.drop 0;?_
 cases m
 exact ⟨z,H.reads Y0⟩

def cK(c:List aF)(e:ByteArray):Nat->Int->Int->Option yM
  | 0,_,_=>none
  | f+1,b,d=>
    if (decide (b < d))=true then ((idx c (IntKind.i64.wrap (sY .u64 (IntKind.u64.wrap (IntKind.i64.wrap (b+d))) 1))).bind λ k=>(oV k e).bind λ g=>if (decide (g < 0))=true then (cK c e f (IntKind.i64.wrap ((IntKind.i64.wrap (sY .u64 (IntKind.u64.wrap (IntKind.i64.wrap (b+d))) 1))+1)) d) else (cK c e f b (IntKind.i64.wrap (sY .u64 (IntKind.u64.wrap (IntKind.i64.wrap (b+d))) 1)))) else (if (decide (b < (c.length:Int)))=true then ((idx c b).bind λ i=>(oV i e).bind λ j=>some (b,j == 0)) else (some (b,false)))
def eR(b:List aF)(c:ByteArray):Option yM:=
  cK b c (((b.length:Int) - 0:Int).toNat+1) 0 (b.length:Int)
theorem wE{j:Value}{f:List aF}{i:ByteArray}(H:Sep w (Fo) rs)(g:rSl aO j f ∈ rs){r:Int×Bool}(m:eR f i=some r) :
    Cf 184 [j,.string i,.func (.func 242) #[] #[]] w λ v w'=>.tuple #[.int .i64 r.1,.bool r.2]=v/\Sep w' (Fo) (rs):=by
 unfold eR at m
 refine ent Tryz.func184 z Tryz.ntmps184 z z λ a E=>sp 2 E z λ a E=>xp 1 E z λ a E=>lS E H g U32 z λ a E=>pr 1 E z λ a E=>xp 3 E z λ a E=>nt<|wS<|wB<|bL (λ e a w=>∃ k l,Jn 49 a w [(0,j),(1,.string i),(2,.func (.func 242) #[] #[]),(8,.int .i64 (f.length:Int)),(9,.int .i64 k),(10,.int .i64 l)] (Fo) rs (cK f i e k l=some r)) (((f.length:Int) - 0:Int).toNat+1) ?_ ?_
 ·exact X3 ⟨E.to z,H,Y0,m⟩
 ·clear E H m
  rintro e a w ⟨k,l,s,E,H,c,m⟩
  cases e with
  | zero=>exact (bF m z).elim
  | succ e=>
   unfold cK at m
   refine wS<|sq<|pn 3 E z λ a E=>wif E m z (λ m=>?_) λ m=>?_
   ·refine wK<|aA<|wB<|sp 4 E z λ a E=>sv2 E z (Ee E z z z (by decide)) λ a E=>pr 2 E z λ a E=>xp 3 E z λ a E=>bd m λ A n m=>dP E H (wn z) z z z z z (c _ g) U32 kA n λ q11 a H E=>ldf lZ E H z z z z z m0 U31 z kA λ a E=>pr 1 E z λ a E=>bd m λ t o m=>bK E (wn z) z z (bO E z z z ((cf_ 242) _)) (Do H o)<|?_
    rintro _ w ⟨rfl,H⟩ a E
    refine pn 1 E z λ a E=>wif E m z (λ m=>?_) λ m=>?_
    ·exact wG<|pr 3 E z λ a E=>wN<|bR<|aA<|⟨e,nL e,X3 ⟨E.to z,H,(Y1 c),m⟩⟩
    ·exact wG<|pr 2 E z λ a E=>wN<|bR<|aA<|⟨e,nL e,X3 ⟨E.to z,H,(Y1 c),m⟩⟩
   ·refine wX<|aW<|aW<|cT<|aA<|sp 5 E z λ a E=>cs m (λ b m=>?_) λ b m=>?_
    ·refine pk 3 E (kc 39 z b) z λ a E=>bd m λ u p m=>dP E H (ws' (d:=39) E z z z z b) z z z z z (c _ g) U32 kA p λ q17 a H E=>Am E H (ws' (d:=39) E z z z z b) z z z z m0 U31 z kA λ x a H E=>?_
     obtain ⟨_,hcs⟩:=H.rd (.head _)
     obtain rfl:=As hcs
     clear hcs
     refine pk 1 E (kc 39 z b) z λ a E=>bd m λ y q m=>bK E (ws' (d:=39) E z z z z b) z z (bO E z z z ((cf_ 242) _)) (Do H q)<|?_
     rintro _ w ⟨rfl,H⟩ a E
     refine pk 4 E (kc 39 z b) z λ a E=>nt<|wR<|jN E z z z<|?_
     cases m
     exact ⟨z,H.reads (Y2 c)⟩
    ·refine pk 11 E (kc 39 z b) z λ a E=>nt<|wR<|jN E z z z<|?_
     cases m
     exact ⟨z,H.reads c⟩

def xP(c:List aF)(d:ByteArray):Option yM:=
  (eR c d).bind λ b=>some (b.1,b.2)
theorem Ax{b:Value}{c:List aF}{d:ByteArray}(H:Sep w (Fo) rs)(e:rSl aO b c ∈ rs){r:Int×Bool}(m:xP c d=some r) :
    Cf 183 [b,.string d] w λ v w'=>.tuple #[.int .i64 r.1,.bool r.2]=v/\Sep w' (Fo) (rs):=by
 unfold xP at m
 refine ent Tryz.func183 z Tryz.ntmps183 z z λ a E=>sp 2 E z λ a E=>xp 2 E z λ a E=>bd m λ g f m=>xk2 E z (cf_ 184) (wE H e f) λ w H a E=>pn 4 E z λ a E=>wR<|jN E z z z<|?_
 cases m
 exact ⟨z,H.reads Y0⟩

def zY(c:Int×Bool)(x3:aF)(b:hZ):Option V3:=
  (idx b c.1).bind λ d=>some (b.set c.1.toNat x3,true)
def zZ(b:Int×Bool)(x3:aF)(c:List aF)(d:Bool):Option V3:=
  if d=true then (some ([],false)) else ((ck (c.length <= LIM)).bind λ e=>if (!b.2)=true then ((ck (0 <= b.1/\b.1 <= c.length/\c.length <= 1000000)).bind λ f=>zY b x3 (c.take b.1.toNat ++ x3::c.drop b.1.toNat)) else (zY b x3 c))
def oP(b:List aF)(x3:aF):Option V3:=
  (xP b x3.Prefix).bind λ c=>if (!c.2)=true then (zZ c x3 b ((b.length:Int) == 32)) else (zZ c x3 b false)
theorem Cu{p:Value}{q:List aF}{x3:aF}(H:Sep w (Fo) rs)(g:rSl aO p q ∈ rs){r:hZ×Bool}(m:oP q x3=some r) :
    Cf 175 [p,.agg (qJ x3).toArray] w λ v w'=>∃ A,.tuple #[A,.bool r.2]=v/\Sep w' (Row 31 aO A r.1::Fo) (rs):=by
 unfold oP at m
 refine ent Tryz.func175 z Tryz.ntmps175 z z λ a E=>sq<|bx E H z λ o w a H E=>pr 2 E z λ a E=>xp 2 E z λ a E=>lb2 E H 0 U9 z λ a E=>bd m λ j B m=>xk2 E z (cf_ 183) (Ax H g B) λ w H a E=>pn 5 E z λ a E=>wS<|aN (λ a w=>∃ s,Jn 36 a w [(0,p),(3,pt o 0),(6,.int .i64 j.1),(7,.bool j.2),(21,.bool s)] (Blk o 31 (qJ x3)::Fo) rs (zZ j x3 q s=some r)) ?_ ?_
 ·refine wG<|pr 3 E z λ a E=>cs m (λ b m=>?_) λ b m=>?_
  ·exact pk 1 E (kc 17 z b) z λ a E=>gv 17 E b z (tG E H z z g U32) λ a E=>pk 2 E (kc 17 z b) z λ a E=>nt<|⟨_,_,E.to z,H,Y0,m⟩
  ·exact pk 4 E (kc 17 z b) z λ a E=>nt<|⟨_,_,E.to z,H,Y0,m⟩
 ·clear E H m
  rintro a w ⟨s,D,E,H,c,m⟩
  unfold zZ at m
  refine wif E m z (λ m=>?_) λ m=>?_
  ·refine sq<|pn 2 E z λ a E=>wR<|aH<|jN E z z z<|have H:=H.nilRow 31 aO;have H:=H.drop 1;?_
   cases m
   exact ⟨_,z,H.reads c⟩
  ·refine wK<|aA<|sp 1 E z λ a E=>bk m λ t m=>xc2 E z (cf_ 66) (sV H (c _ g) t) λ F w H a E=>pn 1 E z λ a E=>aN (λ a w=>∃ k l,Jn 36 a w [(0,k),(3,pt o 0),(6,.int .i64 j.1)] (Row 31 aO k l::Blk o 31 (qJ x3)::Fo) rs (zY j x3 l=some r)) ?_ ?_
   ·refine sq<|pn 2 E z λ a E=>wif E m z (λ m=>?_) λ m=>?_
    ·exact wG<|pr 2 E z λ a E=>ln 1 (qJ x3) E H U31 z kA λ a E=>jO (e:=31) (d:=aO) (cs:=[.string x3.Prefix,.int .i64 x3.Epoch,.int .i64 x3.State]) (xs:=[x3]) E H (wn z) z z z (E.evs z) (by kernel_rfl) z z (λ ok hr=>(Rows.single (d:=aO) (cs:=[.string x3.Prefix,.int .i64 x3.Epoch,.int .i64 x3.State]) (x:=x3) zR)) λ G w a H E=>bk m λ u m=>xc2 E z (cf_ 186) (Ra.insert_a (ix:=1) (iu:=0) H z z (by decide) u) λ I w H a E=>pn 1 E z λ a E=>have H:=H.drop 0;X3 ⟨E.to z,H,c,m⟩
    ·exact wK<|aA<|X3 ⟨E.to z,H,c,m⟩
   ·clear E H m
    rintro a w ⟨k,l,C,E,H,y,m⟩
    unfold zY at m
    refine sp 2 E z λ a E=>ln 1 (qJ x3) E H U31 z kA λ a E=>bd m λ J f m=>?_
    obtain ⟨K,L,n⟩:=H.rowformNE (i:=0) z f
    refine sv2 E z (dE (d:=aO) E n z z z z U32 kA f) λ a E=>P4 (d:=aO) (i:=0) (us:=[.string x3.Prefix,.int .i64 x3.Epoch,.int .i64 x3.State]) (z':=x3) E H lZ (wn z) z n z z z z z z z f kA λ w H=>nx<|pn 3 E z λ a E=>wR<|jN E z z z<|have H:=H.drop 1;?_
    cases m
    exact ⟨_,z,H.reads y⟩

def wO(c:List aF)(e:Int)(f:ByteArray)(g:Bool):Option V3:=
  if g=true then (some ([],false)) else ((idx c e).bind λ d=>(oP c (⟨f,d.Epoch,2⟩:aF)).bind λ b=>some (b.1,b.2))
def tZ(b:List aF)(d:ByteArray):Option V3:=
  (mE b d).bind λ c=>if (decide (c < 0))=true then (wO b c d true) else ((idx b c).bind λ e=>wO b c d (e.State != 1))
theorem Pr{i:Value}{j:List aF}{f:ByteArray}(H:Sep w (Fo) rs)(c:rSl aO i j ∈ rs){r:hZ×Bool}(m:tZ j f=some r) :
    Cf 105 [i,.string f] w λ v w'=>∃ p,.tuple #[p,.bool r.2]=v/\Sep w' (Row 31 aO p r.1::Fo) (rs):=by
 unfold tZ at m
 refine ent Tryz.func105 z Tryz.ntmps105 z z λ a E=>sp 2 E z λ a E=>xp 2 E z λ a E=>bd m λ q s m=>xk2 E z (cf_ 24) (y7 H c s) λ w H a E=>pn 1 E z λ a E=>wS<|aN (λ a w=>∃ k,Jn 31 a w [(0,i),(1,.string f),(6,.int .i64 q),(19,.bool k)] (Fo) rs (wO j q f k=some r)) ?_ ?_
 ·refine wG<|pr 3 E z λ a E=>cs m (λ b m=>?_) λ b m=>?_
  ·exact pk 7 E (kc 12 z b) z λ a E=>nt<|⟨_,_,E.to z,H,Y0,m⟩
  ·exact pk 2 E (kc 12 z b) z λ a E=>bd m λ t l m=>dP E H (ws' (d:=12) E z z z z b) z z z z z c U32 kA l λ q19 a H E=>have H:=H.derive1 m0 (rAt (kI .i64) (q19.add 2) t.State) (λ ok h=>P6 h);pk 1 E (kc 12 z b) z λ a E=>gv 12 E b z (vK E H z z m0 U3 z) λ a E=>pk 2 E (kc 12 z b) z λ a E=>nt<|⟨_,_,E.to z,H,(Y2 Y0),m⟩
 ·clear E H m
  rintro a w ⟨k,u,E,H,e,m⟩
  unfold wO at m
  refine wif E m z (λ m=>?_) λ m=>?_
  ·refine sq<|pn 2 E z λ a E=>wR<|aH<|jN E z z z<|have H:=H.nilRow 31 aO;?_
   cases m
   exact ⟨_,z,H.reads e⟩
  ·refine wK<|aA<|sp 4 E z λ a E=>bd m λ g n m=>dP E H (wn z) z z z z z (e _ c) U32 kA n λ q12 a H E=>have H:=H.derive1 m0 (rAt (kI .i64) (q12.add 1) g.Epoch) (λ ok h=>P5 h);pr 1 E z λ a E=>sv2 E z (vK E H z z m0 U2 z) λ a E=>sv2 E z (cJ E z (E.evs z) (v:=.agg #[.string f,.int .i64 g.Epoch,.int .i64 2]) (by kernel_rfl)) λ a E=>bd m λ x o m=>xc2 E z (cf_ 175) (Cu (x3:=(⟨f,g.Epoch,2⟩:aF)) H (t2 (e _ c)) o)<|?_
   rintro _ w ⟨y,rfl,H⟩ a E
   refine pn 4 E z λ a E=>wR<|jN E z z z<|?_
   cases m
   exact ⟨_,z,H.reads (Y2 e)⟩

def vB(d:List aF)(e:ByteArray)(f:Int)(c:Bool):Option V3:=
  if c=true then (some ([],false)) else ((oP d (⟨e,f,1⟩:aF)).bind λ b=>some (b.1,b.2))
def oF(b:List aF)(c:ByteArray)(d:Int)(g:Bool):Option V3:=
  if g=true then (some ([],false)) else ((xP b c).bind λ e=>if e.2=true then ((idx b e.1).bind λ f=>vB b c d (decide (f.Epoch ≥ d))) else (vB b c d false))
def pV(c:List aF)(d:ByteArray)(b:Int):Option V3:=
  (oO c).bind λ e=>if (!e)=true then (oF c d b true) else ((fU d).bind λ f=>if (!f)=true then (oF c d b true) else (if (decide (b < 0))=true then (oF c d b true) else (oF c d b (decide (b > 281474976710656)))))
theorem Og{o:Value}{p:List aF}{e:ByteArray}{f:Int}(H:Sep w (Fo) rs)(l:rSl aO o p ∈ rs){r:hZ×Bool}(m:pV p e f=some r) :
    Cf 108 [o,.string e,.int .i64 f] w λ v w'=>∃ A,.tuple #[A,.bool r.2]=v/\Sep w' (Row 31 aO A r.1::Fo) (rs):=by
 unfold pV at m
 refine ent Tryz.func108 z Tryz.ntmps108 z z λ a E=>sq<|pn 2 E z λ a E=>wS<|aN (λ a w=>∃ q,Jn 49 a w [(0,o),(1,.string e),(2,.int .i64 f),(25,.bool q)] (Fo) rs (oF p e f q=some r)) ?_ ?_
 ·refine wG<|pr 1 E z λ a E=>bd m λ D s m=>xk2 E z (cf_ 38) (B2 H l s) λ w H a E=>pr 2 E z λ a E=>cs m (λ c m=>?_) λ c m=>?_
  ·exact pk 12 E (kc 13 z c) z λ a E=>nt<|⟨_,_,E.to z,H,Y0,m⟩
  ·refine pk 1 E (kc 13 z c) z λ a E=>bd m λ F t m=>gc 13 E c z (cf_ 83) (jQ H t)<|?_
   rintro _ w ⟨rfl,H⟩ a E
   refine pk 3 E (kc 13 z c) z λ a E=>cs m (λ i m=>?_) λ i m=>?_
   ·exact pk 7 E (kc 18 z i) z λ a E=>nt<|⟨_,_,E.to z,H,Y0,m⟩
   ·refine pk 4 E (kc 18 z i) z λ a E=>cs m (λ j m=>?_) λ j m=>?_
    ·exact pk 3 E (kc 22 z j) z λ a E=>nt<|⟨_,_,E.to z,H,Y0,m⟩
    ·exact pk 3 E (kc 22 z j) z λ a E=>nt<|⟨_,_,E.to z,H,Y0,m⟩
 ·clear E H m
  rintro a w ⟨q,G,E,H,g,m⟩
  unfold oF at m
  refine wif E m z (λ m=>?_) λ m=>?_
  ·refine sq<|pn 2 E z λ a E=>wR<|aH<|jN E z z z<|have H:=H.nilRow 31 aO;?_
   cases m
   exact ⟨_,z,H.reads g⟩
  ·refine wK<|aA<|wS<|sp 2 E z λ a E=>bd m λ K u m=>xk2 E z (cf_ 183) (Ax H (g _ l) u) λ w H a E=>pn 5 E z λ a E=>aN (λ a w=>∃ n,Jn 49 a w [(0,o),(1,.string e),(2,.int .i64 f),(41,.bool n)] (Fo) rs (vB p e f n=some r)) ?_ ?_
   ·refine wG<|pr 2 E z λ a E=>cs m (λ b m=>?_) λ b m=>?_
    ·exact pk 2 E (kc 33 z b) z λ a E=>bd m λ B x m=>dP E H (ws' (d:=33) E z z z z b) z z z z z (g _ l) U32 kA x λ q20 a H E=>have H:=H.derive1 m0 (rAt (kI .i64) (q20.add 1) B.Epoch) (λ ok h=>P5 h);pk 1 E (kc 33 z b) z λ a E=>gv 33 E b z (vK E H z z m0 U2 z) λ a E=>pk 3 E (kc 33 z b) z λ a E=>nt<|⟨_,_,E.to z,H,(Y2 g),m⟩
    ·exact pk 8 E (kc 33 z b) z λ a E=>nt<|⟨_,_,E.to z,H,g,m⟩
   ·clear E H m
    rintro a w ⟨n,C,E,H,k,m⟩
    unfold vB at m
    refine wif E m z (λ m=>?_) λ m=>?_
    ·refine sq<|pn 2 E z λ a E=>wR<|aH<|jN E z z z<|have H:=H.nilRow 31 aO;?_
     cases m
     exact ⟨_,z,H.reads k⟩
    ·refine wK<|aA<|sp 3 E z λ a E=>sv2 E z (cJ E z (E.evs z) (v:=.agg #[.string e,.int .i64 f,.int .i64 1]) (by kernel_rfl)) λ a E=>bd m λ I y m=>xc2 E z (cf_ 175) (Cu (x3:=(⟨e,f,1⟩:aF)) H (k _ l) y)<|?_
     rintro _ w ⟨J,rfl,H⟩ a E
     refine pn 4 E z λ a E=>wR<|jN E z z z<|?_
     cases m
     exact ⟨_,z,H.reads k⟩

def vP(d:List aF)(e:ByteArray)(f:Int)(c:Bool):Option V3:=
  if c=true then (some ([],false)) else ((oP d (⟨e,f,3⟩:aF)).bind λ b=>some (b.1,b.2))
def r4(b:List aF)(c:ByteArray)(d:Int):Option V3:=
  (oO b).bind λ i=>if (!i)=true then (some ([],false)) else ((xP b c).bind λ e=>if (!e.2)=true then (vP b c d true) else ((idx b e.1).bind λ f=>if (f.State != 2)=true then (vP b c d true) else ((idx b e.1).bind λ g=>vP b c d (g.Epoch != d))))
theorem Uc{k:Value}{l:List aF}{g:ByteArray}{i:Int}(H:Sep w (Fo) rs)(e:rSl aO k l ∈ rs){r:hZ×Bool}(m:r4 l g i=some r) :
    Cf 116 [k,.string g,.int .i64 i] w λ v w'=>∃ q,.tuple #[q,.bool r.2]=v/\Sep w' (Row 31 aO q r.1::Fo) (rs):=by
 unfold r4 at m
 refine ent Tryz.func116 z Tryz.ntmps116 z z λ a E=>sq<|pn 2 E z λ a E=>wS<|sp 1 E z λ a E=>bd m λ C s m=>xk2 E z (cf_ 38) (B2 H e s) λ w H a E=>pn 1 E z λ a E=>wif E m z (λ m=>?_) λ m=>?_
 ·refine sq<|pn 2 E z λ a E=>wR<|aH<|jN E z z z<|have H:=H.nilRow 31 aO;?_
  cases m
  exact ⟨_,z,H.reads Y0⟩
 ·refine wK<|aA<|sp 2 E z λ a E=>bd m λ D t m=>xk2 E z (cf_ 183) (Ax H e t) λ w H a E=>pn 5 E z λ a E=>wS<|aN (λ a w=>∃ j,Jn 45 a w [(0,k),(1,.string g),(2,.int .i64 i),(37,.bool j)] (Fo) rs (vP l g i j=some r)) ?_ ?_
  ·refine wG<|pr 3 E z λ a E=>cs m (λ b m=>?_) λ b m=>?_
   ·exact pk 16 E (kc 21 z b) z λ a E=>nt<|⟨_,_,E.to z,H,Y0,m⟩
   ·refine pk 2 E (kc 21 z b) z λ a E=>bd m λ u n m=>dP E H (ws' (d:=21) E z z z z b) z z z z z e U32 kA n λ q19 a H E=>have H:=H.derive1 m0 (rAt (kI .i64) (q19.add 2) u.State) (λ ok h=>P6 h);pk 1 E (kc 21 z b) z λ a E=>gv 21 E b z (vK E H z z m0 U3 z) λ a E=>pk 3 E (kc 21 z b) z λ a E=>cs m (λ c m=>?_) λ c m=>?_
    ·exact pk 8 E (kc 29 z c) z λ a E=>nt<|⟨_,_,E.to z,H,(Y2 Y0),m⟩
    ·exact pk 2 E (kc 29 z c) z λ a E=>bd m λ x o m=>dP E H (ws' (d:=29) E z z z z c) z z z z z (t2 e) U32 kA o λ q23 a H E=>have H:=H.derive1 m0 (rAt (kI .i64) (q23.add 1) x.Epoch) (λ ok h=>P5 h);pk 1 E (kc 29 z c) z λ a E=>gv 29 E c z (vK E H z z m0 U2 z) λ a E=>pk 3 E (kc 29 z c) z λ a E=>nt<|⟨_,_,E.to z,H,(Y4 Y0),m⟩
  ·clear E H m
   rintro a w ⟨j,y,E,H,f,m⟩
   unfold vP at m
   refine wif E m z (λ m=>?_) λ m=>?_
   ·refine sq<|pn 2 E z λ a E=>wR<|aH<|jN E z z z<|have H:=H.nilRow 31 aO;?_
    cases m
    exact ⟨_,z,H.reads f⟩
   ·refine wK<|aA<|sp 3 E z λ a E=>sv2 E z (cJ E z (E.evs z) (v:=.agg #[.string g,.int .i64 i,.int .i64 3]) (by kernel_rfl)) λ a E=>bd m λ A p m=>xc2 E z (cf_ 175) (Cu (x3:=(⟨g,i,3⟩:aF)) H (f _ e) p)<|?_
    rintro _ w ⟨B,rfl,H⟩ a E
    refine pn 4 E z λ a E=>wR<|jN E z z z<|?_
    cases m
    exact ⟨_,z,H.reads f⟩

def J5(x1:aF)(b:ByteArray):Option Int:=
  (pS x1.Prefix b).bind λ c=>some (c)
theorem Dp{x1:aF}{b:ByteArray}(H:Sep w (Fo) rs){r:Int}(m:J5 x1 b=some r) :
    Cf 185 [.agg (qJ x1).toArray,.string b] w λ v w'=>.int .i64 r=v/\Sep w' (Fo) (rs):=by
 unfold J5 at m
 refine ent Tryz.func185 z Tryz.ntmps185 z z λ a E=>sq<|bx E H z λ d w a H E=>pr 1 E z λ a E=>xp 1 E z λ a E=>lb2 E H 0 U9 z λ a E=>pr 1 E z λ a E=>bd m λ e c m=>xk2 E z (cf_ 113) (wH H c) λ w H a E=>pn 1 E z λ a E=>wR<|o1 E z<|have H:=H.drop 0;?_
 cases m
 exact ⟨z,H.reads Y0⟩

def cG(c:List aF)(e:ByteArray):Nat->Int->Int->Option yM
  | 0,_,_=>none
  | f+1,b,d=>
    if (decide (b < d))=true then ((idx c (IntKind.i64.wrap (sY .u64 (IntKind.u64.wrap (IntKind.i64.wrap (b+d))) 1))).bind λ k=>(J5 k e).bind λ g=>if (decide (g < 0))=true then (cG c e f (IntKind.i64.wrap ((IntKind.i64.wrap (sY .u64 (IntKind.u64.wrap (IntKind.i64.wrap (b+d))) 1))+1)) d) else (cG c e f b (IntKind.i64.wrap (sY .u64 (IntKind.u64.wrap (IntKind.i64.wrap (b+d))) 1)))) else (if (decide (b < (c.length:Int)))=true then ((idx c b).bind λ i=>(J5 i e).bind λ j=>some (b,j == 0)) else (some (b,false)))
def dQ(b:List aF)(c:ByteArray):Option yM:=
  cG b c (((b.length:Int) - 0:Int).toNat+1) 0 (b.length:Int)
theorem vC{j:Value}{e:List aF}{p:ByteArray}(H:Sep w (Row 31 aO j e::Fo) rs){r:Int×Bool}(m:dQ e p=some r) :
    Cf 184 [j,.string p,.func (.func 185) #[] #[]] w λ v w'=>.tuple #[.int .i64 r.1,.bool r.2]=v/\Sep w' (Row 31 aO j e::Fo) (rs):=by
 unfold dQ at m
 refine ent Tryz.func184 z Tryz.ntmps184 z z λ a E=>sp 2 E z λ a E=>xp 1 E z λ a E=>sv2 E z (mZ (i:=0) E H z z z U32) λ a E=>pr 1 E z λ a E=>xp 3 E z λ a E=>nt<|wS<|wB<|bL (λ c a w=>∃ q s,Jn 49 a w [(0,j),(1,.string p),(2,.func (.func 185) #[] #[]),(8,.int .i64 (e.length:Int)),(9,.int .i64 q),(10,.int .i64 s)] (Row 31 aO j e::Fo) rs (cG e p c q s=some r)) (((e.length:Int) - 0:Int).toNat+1) ?_ ?_
 ·exact X3 ⟨E.to z,H,Y0,m⟩
 ·clear E H m
  rintro c a w ⟨q,s,y,E,H,g,m⟩
  cases c with
  | zero=>exact (bF m z).elim
  | succ c=>
   unfold cG at m
   refine wS<|sq<|pn 3 E z λ a E=>wif E m z (λ m=>?_) λ m=>?_
   ·refine wK<|aA<|wB<|sp 4 E z λ a E=>sv2 E z (Ee E z z z (by decide)) λ a E=>pr 2 E z λ a E=>xp 3 E z λ a E=>bd m λ t k m=>?_
    obtain ⟨A,B,l⟩:=H.rowformNE (i:=0) z k
    refine sv2 E z (dE (d:=aO) E l z z z z U32 kA k) λ a E=>sv2 E z (jP (i:=0) E H lZ l z z z k (us:=[.string t.Prefix,.int .i64 t.Epoch,.int .i64 t.State]) z U31 z kA) λ a E=>pr 1 E z λ a E=>bd m λ C u m=>bK E (wn z) z z (bO E z z z ((cf_ 185) _)) (Dp H u)<|?_
    rintro _ w ⟨rfl,H⟩ a E
    refine pn 1 E z λ a E=>wif E m z (λ m=>?_) λ m=>?_
    ·exact wG<|pr 3 E z λ a E=>wN<|bR<|aA<|⟨c,nL c,X3 ⟨E.to z,H,g,m⟩⟩
    ·exact wG<|pr 2 E z λ a E=>wN<|bR<|aA<|⟨c,nL c,X3 ⟨E.to z,H,g,m⟩⟩
   ·refine wX<|aW<|aW<|cT<|aA<|sp 5 E z λ a E=>cs m (λ b m=>?_) λ b m=>?_
    ·refine pk 3 E (kc 39 z b) z λ a E=>bd m λ n f m=>?_
     obtain ⟨D,F,o⟩:=H.rowformNE (i:=0) z f
     refine gv 39 E b z (dE (d:=aO) E o z z z z U32 kA f) λ a E=>gv 39 E b z (jP (i:=0) E H lZ o z z z f (us:=[.string n.Prefix,.int .i64 n.Epoch,.int .i64 n.State]) z U31 z kA) λ a E=>pk 1 E (kc 39 z b) z λ a E=>bd m λ G x m=>bK E (ws' (d:=39) E z z z z b) z z (bO E z z z ((cf_ 185) _)) (Dp H x)<|?_
     rintro _ w ⟨rfl,H⟩ a E
     refine pk 4 E (kc 39 z b) z λ a E=>nt<|wR<|jN E z z z<|?_
     cases m
     exact ⟨z,H.reads g⟩
    ·refine pk 11 E (kc 39 z b) z λ a E=>nt<|wR<|jN E z z z<|?_
     cases m
     exact ⟨z,H.reads g⟩

def yQ(rec_1:hZ->Int->Option hZ)(c:Int)(b:hZ):Option hZ:=
  rec_1 b (IntKind.i64.wrap (c+1))
def nF(d:List ByteArray):Nat->hZ->Int->Option hZ
  | 0,_,_=>none
  | g+1,c,e=>
    if (decide (e < (d.length:Int)))=true then ((idx d e).bind λ f=>(dQ c f).bind λ b=>if (!b.2)=true then ((ck (0 <= b.1/\b.1 <= c.length/\c.length <= 1000000)).bind λ i=>yQ (nF d g) e (c.take b.1.toNat ++ (⟨f,0,3⟩:aF)::c.drop b.1.toNat)) else (yQ (nF d g) e c)) else (some (c))
def xQ(c:List aF)(b:List ByteArray):Option hZ:=
  nF b (((b.length:Int) - 0:Int).toNat+1) c 0
theorem Ud{y l:Value}{A:List aF}{f:List ByteArray}(H:Sep w (Row 31 aO y A::Fo) rs)(n:rSl kS l f ∈ rs){r:hZ}(m:xQ A f=some r) :
    Cf 109 [y,l] w λ v w'=>∃ B,B=v/\Sep w' (Row 31 aO B r::Fo) (rs):=by
 unfold xQ at m
 refine ent Tryz.func109 z Tryz.ntmps109 z z λ a E=>sq<|pn 1 E z λ a E=>wS<|sp 1 E z λ a E=>lS E H n U33 z λ a E=>pr 1 E z λ a E=>nt<|wB<|bL (λ g a w=>∃ o p i,Jn 31 a w [(0,o),(9,l),(10,.int .i64 (f.length:Int)),(11,.int .i64 i)] (Row 31 aO o p::Fo) rs (nF f g p i=some r)) (((f.length:Int) - 0:Int).toNat+1) ?_ ?_
 ·exact X4 ⟨E.to z,H,Y0,m⟩
 ·clear E H m
  rintro g a w ⟨o,p,i,D,E,H,b,m⟩
  cases g with
  | zero=>exact (bF m z).elim
  | succ g=>
   unfold nF at m
   refine sq<|pn 1 E z λ a E=>wS<|wif E m z (λ m=>?_) λ m=>?_
   ·refine wK<|aA<|aN (λ a w=>∃ j k,Jn 31 a w [(0,j),(9,l),(10,.int .i64 (f.length:Int)),(11,.int .i64 i)] (Row 31 aO j k::Fo) rs (yQ (nF f g) i k=some r)) ?_ ?_
    ·refine wB<|sq<|bd m λ c q m=>dP E H (wn z) z z z z z (b _ n) U33 sz9 q λ q17 a H E=>sv2 E z (vK E H z z m0 U9 z) λ a E=>pr 1 E z λ a E=>xp 2 E z λ a E=>bd m λ F s m=>xk2 E z (cf_ 184) (vC H s) λ w H a E=>pr 5 E z λ a E=>nx<|pn 2 E z λ a E=>wif E m z (λ m=>?_) λ m=>?_
     ·exact wG<|pr 3 E z λ a E=>sv2 E z (cJ E z (E.evs z) (v:=.agg #[.string c,.int .i64 0,.int .i64 3]) (by kernel_rfl)) λ a E=>jO (e:=31) (d:=aO) (cs:=[.string c,.int .i64 0,.int .i64 3]) (xs:=[(⟨c,0,3⟩:aF)]) E H (wn z) z z z (E.evs z) (by kernel_rfl) z z (λ ok hr=>(Rows.single (d:=aO) (cs:=[.string c,.int .i64 0,.int .i64 3]) (x:=(⟨c,0,3⟩:aF)) zR)) λ G w a H E=>bk m λ t m=>xc2 E z (cf_ 186) (Ra.insert_a (ix:=1) (iu:=0) H z z (by decide) t) λ I w H a E=>pr 1 E z λ a E=>wN<|bR<|aA<|have H:=H.drop 0;X3 ⟨E.to z,H,(Y1 b),m⟩
     ·exact wK<|bR<|aA<|X3 ⟨E.to z,H,(Y1 b),m⟩
    ·clear E H m
     rintro a w ⟨j,k,C,E,H,u,m⟩
     unfold yQ at m
     exact wG<|pn 2 E z λ a E=>⟨g,nL g,X4 ⟨E.to z,H,u,m⟩⟩
   ·refine wX<|aW<|aW<|cT<|aA<|sq<|pn 2 E z λ a E=>wR<|o1 E z<|?_
    cases m
    exact ⟨_,z,H.reads b⟩

def vQ(b:ByteArray):Option Bool:=
  if (sEq b (ByteArray.mk #[]))=true then (some (true)) else ((fU b).bind λ c=>some (c))
theorem Bt{c:ByteArray}(H:Sep w (Fo) rs){r:Bool}(m:vQ c=some r) :
    Cf 123 [.string c] w λ v w'=>.bool r=v/\Sep w' (Fo) (rs):=by
 unfold vQ at m
 refine ent Tryz.func123 z Tryz.ntmps123 z z λ a E=>sp 1 E z λ a E=>xp 3 E z λ a E=>cs m (λ b m=>?_) λ b m=>?_
 ·refine pk 4 E (kc 5 z b) z λ a E=>nt<|wR<|o1 E z<|?_
  cases m
  exact ⟨z,H.reads Y0⟩
 ·refine pk 1 E (kc 5 z b) z λ a E=>bd m λ e d m=>gc 5 E b z (cf_ 83) (jQ H d)<|?_
  rintro _ w ⟨rfl,H⟩ a E
  refine pk 2 E (kc 5 z b) z λ a E=>nt<|wR<|o1 E z<|?_
  cases m
  exact ⟨z,H.reads Y0⟩

def qD(rec_1:Int->Option Bool)(c:Int)(b:Bool):Option Bool:=
  if b=true then (some (false)) else (rec_1 (IntKind.i64.wrap (c+1)))
def kU(b:List Int):Nat->Int->Option Bool
  | 0,_=>none
  | d+1,c=>
    if (decide (c < (b.length:Int)))=true then ((idx b c).bind λ e=>if (decide (e < 0))=true then (qD (kU b d) c true) else (qD (kU b d) c (decide (e > 281474976710656)))) else (some (true))
def xR(b:List Int):Option Bool:=
  kU b (((b.length:Int) - 0:Int).toNat+1) 0
theorem Mc{j:Value}{b:List Int}(H:Sep w (Fo) rs)(k:rSl (kI .i64) j b ∈ rs){r:Bool}(m:xR b=some r) :
    Cf 122 [j] w λ v w'=>.bool r=v/\Sep w' (Fo) (rs):=by
 unfold xR at m
 refine ent Tryz.func122 z Tryz.ntmps122 z z λ a E=>sq<|pn 1 E z λ a E=>wS<|sp 1 E z λ a E=>lS E H k U46 z λ a E=>pr 1 E z λ a E=>nt<|wB<|bL (λ c a w=>∃ f,Jn 18 a w [(5,j),(6,.int .i64 (b.length:Int)),(7,.int .i64 f)] (Fo) rs (kU b c f=some r)) (((b.length:Int) - 0:Int).toNat+1) ?_ ?_
 ·exact ⟨_,_,E.to z,H,Y0,m⟩
 ·clear E H m
  rintro c a w ⟨f,o,E,H,e,m⟩
  cases c with
  | zero=>exact (bF m z).elim
  | succ c=>
   unfold kU at m
   refine sq<|pn 1 E z λ a E=>wS<|wif E m z (λ m=>?_) λ m=>?_
   ·refine wK<|aA<|wS<|wB<|sq<|bd m λ p l m=>dP E H (wn z) z z z z z (e _ k) U46 sz2 l λ q9 a H E=>sv2 E z (vK E H z z m0 U2 z) λ a E=>pr 1 E z λ a E=>nt<|aN (λ a w=>∃ g,Jn 18 a w [(5,j),(6,.int .i64 (b.length:Int)),(7,.int .i64 f),(16,.bool g)] (Fo) rs (qD (kU b c) f g=some r)) ?_ ?_
    ·refine wG<|pr 3 E z λ a E=>cs m (λ d m=>?_) λ d m=>?_
     ·exact pk 3 E (kc 13 z d) z λ a E=>nt<|⟨_,_,E.to z,H,(Y1 e),m⟩
     ·exact pk 3 E (kc 13 z d) z λ a E=>nt<|⟨_,_,E.to z,H,(Y1 e),m⟩
    ·clear E H m
     rintro a w ⟨g,n,E,H,i,m⟩
     unfold qD at m
     refine wif E m z (λ m=>?_) λ m=>?_
     ·refine sq<|pn 1 E z λ a E=>wR<|bM<|aH<|aH<|bM<|aH<|o1 E z<|?_
      cases m
      exact ⟨z,H.reads i⟩
     ·exact wK<|bR<|aA<|wG<|pn 2 E z λ a E=>⟨c,nL c,_,_,E.to z,H,i,m⟩
   ·refine wX<|aW<|aW<|cT<|aA<|sq<|pn 1 E z λ a E=>wR<|o1 E z<|?_
    cases m
    exact ⟨z,H.reads e⟩

def oG(rec_1:Int->Int->Option Bool)(b:cR)(c:Int)(d:Bool):Option Bool:=
  if d=true then (some (false)) else (rec_1 b.Op (IntKind.i64.wrap (c+1)))
def oH(rec_2:Int->Option Bool)(b:Int)(c:Bool):Option Bool:=
  if c=true then (some (false)) else (rec_2 (IntKind.i64.wrap (b+1)))
def jU(x1:aK)(b:Bool):Option Bool:=
  if b=true then (if (decide ((x1.Gone.length:Int) <= 32))=true then ((sD x1.Store).bind λ c=>if c=true then (if (decide ((x1.Store.Nodes.length:Int) <= 512))=true then (some (decide ((x1.Store.Turns.length:Int) <= 512))) else (some (false))) else (some (false))) else (some (false))) else (some (false))
def fC(x1:aK)(b:Bool):Option Bool:=
  if b=true then ((xR ([x1.Id,x1.Txn,x1.Age,x1.Epoch,x1.Watch.Session,x1.Watch.Num]:List Int)).bind λ c=>if c=true then ((vQ x1.Prefix).bind λ d=>if d=true then ((vQ x1.Watch.Path).bind λ e=>jU x1 e) else (jU x1 false)) else (jU x1 false)) else (jU x1 false)
def fD(x1:aK):Nat->Int->Option Bool
  | 0,_=>none
  | d+1,b=>
    if (decide (b < (x1.Gone.length:Int)))=true then ((idx x1.Gone b).bind λ c=>(G1 c x1.Prefix).bind λ e=>if (!e)=true then (oH (fD x1 d) b true) else (if (sEq c x1.Prefix)=true then (oH (fD x1 d) b true) else (if (decide (b > 0))=true then ((idx x1.Gone (IntKind.i64.wrap (b - 1))).bind λ f=>oH (fD x1 d) b (!(sLt f c))) else (oH (fD x1 d) b false)))) else (if (decide (x1.Kind ≥ 1))=true then (if (decide (x1.Kind <= 13))=true then (if (decide (x1.To ≥ 0))=true then (if (decide (x1.To < 4))=true then (fC x1 (decide ((x1.Pieces.length:Int) <= 16))) else (fC x1 false)) else (fC x1 false)) else (fC x1 false)) else (fC x1 false))
def gK(x1:aK):Nat->Int->Int->Option Bool
  | 0,_,_=>none
  | d+1,e,c=>
    if (decide (c < (x1.Pieces.length:Int)))=true then ((idx x1.Pieces c).bind λ b=>if (decide (b.Op < e))=true then (oG (gK x1 d) b c true) else (if (decide (b.Op ≥ 8))=true then (oG (gK x1 d) b c true) else ((J4 b.Part).bind λ f=>if (!f)=true then (oG (gK x1 d) b c true) else (oG (gK x1 d) b c (decide (b.Part.Version ≥ 281474976710656)))))) else (fD x1 (((x1.Gone.length:Int) - 0:Int).toNat+1) 0)
def gE(x1:aK):Option Bool:=
  gK x1 (((x1.Pieces.length:Int) - 0:Int).toNat+1) 0 0
theorem Oh{x1:aK}{I K L J:Value}(H:Sep w (Fo) rs)(S:rSl bT I x1.Pieces ∈ rs)(b1:rSl aB K x1.Store.Nodes ∈ rs)(b2:rSl aC L x1.Store.Turns ∈ rs)(R:rSl kS J x1.Gone ∈ rs){r:Bool}(m:gE x1=some r) :
    Cf 52 [.agg (aL x1 I K L J).toArray] w λ v w'=>.bool r=v/\Sep w' (Fo) (rs):=by
 unfold gE at m
 refine ent Tryz.func52 z Tryz.ntmps52 z z λ a E=>sq<|bx E H z λ g w a H E=>pr 1 E z λ a E=>nx<|pn 1 E z λ a E=>wS<|sq<|pr 1 E z λ a E=>lb2 E H 0 U26 z λ a E=>lS E H S U26 z λ a E=>pn 1 E z λ a E=>wB<|bL (λ P a w=>∃ T N,Jn 154 a w [(1,pt g 0),(3,.int .i64 T),(10,I),(11,.int .i64 (x1.Pieces.length:Int)),(12,.int .i64 N)] (Blk g 37 (aL x1 I K L J)::Fo) rs (gK x1 P T N=some r)) (((x1.Pieces.length:Int) - 0:Int).toNat+1) ?_ ?_
 ·exact X3 ⟨E.to z,H,Y0,m⟩
 ·clear E H m
  rintro P a w ⟨T,N,c3,E,H,k,m⟩
  cases P with
  | zero=>exact (bF m z).elim
  | succ P=>
   unfold gK at m
   refine sq<|pn 1 E z λ a E=>wS<|wif E m z (λ m=>?_) λ m=>?_
   ·refine wK<|aA<|wS<|wB<|sq<|bd m λ U b4 m=>dP E H (wn z) z z z z z (k _ S) U26 T7 b4 λ q17 a H E=>ldf y5 E H z z z z z m0 U99 z T7 λ a E=>al2 E H z Yj λ b3 w a H E=>ss 0 E H z T7 z λ w H=>nt<|wS<|aN (λ a w=>∃ V,Jn 154 a w [(1,pt g 0),(5,pt b3 0),(10,I),(11,.int .i64 (x1.Pieces.length:Int)),(12,.int .i64 N),(36,.bool V)] (Blk g 37 (aL x1 I K L J)::Blk b3 99 (Kq U)::Fo) rs (oG (gK x1 P) U N V=some r)) ?_ ?_
    ·refine wG<|pr 1 E z λ a E=>lb2 E H 0 U3 z λ a E=>pr 3 E z λ a E=>cs m (λ y m=>?_) λ y m=>?_
     ·exact pk 16 E (kc 20 z y) z λ a E=>nt<|have H:=H.frs [0,1] z;⟨_,_,E.to z,H,(Y1 k),m⟩
     ·refine pk 1 E (kc 20 z y) z λ a E=>gl 20 E H 0 y U3 z λ a E=>pk 3 E (kc 20 z y) z λ a E=>cs m (λ l m=>?_) λ l m=>?_
      ·exact pk 11 E (kc 25 z l) z λ a E=>nt<|have H:=H.frs [0,1] z;⟨_,_,E.to z,H,(Y1 k),m⟩
      ·refine pk 1 E (kc 25 z l) z λ a E=>gv 25 E l z (L3 (i:=0) (us:=(cB U.Part)) E H z z z z U97 z mC) λ a E=>bd m λ c9 b5 m=>gc 25 E l z (cf_ 121) (Od H b5)<|?_
       rintro _ w ⟨rfl,H⟩ a E
       refine pk 3 E (kc 25 z l) z λ a E=>cs m (λ A m=>?_) λ A m=>?_
       ·exact pk 5 E (kc 31 z A) z λ a E=>nt<|have H:=H.frs [0,1] z;⟨_,_,E.to z,H,(Y1 k),m⟩
       ·exact pk 2 E (kc 31 z A) z λ a E=>gl 31 E H 0 A U2 z λ a E=>pk 2 E (kc 31 z A) z λ a E=>nt<|have H:=H.frs [0,1] z;⟨_,_,E.to z,H,(Y1 k),m⟩
    ·clear E H m
     rintro a w ⟨V,c4,E,H,W,m⟩
     unfold oG at m
     refine wif E m z (λ m=>?_) λ m=>?_
     ·refine sq<|pn 1 E z λ a E=>wR<|aH<|bM<|aH<|aH<|bM<|aH<|o1 E z<|have H:=H.drs [0,0];?_
      cases m
      exact ⟨z,H.reads W⟩
     ·exact wK<|aA<|wG<|pr 1 E z λ a E=>lb2 E H 1 U3 z λ a E=>pr 1 E z λ a E=>wN<|bR<|aA<|wG<|pn 2 E z λ a E=>have H:=H.drop 1;⟨P,nL P,X3 ⟨E.to z,H,W,m⟩⟩
   ·refine wX<|aW<|aW<|cT<|aA<|wS<|sp 1 E z λ a E=>lb2 E H 0 U33 z λ a E=>lS E H (k _ R) U33 z λ a E=>pn 1 E z λ a E=>wB<|bL (λ Q a w=>∃ O,Jn 154 a w [(1,pt g 0),(41,J),(42,.int .i64 (x1.Gone.length:Int)),(43,.int .i64 O)] (Blk g 37 (aL x1 I K L J)::Fo) rs (fD x1 Q O=some r)) (((x1.Gone.length:Int) - 0:Int).toNat+1) ?_ ?_
    ·exact ⟨_,_,E.to z,H,k,m⟩
    ·clear E H m
     rintro Q a w ⟨O,c5,E,H,c,m⟩
     cases Q with
     | zero=>exact (bF m z).elim
     | succ Q=>
      unfold fD at m
      refine sq<|pn 1 E z λ a E=>wS<|wif E m z (λ m=>?_) λ m=>?_
      ·refine wK<|aA<|wS<|wB<|sp 1 E z λ a E=>bd m λ d0 b6 m=>dP E H (wn z) z z z z z (c _ R) U33 sz9 b6 λ q32 a H E=>sv2 E z (vK E H z z m0 U9 z) λ a E=>pn 2 E z λ a E=>aN (λ a w=>∃ X,Jn 154 a w [(1,pt g 0),(41,J),(42,.int .i64 (x1.Gone.length:Int)),(43,.int .i64 O),(72,.bool X)] (Blk g 37 (aL x1 I K L J)::Fo) rs (oH (fD x1 Q) O X=some r)) ?_ ?_
       ·refine wG<|pr 2 E z λ a E=>lb2 E H 0 U9 z λ a E=>bd m λ d1 b7 m=>xk2 E z (cf_ 65) (Hu H b7) λ w H a E=>pr 2 E z λ a E=>cs m (λ B m=>?_) λ B m=>?_
        ·exact pk 19 E (kc 53 z B) z λ a E=>nt<|⟨_,_,E.to z,H,(Y1 c),m⟩
        ·refine pk 2 E (kc 53 z B) z λ a E=>gl 53 E H 0 B U9 z λ a E=>pk 3 E (kc 53 z B) z λ a E=>cs m (λ C m=>?_) λ C m=>?_
         ·exact pk 13 E (kc 59 z C) z λ a E=>nt<|⟨_,_,E.to z,H,(Y1 c),m⟩
         ·refine pk 3 E (kc 59 z C) z λ a E=>cs m (λ j m=>?_) λ j m=>?_
          ·exact pk 1 E (kc 62 z j) z λ a E=>gl 62 E H 0 j U33 z λ a E=>pk 2 E (kc 62 z j) z λ a E=>bd m λ d2 b8 m=>dP E H (ws' (d:=62) E z z z z j) z z z z z (t1 (c _ R)) U33 sz9 b8 λ q43 a H E=>gv 62 E j z (vK E H z z m0 U9 z) λ a E=>pk 4 E (kc' (kc 62 z j) 59 z C) z λ a E=>nt<|⟨_,_,E.to z,H,(Y2 c),m⟩
          ·exact pk 10 E (kc' (kc 62 z j) 59 z C) z λ a E=>nt<|⟨_,_,E.to z,H,(Y1 c),m⟩
       ·clear E H m
        rintro a w ⟨X,c6,E,H,Y,m⟩
        unfold oH at m
        refine wif E m z (λ m=>?_) λ m=>?_
        ·refine sq<|pn 1 E z λ a E=>wR<|bM<|aH<|aH<|bM<|aH<|o1 E z<|have H:=H.drop 0;?_
         cases m
         exact ⟨z,H.reads Y⟩
        ·exact wK<|bR<|aA<|wG<|pn 2 E z λ a E=>⟨Q,nL Q,_,_,E.to z,H,Y,m⟩
      ·refine wX<|aW<|aW<|cT<|aA<|aN (λ a w=>∃ Z,Jn 154 a w [(1,pt g 0),(8,.bool Z)] (Blk g 37 (aL x1 I K L J)::Fo) rs (fC x1 Z=some r)) ?_ ?_
       ·refine wG<|pr 1 E z λ a E=>lb2 E H 0 U3 z λ a E=>pr 2 E z λ a E=>cs m (λ D m=>?_) λ D m=>?_
        ·refine pk 1 E (kc 77 z D) z λ a E=>gl 77 E H 0 D U3 z λ a E=>pk 3 E (kc 77 z D) z λ a E=>cs m (λ F m=>?_) λ F m=>?_
         ·refine pk 1 E (kc 82 z F) z λ a E=>gl 82 E H 0 F U3 z λ a E=>pk 3 E (kc 82 z F) z λ a E=>cs m (λ G m=>?_) λ G m=>?_
          ·refine pk 1 E (kc 87 z G) z λ a E=>gl 87 E H 0 G U3 z λ a E=>pk 3 E (kc 87 z G) z λ a E=>cs m (λ n m=>?_) λ n m=>?_
           ·exact pk 1 E (kc 92 z n) z λ a E=>gl 92 E H 0 n U26 z λ a E=>gv 92 E n z (tG E H z z (c _ S) U26) λ a E=>pk 3 E (kc 92 z n) z λ a E=>nt<|⟨_,_,E.to z,H,c,m⟩
           ·exact pk 6 E (kc 92 z n) z λ a E=>nt<|⟨_,_,E.to z,H,c,m⟩
          ·exact pk 11 E (kc 87 z G) z λ a E=>nt<|⟨_,_,E.to z,H,c,m⟩
         ·exact pk 16 E (kc 82 z F) z λ a E=>nt<|⟨_,_,E.to z,H,c,m⟩
        ·exact pk 21 E (kc 77 z D) z λ a E=>nt<|⟨_,_,E.to z,H,c,m⟩
       ·clear E H m
        rintro a w ⟨Z,c7,E,H,M,m⟩
        unfold fC at m
        refine aN (λ a w=>∃ b0,Jn 154 a w [(1,pt g 0),(8,.bool b0)] (Blk g 37 (aL x1 I K L J)::Fo) rs (jU x1 b0=some r)) ?_ ?_
        ·refine wG<|pr 2 E z λ a E=>cs m (λ b m=>?_) λ b m=>?_
         ·refine pk 1 E (kc 99 z b) z λ a E=>gl 99 E H 0 b U2 z λ a E=>pk 1 E (kc 99 z b) z λ a E=>gl 99 E H 0 b U2 z λ a E=>pk 1 E (kc 99 z b) z λ a E=>gl 99 E H 0 b U2 z λ a E=>pk 1 E (kc 99 z b) z λ a E=>gl 99 E H 0 b U2 z λ a E=>pk 2 E (kc 99 z b) z λ a E=>gl 99 E H 0 b U2 z λ a E=>pk 2 E (kc 99 z b) z λ a E=>gl 99 E H 0 b U2 z λ a E=>jO (e:=2) (d:=(kI .i64)) (cs:=[.int .i64 x1.Id,.int .i64 x1.Txn,.int .i64 x1.Age,.int .i64 x1.Epoch,.int .i64 x1.Watch.Session,.int .i64 x1.Watch.Num]) (xs:=[x1.Id,x1.Txn,x1.Age,x1.Epoch,x1.Watch.Session,x1.Watch.Num]) E H (ws' (d:=99) E z z z z b) z z z (E.evs z) (by kernel_rfl) z z (λ ok hr=>(Rows.append (Rows.append (Rows.append (Rows.append (Rows.append (Rows.single (d:=(kI .i64)) (cs:=[.int .i64 x1.Id]) (x:=x1.Id) z) (Rows.single (d:=(kI .i64)) (cs:=[.int .i64 x1.Txn]) (x:=x1.Txn) z)) (Rows.single (d:=(kI .i64)) (cs:=[.int .i64 x1.Age]) (x:=x1.Age) z)) (Rows.single (d:=(kI .i64)) (cs:=[.int .i64 x1.Epoch]) (x:=x1.Epoch) z)) (Rows.single (d:=(kI .i64)) (cs:=[.int .i64 x1.Watch.Session]) (x:=x1.Watch.Session) z)) (Rows.single (d:=(kI .i64)) (cs:=[.int .i64 x1.Watch.Num]) (x:=x1.Watch.Num) z))) λ d3 w a H E=>have H:=H.thaw (i:=0) z;bd m λ d4 b9 m=>gc 99 E b z (cf_ 122) (Mc H m0 b9)<|?_
          rintro _ w ⟨rfl,H⟩ a E
          refine pk 2 E (kc 99 z b) z λ a E=>cs m (λ o m=>?_) λ o m=>?_
          ·refine pk 1 E (kc 117 z o) z λ a E=>gl 117 E H 0 o U9 z λ a E=>bd m λ d5 c0 m=>gc 117 E o z (cf_ 123) (Bt H c0)<|?_
           rintro _ w ⟨rfl,H⟩ a E
           refine pk 2 E (kc 117 z o) z λ a E=>cs m (λ p m=>?_) λ p m=>?_
           ·refine pk 2 E (kc 122 z p) z λ a E=>gl 122 E H 0 p U9 z λ a E=>bd m λ d6 c1 m=>gc 122 E p z (cf_ 123) (Bt H c1)<|?_
            rintro _ w ⟨rfl,H⟩ a E
            exact pk 2 E (kc 122 z p) z λ a E=>nt<|⟨_,_,E.to z,H,(Y1 M),m⟩
           ·exact pk 6 E (kc 122 z p) z λ a E=>nt<|⟨_,_,E.to z,H,(Y1 M),m⟩
          ·exact pk 11 E (kc 117 z o) z λ a E=>nt<|⟨_,_,E.to z,H,(Y1 M),m⟩
         ·exact pk 29 E (kc 99 z b) z λ a E=>nt<|⟨_,_,E.to z,H,M,m⟩
        ·clear E H m
         rintro a w ⟨b0,c8,E,H,f,m⟩
         unfold jU at m
         refine sp 2 E z λ a E=>cs m (λ q m=>?_) λ q m=>?_
         ·refine pk 1 E (kc 129 z q) z λ a E=>gl 129 E H 0 q U33 z λ a E=>gv 129 E q z (tG E H z z (f _ R) U33) λ a E=>pk 3 E (kc 129 z q) z λ a E=>cs m (λ s m=>?_) λ s m=>?_
          ·refine pk 1 E (kc 135 z s) z λ a E=>gv 135 E s z (L3 (i:=0) (us:=[K,L]) E H z z z z U25 z dF) λ a E=>bd m λ d7 c2 m=>gc 135 E s z (cf_ 37) (Q4 H (f _ b1) (f _ b2) c2)<|?_
           rintro _ w ⟨rfl,H⟩ a E
           refine pk 2 E (kc 135 z s) z λ a E=>cs m (λ t m=>?_) λ t m=>?_
           ·refine pk 2 E (kc 140 z t) z λ a E=>gl 140 E H 0 t U22 z λ a E=>gv 140 E t z (tG E H z z (f _ b1) U22) λ a E=>pk 3 E (kc 140 z t) z λ a E=>cs m (λ u m=>?_) λ u m=>?_
            ·refine pk 2 E (kc 147 z u) z λ a E=>gl 147 E H 0 u U23 z λ a E=>gv 147 E u z (tG E H z z (f _ b2) U23) λ a E=>pk 3 E (kc 147 z u) z λ a E=>nt<|wR<|o1 E z<|have H:=H.drop 0;?_
             cases m
             exact ⟨z,H.reads f⟩
            ·refine pk 7 E (kc 147 z u) z λ a E=>nt<|wR<|o1 E z<|have H:=H.drop 0;?_
             cases m
             exact ⟨z,H.reads f⟩
           ·refine pk 14 E (kc 140 z t) z λ a E=>nt<|wR<|o1 E z<|have H:=H.drop 0;?_
            cases m
            exact ⟨z,H.reads f⟩
          ·refine pk 19 E (kc 135 z s) z λ a E=>nt<|wR<|o1 E z<|have H:=H.drop 0;?_
           cases m
           exact ⟨z,H.reads f⟩
         ·refine pk 25 E (kc 129 z q) z λ a E=>nt<|wR<|o1 E z<|have H:=H.drop 0;?_
          cases m
          exact ⟨z,H.reads f⟩

def dH(x1:Int):Option aX:=
  some ((⟨x1,0,false,0,[],(⟨[],[]⟩:aR),[],[],[]⟩:aX))
theorem eP{x1:Int}(H:Sep w (Fo) rs){r:aX}(m:dH x1=some r) :
    Cf 53 [.int .i64 x1] w λ v w'=>∃ b c d e f g,.agg (aU r b c d e f g).toArray=v/\Sep w' (Fo) (rSl aY b r.Results::rSl aB c r.Store.Nodes::rSl aC d r.Store.Turns::rSl aQ e r.Events::rSl bD f r.Mounts::rSl (kI .i64) g r.Wounded::rs):=by
 unfold dH at m
 refine ent Tryz.func53 z Tryz.ntmps53 z z λ a E=>sq<|al2 E H z kM λ i w a H E=>xp 1 E z λ a E=>sv2 E z (cJ E z (E.evs z) (v:=.agg #[.int .i64 x1,.int .i64 0,.bool false,.int .i64 0,nS,nS,nS,nS,nS,nS]) (by kernel_rfl)) λ a E=>ss 0 E H z bU z λ w H=>nt<|wR<|oB 0 [.int .i64 x1,.int .i64 0,.bool false,.int .i64 0,nS,nS,nS,nS,nS,nS] E H U48 z bU<|have H:=H.nilSl aY;have H:=H.nilSl aB;have H:=H.nilSl aC;have H:=H.nilSl aQ;have H:=H.nilSl bD;have H:=H.nilSl (kI .i64);have H:=H.drop 0;?_
 cases m
 exact X6 ⟨z,H.rdx [5,4,3,2,1,0] z (λ r hr=>(t6 hr))⟩

def pH(x20:aK)(b:sB):Option Yr:=
  (Ru (kyI .i64) b x20.Txn uS).bind λ c=>some (c,b)
def tA(x20:aK)(b:List kV)(c:Bool):Option Yr:=
  if (!c)=true then (if ((b.length:Int) == 128)=true then ((dH 2).bind λ d=>some (d,b)) else ((mpt (kyI .i64) b x20.Txn (⟨0,0,x20.Yes,x20.Epoch,[],(⟨[],[]⟩:aR),[],[],[]⟩:aX)).bind λ e=>pH x20 e)) else (pH x20 b)
def sG(b:List kV)(x20:aK):Option Yr:=
  (K7 (kyI .i64) b x20.Txn uS).bind λ c=>tA x20 b c.2
theorem Eu{d b:Nat}{x:List kV}{x20:aK}{p q s t e f g j k l n o:Value}(H:Sep w (Blk d 87 [e,f,g,j,k,l,n,o,.map (some b)]::bX Tryz.prog 2 (kyI .i64) bB true b x::Fo) rs){r:aX×sB}(m:sG x x20=some r) :
    Cf 45 [pt d 0,.agg (aL x20 p q s t).toArray] w λ v w'=>∃ J L M N O P,.agg (aU r.1 J L M N O P).toArray=v/\Sep w' (Blk d 87 [e,f,g,j,k,l,n,o,.map (some b)]::bX Tryz.prog 2 (kyI .i64) bB true b r.2::Fo) (rSl aY J r.1.Results::rSl aB L r.1.Store.Nodes::rSl aC M r.1.Store.Turns::rSl aQ N r.1.Events::rSl bD O r.1.Mounts::rSl (kI .i64) P r.1.Wounded::rs):=by
 unfold sG at m
 refine ent Tryz.func45 z Tryz.ntmps45 z z λ a E=>sq<|bx E H z λ c w a H E=>al2 E H z kM λ y w a H E=>nt<|aN (λ a w=>∃ A,Jn 44 a w [(0,pt d 0),(3,pt c 0),(4,pt y 0)] (Blk d 87 [e,f,g,j,k,l,n,o,.map (some b)]::Blk c 37 (aL x20 p q s t)::Blk y 48 bJ::bX Tryz.prog 2 (kyI .i64) bB true b A::Fo) rs (pH x20 A=some r)) ?_ ?_
 ·refine aN (λ a w=>∃ B,Jn 44 a w [(0,pt d 0),(3,pt c 0),(4,pt y 0),(6,.bool B)] (Blk d 87 [e,f,g,j,k,l,n,o,.map (some b)]::Blk c 37 (aL x20 p q s t)::Blk y 48 bJ::bX Tryz.prog 2 (kyI .i64) bB true b x::Fo) rs (tA x20 x B=some r)) ?_ ?_
  ·refine bd m λ c4 C m=>?_
   have hI:dG [Blk c 37 (aL x20 p q s t),Blk d 87 [e,f,g,j,k,l,n,o,.map (some b)]] [] { w with drawn:=w.drawn+1 }:=⟨_,_,H.kept (Kp.drawn _ w _),(aJ mm1 (aJ mm2 (bC))),(bI)⟩
   refine nX _ (.go 0 0 (.go 1 0 (.go 2 0 (.go 3 0 (.go 4 0 (.go 5 0 (.alt 6 (.go 7 0 (.go 8 0 (.go 9 0 (.go 10 1 (.go 11 1 (.go 12 2 .nil)))))) 10 (.go 6 1 (.go 7 0 (.go 8 0 (.go 9 0 (.go 11 1 (.go 12 2 .nil))))))))))))) [12] oT (by kernel_rfl) (λ _ _ _ h=>False.elim h.2) hI<|have H:=H.kept (Kp.drawn _ w (w.drawn+1));?_
   generalize ({ w with drawn:=w.drawn+1 }:World)=w at H hI ⊢
   replace hI:∃ W,dG [Blk c 37 (aL x20 p q s t),Blk d 87 [e,f,g,j,k,l,n,o,.map (some b)]] [] W:=⟨_,hI⟩
   obtain ⟨W0,hI⟩:=hI
   refine om E z λ a E=>ov E z (λ w hW=>(yI E z z)) λ a E=>ov E z (λ w hW=>lY E z z (v:=pt d 8) (AW _ _)) λ a E=>ol E mm1 U84 z λ a E=>ov E z (λ w hW=>lY E z z (v:=pt c 2) (Nm _ _)) λ a E=>ol E m0 U2 z λ a E=>nY z z ?_ ?_
   ·refine rY (i:=3) (K:=(kyI .i64)) E H (wn z) z z z z z z (fR U2) U84 P8 Av C λ c5 a H E=>?_
    obtain ⟨c6,c7,c8,c9,d0,d1,rfl,h⟩:=nZ H;clear H;have H:=h
    refine nt<|⟨sx H [1,2] z,om E z λ a E=>ox E z λ a E=>ox E z λ a E=>cH z<|al2 E H z kM λ d2 w a H E=>nt<|⟨sx H [2,3] z,cH z<|ss 0 E H z bU (aZ H mm5 mm4 mm3 mm2 mm1 m0) λ w H=>nt<|⟨sx H [2,3] z,cV z<|pn 1 E z λ a E=>eO<|?_⟩⟩⟩
    clear hI
    exact aA<|have H:=H.drop 0;have H:=H.frs [3,1,2,3] z;⟨_,_,E.to z,H,(Y7 Y0),m⟩
   ·refine al2 E H z kM λ d3 w a H E=>nt<|⟨sx H [2,3] z,cH z<|rY (i:=4) (K:=(kyI .i64)) E H (wn z) z z z z z z (fR U2) U84 P8 Av C λ b5 a H E=>?_⟩
    obtain ⟨b6,b7,b8,b9,c0,c1,rfl,h⟩:=nZ H;clear H;have H:=h
    refine nt<|⟨sx H [2,3] z,om E z λ a E=>ox E z λ a E=>ox E z λ a E=>cH z<|ss 0 E H z bU (aZ H mm5 mm4 mm3 mm2 mm1 m0) λ w H=>nt<|⟨sx H [2,3] z,cV z<|pn 1 E z λ a E=>eO<|?_⟩⟩
    clear hI
    exact aA<|have H:=H.drop 0;have H:=H.frs [3,1,2,3] z;⟨_,_,E.to z,H,(Y7 Y0),m⟩
  ·clear E H m
   rintro a w ⟨B,c2,E,H,u,m⟩
   unfold tA at m
   refine sq<|pn 2 E z λ a E=>wif E m z (λ m=>?_) λ m=>?_
   ·refine wS<|sp 3 E z λ a E=>lb2 E H 0 U84 z λ a E=>sv2 E z (W1 (i:=3) E H z z z U84) λ a E=>pn 1 E z λ a E=>wif E m z (λ m=>?_) λ m=>?_
    ·refine sq<|bd m λ Q D m=>xc2 E z (cf_ 53) (eP H D)<|?_
     rintro _ w ⟨R,S,T,U,V,X,rfl,H⟩ a E
     refine ss 2 E H z bU (aZ H m0 mm1 mm2 mm3 mm4 mm5) λ w H=>nt<|wR<|aH<|aH<|oB 2 (aU Q R S T U V X) E H U48 z bU<|have H:=H.drs [1,1];?_
     cases m
     exact X6 ⟨z,H.rdx [0,1,2,3,4,5] z (λ r hr=>(t6 (u r hr)))⟩
    ·refine wK<|aA<|dz [0,0,0,0,0,0,0,0,0,0,0,2] [0,1] H λ w W0 hI H=>fn 3 E z λ a E=>fb2 E m0 U84 z λ a E=>fn 1 E z λ a E=>fb2 E mm1 U2 z λ a E=>fn 1 E z λ a E=>fb2 E mm1 U4 z λ a E=>fn 1 E z λ a E=>fb2 E mm1 U2 z λ a E=>fv E z (λ w hW=>(cJ E z (E.evs z) (v:=.agg #[.int .i64 0,.int .i64 0,.bool x20.Yes,.int .i64 x20.Epoch,nS,nS,nS,nS,nS,nS]) (by kernel_rfl))) λ a E=>bH z<|bd m λ d4 F m=>S8 (i:=3) (K:=(kyI .i64)) (v:=(⟨0,0,x20.Yes,x20.Epoch,[],(⟨[],[]⟩:aR),[],[],[]⟩:aX)) (cs:=[.int .i64 0,.int .i64 0,.bool x20.Yes,.int .i64 x20.Epoch,nS,nS,nS,nS,nS,nS]) E H (wn z) z z z z z z (fR U2) U84 F (λ ok hr=>(sA (Sl.nil _ _ _) (Sl.nil _ _ _) (Sl.nil _ _ _) (Sl.nil _ _ _) (Sl.nil _ _ _) (Sl.nil _ _ _))) λ w H=>nt<|bG<|?_
     clear hI
     exact aA<|⟨_,_,E.to z,H,u,m⟩
   ·exact wK<|aA<|⟨_,_,E.to z,H,u,m⟩
 ·clear E H m
  rintro a w ⟨A,c3,E,H,G,m⟩
  unfold pH at m
  refine wS<|dz [0,0,0,0,0,0,1,2] [0,1] H λ w W0 hI H=>fn 3 E z λ a E=>fb2 E m0 U84 z λ a E=>fn 1 E z λ a E=>fb2 E mm1 U2 z λ a E=>bQ z<|bd m λ Y I m=>AL (i:=3) (K:=(kyI .i64)) E H (wn z) z z z z z z (fR U2) U84 P8 Av I λ d5 a H E=>?_
  obtain ⟨Z,b0,b1,b2,b3,b4,rfl,h⟩:=nZ H;clear H;have H:=h
  refine nt<|⟨sx H [0,1] z,bH z<|ss 2 E H z bU (aZ H mm5 mm4 mm3 mm2 mm1 m0) λ w H=>nt<|bG<|?_⟩
  clear hI
  refine aA<|wR<|oB 2 (aU Y Z b0 b1 b2 b3 b4) E H U48 z bU<|have H:=H.drs [1,1];?_
  cases m
  exact X6 ⟨z,H.rdx [5,4,3,2,1,0] z (λ r hr=>(t7 (G r hr)))⟩

def yE(e:ByteArray)(b:List aF)(f:ByteArray):Option Bool:=
  (mE b e).bind λ c=>if (decide (c ≥ 0))=true then ((idx b c).bind λ d=>some (sEq d.Prefix f)) else (some (false))
theorem Ga{p e:ByteArray}{f g:Nat}{i:Value}{q:List aF}(H:Sep w (Blk f 32 [i]::Blk g 9 [.string e]::Fo) rs)(c:rSl aO i q ∈ rs){r:Bool}(m:yE p q e=some r) :
    Cf 177 [.string p,pt f 0,pt g 0] w λ v w'=>.bool r=v/\Sep w' (Blk f 32 [i]::Blk g 9 [.string e]::Fo) (rs):=by
 unfold yE at m
 refine ent Tryz.func177 z Tryz.ntmps177 z z λ a E=>sp 1 E z λ a E=>nx<|lb2 E H 0 U32 z λ a E=>pr 1 E z λ a E=>bd m λ y s m=>xk2 E z (cf_ 24) (y7 H c s) λ w H a E=>pr 1 E z λ a E=>nt<|wS<|?_
 obtain ⟨t,H⟩:=H.raw c
 refine dw [(0,0),(1,0),(2,0),(3,0),(4,0),(5,0),(6,0),(7,0),(8,0),(9,0),(10,0),(11,2)] [0,1] [0] H (by kernel_rfl) (λ _ _ _ h=>False.elim h.2) λ w W0 hI H=>fn 3 E z λ a E=>cs m (λ b m=>?_) λ b m=>?_
 ·refine fb E z (ws' (d:=11) E z z z z b) z z z z m0 z U32 z λ a E=>fk 1 E (kc 11 z b) z λ a E=>bd m λ u j m=>?_
  obtain ⟨q14,x,l,n⟩:=fB (P:=Tryz.prog) (k:=.i64) hI (fA (.head _)) U32 kA j
  refine dL E z (ws' (d:=11) E z z z z b) z z (λ w hW=>gO E z z z (l w)) λ a E=>?_
  have o:=pF n (λ _ _ _ h=>vM h)
  refine fk 1 E (kc 11 z b) z λ a E=>fa E z (ws' (d:=11) E z z z z b) z z z z o U9 z λ a E=>fb E z (ws' (d:=11) E z z z z b) z z z z mm1 z U9 z λ a E=>fk 2 E (kc 11 z b) z λ a E=>bH z<|pn 1 E z λ a E=>bG<|?_
  clear hI
  refine aA<|wR<|o1 E z<|?_
  cases m
  exact ⟨z,H.reads (Y1 Y0)⟩
 ·refine fk 8 E (kc 11 z b) z λ a E=>bH z<|pn 1 E z λ a E=>bG<|?_
  clear hI
  refine aA<|wR<|o1 E z<|?_
  cases m
  exact ⟨z,H.reads (Y1 Y0)⟩

def xS(d:List aF)(e:ByteArray)(b:ByteArray):Option Bool:=
  (yE b d e).bind λ c=>some (c)
def B4(x1:aG)(c:List aF)(d:ByteArray):Option Bool:=
  (sW x1.Path).bind λ b=>if (!b.2)=true then (xS c d (ByteArray.mk #[47])) else (xS c d b.1)
theorem Rk{x1:aG}{d b c:Nat}{i:Value}{j:List aF}{e:ByteArray}(H:Sep w (Blk d 122 [.func (.func 177) #[] #[pt b 0,pt c 0]]::Blk b 32 [i]::Blk c 9 [.string e]::Fo) rs)(n:rSl aO i j ∈ rs){r:Bool}(m:B4 x1 j e=some r) :
    Cf 179 [.agg (nA x1).toArray,pt d 0] w λ v w'=>.bool r=v/\Sep w' (Blk d 122 [.func (.func 177) #[] #[pt b 0,pt c 0]]::Blk b 32 [i]::Blk c 9 [.string e]::Fo) (rs):=by
 unfold B4 at m
 refine ent Tryz.func179 z Tryz.ntmps179 z z λ a E=>sq<|bx E H z λ s w a H E=>pr 1 E z λ a E=>xp 1 E z λ a E=>lb2 E H 0 U9 z λ a E=>bd m λ p k m=>xk2 E z (cf_ 180) (M1 H k) λ w H a E=>pn 5 E z λ a E=>aN (λ a w=>∃ f,Jn 17 a w [(1,pt d 0),(4,.string f)] (Blk d 122 [.func (.func 177) #[] #[pt b 0,pt c 0]]::Blk b 32 [i]::Blk c 9 [.string e]::Fo) rs (xS j e f=some r)) ?_ ?_
 ·refine sq<|pn 2 E z λ a E=>wif E m z (λ m=>?_) λ m=>?_
  ·exact wG<|pn 1 E z λ a E=>have H:=H.drop 0;⟨_,_,E.to z,H,Y0,m⟩
  ·exact wK<|aA<|have H:=H.drop 0;⟨_,_,E.to z,H,Y0,m⟩
 ·clear E H m
  rintro a w ⟨f,o,E,H,g,m⟩
  unfold xS at m
  refine sq<|lb2 E H 0 LZ z λ a E=>pr 1 E z λ a E=>have H:=H.frs [0,2,2] z;bd m λ q l m=>bK E (wn z) z z (bO E z z z ((cf_ 177) _)) (Ga H (g _ n) l)<|?_
  rintro _ w ⟨rfl,H⟩ a E
  refine pn 1 E z λ a E=>wR<|o1 E z<|have H:=H.frs [1,1,2] z;?_
  cases m
  exact ⟨z,H.reads g⟩

def mK(rec_1:dZ->dZ->Int->Option Sg)(b:Int)(c:dZ)(d:dZ):Option Sg:=
  rec_1 c d (IntKind.i64.wrap (b+1))
def eS(f:List aG)(g:List aF)(i:ByteArray):Nat->dZ->dZ->Int->Option Sg
  | 0,_,_,_=>none
  | j+1,c,d,e=>
    if (decide (e < (f.length:Int)))=true then ((idx f e).bind λ b=>(B4 b g i).bind λ k=>if k=true then ((ck (c.length+([b]:List aG).length <= LIM)).bind λ l=>mK (eS f g i j) e (c ++ ([b]:List aG)) d) else ((ck (d.length+([b]:List aG).length <= LIM)).bind λ m=>mK (eS f g i j) e c (d ++ ([b]:List aG)))) else (some (c,d))
def pI(b:List aG)(c:List aF)(d:ByteArray):Option Sg:=
  eS b c d (((b.length:Int) - 0:Int).toNat+1) [] [] 0
theorem Bc{D p:Value}{k:List aG}{l f g:Nat}{F:List aF}{n:ByteArray}(H:Sep w (Blk l 122 [.func (.func 177) #[] #[pt f 0,pt g 0]]::Blk f 32 [p]::Blk g 9 [.string n]::Fo) rs)(G:rSl aB D k ∈ rs)(I:rSl aO p F ∈ rs){r:dZ×dZ}(m:pI k F n=some r) :
    Cf 178 [D,.func (.func 179) #[] #[pt l 0]] w λ v w'=>∃ O P,.tuple #[O,P]=v/\Sep w' (Row 107 aB O r.1::Row 107 aB P r.2::Blk l 122 [.func (.func 177) #[] #[pt f 0,pt g 0]]::Blk f 32 [p]::Blk g 9 [.string n]::Fo) (rs):=by
 unfold pI at m
 refine ent Tryz.func178 z Tryz.ntmps178 z z λ a E=>sp 2 E z λ a E=>nx<|pn 2 E z λ a E=>wS<|sp 1 E z λ a E=>lS E H G U22 z λ a E=>pn 1 E z λ a E=>wB<|bL (λ o a w=>∃ q s t u j,Jn 30 a w [(1,.func (.func 179) #[] #[pt l 0]),(6,q),(7,s),(10,D),(11,.int .i64 (k.length:Int)),(12,.int .i64 j)] (Blk l 122 [.func (.func 177) #[] #[pt f 0,pt g 0]]::Row 107 aB q t::Row 107 aB s u::Blk f 32 [p]::Blk g 9 [.string n]::Fo) rs (eS k F n o t u j=some r)) (((k.length:Int) - 0:Int).toNat+1) ?_ ?_
 ·exact have H:=H.nilRow 107 aB;have H:=H.nilRow 107 aB;have H:=H.frs [4,4,2,3,4] z;X6 ⟨E.to z,H,Y0,m⟩
 ·clear E H m
  rintro o a w ⟨q,s,t,u,j,Q,E,H,c,m⟩
  cases o with
  | zero=>exact (bF m z).elim
  | succ o=>
   unfold eS at m
   refine sq<|pn 1 E z λ a E=>wS<|wif E m z (λ m=>?_) λ m=>?_
   ·refine wK<|aA<|aN (λ a w=>∃ y A B C,Jn 30 a w [(1,.func (.func 179) #[] #[pt l 0]),(6,y),(7,A),(10,D),(11,.int .i64 (k.length:Int)),(12,.int .i64 j)] (Blk l 122 [.func (.func 177) #[] #[pt f 0,pt g 0]]::Row 107 aB y B::Row 107 aB A C::Blk f 32 [p]::Blk g 9 [.string n]::Fo) rs (mK (eS k F n o) j B C=some r)) ?_ ?_
    ·refine wB<|sq<|bd m λ b J m=>dP E H (wn z) z z z z z (c _ G) U22 gM J λ q26 a H E=>ldf cM E H z z z z z m0 zS z gM λ a E=>al2 E H z Yp λ S w a H E=>ss 0 E H z gM z λ w H=>xp 1 E z λ a E=>ln 0 (nA b) E H zS z gM λ a E=>have H:=H.frs [3,3,2,5,5,5] z;bd m λ T K m=>bK E (wn z) z z (bO E z z z ((cf_ 179) _)) (Rk H (t1 (c _ I)) K)<|?_
     rintro _ w ⟨rfl,H⟩ a E
     refine nt<|wif E m z (λ m=>?_) λ m=>?_
     ·exact wG<|pr 1 E z λ a E=>ln 3 (nA b) E H zS z gM λ a E=>xK (e:=107) (d:=aB) (cs:=[.string b.Path,.string b.Data,.int .i64 b.Version,.int .i64 b.Turn,.int .i64 b.Owner]) (xs:=[b]) E H (wn z) z z z (E.evs z) (by kernel_rfl) z (λ ok hr=>(Rows.single (d:=aB) (cs:=[.string b.Path,.string b.Data,.int .i64 b.Version,.int .i64 b.Turn,.int .i64 b.Owner]) (x:=b) A4)) λ U w a H E=>bk m λ L m=>eZ (i:=4) E H (wn z) z z z z z z (nW m0) U22 Nr z L z λ V w a H E=>pr 1 E z λ a E=>wN<|bR<|aA<|have H:=H.drop 3;have H:=H.frs [2,2,4,4,4] z;X5 ⟨E.to z,H,(Y2 c),m⟩
     ·exact wG<|pr 1 E z λ a E=>ln 3 (nA b) E H zS z gM λ a E=>xK (e:=107) (d:=aB) (cs:=[.string b.Path,.string b.Data,.int .i64 b.Version,.int .i64 b.Turn,.int .i64 b.Owner]) (xs:=[b]) E H (wn z) z z z (E.evs z) (by kernel_rfl) z (λ ok hr=>(Rows.single (d:=aB) (cs:=[.string b.Path,.string b.Data,.int .i64 b.Version,.int .i64 b.Turn,.int .i64 b.Owner]) (x:=b) A4)) λ W w a H E=>bk m λ M m=>eZ (i:=5) E H (wn z) z z z z z z (nW m0) U22 Nr z M z λ X w a H E=>pr 1 E z λ a E=>wN<|bR<|aA<|have H:=H.drop 3;have H:=H.frs [2,2,4,4,4] z;X5 ⟨E.to z,H,(Y2 c),m⟩
    ·clear E H m
     rintro a w ⟨y,A,B,C,R,E,H,N,m⟩
     unfold mK at m
     exact wG<|pn 2 E z λ a E=>⟨o,nL o,X6 ⟨E.to z,H,N,m⟩⟩
   ·refine wX<|aW<|aW<|cT<|aA<|sq<|pn 4 E z λ a E=>wR<|jN E z z z<|have H:=H.frs [4,4,2,4,4] z;?_
    cases m
    exact ⟨_,_,z,H.reads c⟩

def B5(x1:aM)(c:List aF)(d:ByteArray):Option Bool:=
  (yE x1.Dir c d).bind λ b=>some (b)
theorem Rl{x1:aM}{d b c:Nat}{e:Value}{i:List aF}{f:ByteArray}(H:Sep w (Blk d 122 [.func (.func 177) #[] #[pt b 0,pt c 0]]::Blk b 32 [e]::Blk c 9 [.string f]::Fo) rs)(j:rSl aO e i ∈ rs){r:Bool}(m:B5 x1 i f=some r) :
    Cf 182 [.agg #[.string x1.Dir,.int .i64 x1.Next],pt d 0] w λ v w'=>.bool r=v/\Sep w' (Blk d 122 [.func (.func 177) #[] #[pt b 0,pt c 0]]::Blk b 32 [e]::Blk c 9 [.string f]::Fo) (rs):=by
 unfold B5 at m
 refine ent Tryz.func182 z Tryz.ntmps182 z z λ a E=>sq<|bx E H z λ l w a H E=>pr 1 E z λ a E=>nx<|lb2 E H 1 LZ z λ a E=>pr 1 E z λ a E=>lb2 E H 0 U9 z λ a E=>have H:=H.frs [1,1,3,3] z;bd m λ k g m=>bK E (wn z) z z (bO E z z z ((cf_ 177) _)) (Ga H j g)<|?_
 rintro _ w ⟨rfl,H⟩ a E
 refine pn 1 E z λ a E=>wR<|o1 E z<|have H:=H.drop 2;have H:=H.frs [1,1,2] z;?_
 cases m
 exact ⟨z,H.reads Y0⟩

def mL(rec_1:dR->dR->Int->Option Sf)(b:Int)(c:dR)(d:dR):Option Sf:=
  rec_1 c d (IntKind.i64.wrap (b+1))
def eT(f:List aM)(g:List aF)(i:ByteArray):Nat->dR->dR->Int->Option Sf
  | 0,_,_,_=>none
  | j+1,c,d,e=>
    if (decide (e < (f.length:Int)))=true then ((idx f e).bind λ b=>(B5 b g i).bind λ k=>if k=true then ((ck (c.length+([b]:List aM).length <= LIM)).bind λ l=>mL (eT f g i j) e (c ++ ([b]:List aM)) d) else ((ck (d.length+([b]:List aM).length <= LIM)).bind λ m=>mL (eT f g i j) e c (d ++ ([b]:List aM)))) else (some (c,d))
def pJ(b:List aM)(c:List aF)(d:ByteArray):Option Sf:=
  eT b c d (((b.length:Int) - 0:Int).toNat+1) [] [] 0
theorem Bd{D p:Value}{k:List aM}{l f g:Nat}{F:List aF}{n:ByteArray}(H:Sep w (Blk l 122 [.func (.func 177) #[] #[pt f 0,pt g 0]]::Blk f 32 [p]::Blk g 9 [.string n]::Fo) rs)(G:rSl aC D k ∈ rs)(I:rSl aO p F ∈ rs){r:dR×dR}(m:pJ k F n=some r) :
    Cf 181 [D,.func (.func 182) #[] #[pt l 0]] w λ v w'=>∃ O P,.tuple #[O,P]=v/\Sep w' (Row 89 aC O r.1::Row 89 aC P r.2::Blk l 122 [.func (.func 177) #[] #[pt f 0,pt g 0]]::Blk f 32 [p]::Blk g 9 [.string n]::Fo) (rs):=by
 unfold pJ at m
 refine ent Tryz.func181 z Tryz.ntmps181 z z λ a E=>sp 2 E z λ a E=>nx<|pn 2 E z λ a E=>wS<|sp 1 E z λ a E=>lS E H G U23 z λ a E=>pn 1 E z λ a E=>wB<|bL (λ o a w=>∃ q s t u j,Jn 30 a w [(1,.func (.func 182) #[] #[pt l 0]),(6,q),(7,s),(10,D),(11,.int .i64 (k.length:Int)),(12,.int .i64 j)] (Blk l 122 [.func (.func 177) #[] #[pt f 0,pt g 0]]::Row 89 aC q t::Row 89 aC s u::Blk f 32 [p]::Blk g 9 [.string n]::Fo) rs (eT k F n o t u j=some r)) (((k.length:Int) - 0:Int).toNat+1) ?_ ?_
 ·exact have H:=H.nilRow 89 aC;have H:=H.nilRow 89 aC;have H:=H.frs [4,4,2,3,4] z;X6 ⟨E.to z,H,Y0,m⟩
 ·clear E H m
  rintro o a w ⟨q,s,t,u,j,Q,E,H,c,m⟩
  cases o with
  | zero=>exact (bF m z).elim
  | succ o=>
   unfold eT at m
   refine sq<|pn 1 E z λ a E=>wS<|wif E m z (λ m=>?_) λ m=>?_
   ·refine wK<|aA<|aN (λ a w=>∃ y A B C,Jn 30 a w [(1,.func (.func 182) #[] #[pt l 0]),(6,y),(7,A),(10,D),(11,.int .i64 (k.length:Int)),(12,.int .i64 j)] (Blk l 122 [.func (.func 177) #[] #[pt f 0,pt g 0]]::Row 89 aC y B::Row 89 aC A C::Blk f 32 [p]::Blk g 9 [.string n]::Fo) rs (mL (eT k F n o) j B C=some r)) ?_ ?_
    ·refine wB<|sq<|bd m λ b J m=>dP E H (wn z) z z z z z (c _ G) U23 rW J λ q26 a H E=>ldf dX E H z z z z z m0 U89 z rW λ a E=>al2 E H z QI λ S w a H E=>ss 0 E H z rW z λ w H=>xp 1 E z λ a E=>ln 0 [.string b.Dir,.int .i64 b.Next] E H U89 z rW λ a E=>have H:=H.frs [3,3,2,5,5,5] z;bd m λ T K m=>bK E (wn z) z z (bO E z z z ((cf_ 182) _)) (Rl H (t1 (c _ I)) K)<|?_
     rintro _ w ⟨rfl,H⟩ a E
     refine nt<|wif E m z (λ m=>?_) λ m=>?_
     ·exact wG<|pr 1 E z λ a E=>ln 3 [.string b.Dir,.int .i64 b.Next] E H U89 z rW λ a E=>xK (e:=89) (d:=aC) (cs:=[.string b.Dir,.int .i64 b.Next]) (xs:=[b]) E H (wn z) z z z (E.evs z) (by kernel_rfl) z (λ ok hr=>(Rows.single (d:=aC) (cs:=[.string b.Dir,.int .i64 b.Next]) (x:=b) xZ)) λ U w a H E=>bk m λ L m=>eZ (i:=4) E H (wn z) z z z z z z (nW m0) U23 Rx z L z λ V w a H E=>pr 1 E z λ a E=>wN<|bR<|aA<|have H:=H.drop 3;have H:=H.frs [2,2,4,4,4] z;X5 ⟨E.to z,H,(Y2 c),m⟩
     ·exact wG<|pr 1 E z λ a E=>ln 3 [.string b.Dir,.int .i64 b.Next] E H U89 z rW λ a E=>xK (e:=89) (d:=aC) (cs:=[.string b.Dir,.int .i64 b.Next]) (xs:=[b]) E H (wn z) z z z (E.evs z) (by kernel_rfl) z (λ ok hr=>(Rows.single (d:=aC) (cs:=[.string b.Dir,.int .i64 b.Next]) (x:=b) xZ)) λ W w a H E=>bk m λ M m=>eZ (i:=5) E H (wn z) z z z z z z (nW m0) U23 Rx z M z λ X w a H E=>pr 1 E z λ a E=>wN<|bR<|aA<|have H:=H.drop 3;have H:=H.frs [2,2,4,4,4] z;X5 ⟨E.to z,H,(Y2 c),m⟩
    ·clear E H m
     rintro a w ⟨y,A,B,C,R,E,H,N,m⟩
     unfold mL at m
     exact wG<|pn 2 E z λ a E=>⟨o,nL o,X6 ⟨E.to z,H,N,m⟩⟩
   ·refine wX<|aW<|aW<|cT<|aA<|sq<|pn 4 E z λ a E=>wR<|jN E z z z<|have H:=H.frs [4,4,2,4,4] z;?_
    cases m
    exact ⟨_,_,z,H.reads c⟩

def r6(x1:aR)(d:List aF)(e:ByteArray)(f:Bool):Option MU:=
  if f=true then (some ([],[],[],[])) else ((pI x1.Nodes d e).bind λ b=>(pJ x1.Turns d e).bind λ c=>some (b.1,c.1,b.2,c.2))
def uO(x1:aR)(b:List aF)(c:ByteArray):Option MU:=
  (sD x1).bind λ d=>if (!d)=true then (r6 x1 b c true) else ((oO b).bind λ e=>r6 x1 b c (!e))
theorem oQ{x1:aR}{j k L:Value}{l:List aF}{n:ByteArray}(H:Sep w (Fo) rs)(o:rSl aB j x1.Nodes ∈ rs)(p:rSl aC k x1.Turns ∈ rs)(d:rSl aO L l ∈ rs){r:dZ×dR×dZ×dR}(m:uO x1 l n=some r) :
    Cf 107 [.agg #[j,k],L,.string n] w λ v w'=>∃ M N O P,.tuple #[.agg #[M,N],.agg #[O,P]]=v/\Sep w' (Row 107 aB M r.1::Row 89 aC N r.2.1::Row 107 aB O r.2.2.1::Row 89 aC P r.2.2.2::Fo) (rs):=by
 unfold uO at m
 refine ent Tryz.func107 z Tryz.ntmps107 z z λ a E=>sq<|bx E H z λ q w a H E=>?_
 obtain ⟨q12,Q,rfl⟩:=H.slform d
 refine bx E H z λ s w a H E=>bx E H z λ t w a H E=>al2 E H z oC λ u w a H E=>al2 E H z oC λ x w a H E=>nx<|al2 E H z oC λ y w a H E=>al2 E H z oC λ A w a H E=>nt<|wS<|aN (λ a w=>∃ g,Jn 42 a w [(3,pt q 0),(4,pt s 0),(5,pt t 0),(6,pt u 0),(7,pt x 0),(8,pt y 0),(9,pt A 0),(18,.bool g)] (Blk q 25 [j,k]::Blk s 32 [(.slice q12 l.length Q)]::Blk t 9 [.string n]::Blk u 25 [nS,nS]::Blk x 25 [nS,nS]::Blk y 25 [nS,nS]::Blk A 25 [nS,nS]::Fo) rs (r6 x1 l n g=some r)) ?_ ?_
 ·refine wG<|ln 6 [j,k] E H U25 z dF λ a E=>bd m λ S G m=>xk2 E z (cf_ 37) (Q4 H o p G) λ w H a E=>pr 2 E z λ a E=>cs m (λ c m=>?_) λ c m=>?_
  ·exact pk 4 E (kc 14 z c) z λ a E=>nt<|have H:=H.frs [0,1,2,3,4,5,6] z;⟨_,_,E.to z,H,Y0,m⟩
  ·refine gl 14 E H 5 c U32 z λ a E=>bd m λ T I m=>gc 14 E c z (cf_ 38) (B2 H d I)<|?_
   rintro _ w ⟨rfl,H⟩ a E
   exact pk 2 E (kc 14 z c) z λ a E=>nt<|have H:=H.frs [0,1,2,3,4,5,6] z;⟨_,_,E.to z,H,Y0,m⟩
 ·clear E H m
  rintro a w ⟨g,R,E,H,b,m⟩
  unfold r6 at m
  refine wif E m z (λ m=>?_) λ m=>?_
  ·refine wS<|dz [0,0,1,2] [5,6] H λ w W0 hI H=>fbn E [nS,nS] z (wn z) z z z z m0 z U25 z dF λ a E=>fbn E [nS,nS] z (wn z) z z z z mm1 z U25 z dF λ a E=>bQ z<|ss 3 E H z dF z λ w H=>nt<|⟨sx H [5,6] z,bH z<|ss 4 E H z dF z λ w H=>nt<|bG<|?_⟩
   clear hI
   refine aA<|wR<|aH<|zJ E z (pR (i:=3) (us:=[nS,nS]) H z z z U25 z dF) (pR (i:=4) (us:=[nS,nS]) H z z z U25 z dF)<|have H:=H.nilRow 107 aB;have H:=H.nilRow 89 aC;have H:=H.nilRow 107 aB;have H:=H.nilRow 89 aC;have H:=H.drs [4,4,4,4,4,4,4];have H:=H.frs [0,1,2,3] z;?_
   cases m
   exact X4 ⟨z,H.reads b⟩
  ·refine wK<|aA<|sq<|sv2 E z (mY E z z z) λ a E=>al1 E H z z z z PM z λ U w a H E=>ss 0 E H z PN z λ w H=>xp 1 E z λ a E=>lb2 E H 1 U22 z λ a E=>sv2 E z (mY E z z z) λ a E=>have H:=H.frs [7,7,7,7,5,7,7,7] z;bd m λ e J m=>xc2 E z (cf_ 178) (Bc H (b _ o) (b _ d) J)<|?_
   rintro _ w ⟨V,W,rfl,H⟩ a E
   refine pr 4 E z λ a E=>?_
   obtain ⟨q27,B,rfl⟩:=H.rowform (i:=0) z
   refine ss 8 E H z Pk z λ w H=>pr 1 E z λ a E=>?_
   obtain ⟨q29,C,rfl⟩:=H.rowform (i:=1) z
   refine ss 9 E H z Pk z λ w H=>xp 1 E z λ a E=>lb2 E H 5 U23 z λ a E=>sv2 E z (mY E z z z) λ a E=>have H:=H.frs [9,9,9,9,9,6,6,9,9,9] z;bd m λ f K m=>xc2 E z (cf_ 181) (Bd H (b _ p) (b _ d) K)<|?_
   rintro _ w ⟨X,Y,rfl,H⟩ a E
   refine pr 4 E z λ a E=>?_
   obtain ⟨q35,D,rfl⟩:=H.rowform (i:=0) z
   refine ss 10 E H z Em z λ w H=>pr 1 E z λ a E=>?_
   obtain ⟨q37,F,rfl⟩:=H.rowform (i:=1) z
   refine ss 11 E H z Em z λ w H=>nt<|wS<|dz [0,0,1,2] [10,11] H λ w W0 hI H=>fbn E [(.slice q27 e.1.length B),(.slice q35 f.1.length D)] z (wn z) z z z z m0 z U25 z dF λ a E=>fbn E [(.slice q29 e.2.length C),(.slice q37 f.2.length F)] z (wn z) z z z z mm1 z U25 z dF λ a E=>bQ z<|ss 8 E H z dF z λ w H=>nt<|⟨⟨_,_,H,(aJ (t4 mm6) (aJ (t5 mm6) (bC))),(bI)⟩,bH z<|ss 9 E H z dF z λ w H=>nt<|bG<|?_⟩
   clear hI
   refine aA<|wR<|zJ E z (pR (i:=8) (us:=[(.slice q27 e.1.length B),(.slice q35 f.1.length D)]) H z z z U25 z dF) (pR (i:=9) (us:=[(.slice q29 e.2.length C),(.slice q37 f.2.length F)]) H z z z U25 z dF)<|have H:=H.drs [2,2,2,4,4,4,4,4];have H:=H.frs [1,3,2,3] z;?_
   cases m
   exact X4 ⟨z,H.reads b⟩

def rJ(b:dZ)(c:dR)(d:hZ):Option Es:=
  some (b,c,d)
def vD(e:List aG)(f:List aM)(d:List aF)(x20:aK):Option Es:=
  (r4 d x20.Prefix x20.Epoch).bind λ b=>if b.2=true then ((uO (⟨e,f⟩:aR) d x20.Prefix).bind λ c=>rJ c.2.2.1 c.2.2.2 b.1) else (rJ e f d)
theorem Hv{x:Nat}{A B M N O P Q d e f g j k:Value}{C:List aG}{D:List aM}{R:List aF}{x20:aK}(H:Sep w (Blk x 87 [A,B,M,d,e,f,g,j,k]::Fo) rs)(l:rSl aB A C ∈ rs)(n:rSl aC B D ∈ rs)(c:rSl aO M R ∈ rs){r:dZ×dR×hZ}(m:vD C D R x20=some r) :
    Cf 48 [pt x 0,.agg (aL x20 N O P Q).toArray] w λ v w'=>∃ S T U,.agg bJ.toArray=v/\Sep w' (Blk x 87 [S,T,U,d,e,f,g,j,k]::Fo) (rSl aB S r.1::rSl aC T r.2.1::rSl aO U r.2.2::rs):=by
 unfold vD at m
 refine ent Tryz.func48 z Tryz.ntmps48 z z λ a E=>sq<|bx E H z λ V w a H E=>al2 E H z kM λ y w a H E=>nt<|aN (λ a w=>∃ o p q s t u b,Env 42 a [(4,pt y 0)]/\Sep w (Blk y 48 bJ::Blk x 87 [o,p,q,d,e,f,g,j,k]::Fo) b/\(∀ r,r ∈ rs->r ∈ b)/\rSl aB o s ∈ b/\rSl aC p t ∈ b/\rSl aO q u ∈ b/\rJ s t u=some r) ?_ ?_
 ·refine wS<|dz [0,0,0,0,0,0,0,0,1,0,0,0,1,2] [1,2] H λ w W0 hI H=>fn 3 E z λ a E=>fb2 E mm1 U32 z λ a E=>fn 1 E z λ a E=>fb2 E m0 U9 z λ a E=>fn 1 E z λ a E=>fb2 E m0 U2 z λ a E=>bQ z<|bd m λ W F m=>xc2 E z (cf_ 116) (Uc H c F)<|?_
  rintro _ w ⟨X,rfl,H⟩ a E
  refine nt<|⟨sx H [2,3] z,fn 3 E z λ a E=>bQ z<|pn 1 E z λ a E=>⟨sx H [2,3] z,bH z<|pn 1 E z λ a E=>bG<|?_⟩⟩
  clear hI
  refine aA<|sq<|pn 1 E z λ a E=>wif E m z (λ m=>?_) λ m=>?_
  ·refine wS<|dz [0,0,0,0,0,0,0,0,0,0,0,1,0,0,0,2,2,2] [2,3] H λ w W0 hI H=>fn 4 E z λ a E=>fbn E [A,B] z (wn z) z z z z mm1 z U25 z dF λ a E=>fn 3 E z λ a E=>fb2 E mm1 U32 z λ a E=>fn 1 E z λ a E=>fb2 E m0 U9 z λ a E=>bQ z<|bd m λ Y G m=>xc2 E z (cf_ 107) (oQ (x1:=(⟨C,D⟩:aR)) H l n c G)<|?_
   rintro _ w ⟨Z,b0,b1,b2,rfl,H⟩ a E
   refine nt<|⟨⟨_,_,H,(aJ mm6 (aJ (t1 mm6) (bC))),(bI)⟩,fn 3 E z λ a E=>bH z<|pn 1 E z λ a E=>bH z<|pn 1 E z λ a E=>bH z<|?_⟩
   obtain ⟨q60,b3,rfl⟩:=H.rowform (i:=2) z
   obtain ⟨q62,b4,rfl⟩:=H.rowform (i:=3) z
   refine ss 7 E H z dF z λ w H=>nt<|bG<|?_
   clear hI
   refine aA<|wG<|pr 4 E z λ a E=>?_
   obtain ⟨q64,b5,rfl⟩:=H.rowform (i:=4) z
   exact ss 7 E H z DP z λ w H=>nt<|have H:=H.thaw (i:=2) z;have H:=H.thaw (i:=2) z;have H:=H.thaw (i:=2) z;have H:=H.drs [0,0,1];X7 ⟨E.to z,H,(Y3 Y0),mm2,mm1,m0,m⟩
  ·exact wK<|aA<|have H:=H.drs [0,1];X7 ⟨E.to z,H,Y0,l,n,c,m⟩
 ·clear E H m
  rintro a w ⟨o,p,q,s,t,u,b,E,H,I,J,K,L,m⟩
  unfold rJ at m
  refine sq<|sv2 E z (cJ E z (E.evs z) (v:=.agg bJ.toArray) (by kernel_rfl)) λ a E=>ss 0 E H z bU z λ w H=>nt<|wR<|Eg E z (pR (i:=0) (us:=bJ) H z z z U48 z bU)<|have H:=H.drop 0;?_
  cases m
  exact X3 ⟨z,H.reads (aD J (aD K (aD L (I))))⟩

def uA(x1:aV)(x3:Int):Option Bool:=
  some (x1.Txn == x3)
theorem Dq{x1:aV}{b:Nat}{x3:Int}(H:Sep w (Blk b 2 [.int .i64 x3]::Fo) rs){r:Bool}(m:uA x1 x3=some r) :
    Cf 172 [.agg (uH x1).toArray,pt b 0] w λ v w'=>.bool r=v/\Sep w' (Blk b 2 [.int .i64 x3]::Fo) (rs):=by
 unfold uA at m
 refine ent Tryz.func172 z Tryz.ntmps172 z z λ a E=>sq<|bx E H z λ c w a H E=>pr 1 E z λ a E=>xp 1 E z λ a E=>lb2 E H 0 U2 z λ a E=>lb2 E H 1 U2 z λ a E=>pr 2 E z λ a E=>nt<|wR<|o1 E z<|have H:=H.drop 0;?_
 cases m
 exact ⟨z,H.reads Y0⟩

def eC(c:List aV)(d:Int):Nat->Int->Option Int
  | 0,_=>none
  | f+1,b=>
    if (decide (b < (c.length:Int)))=true then ((idx c b).bind λ g=>(uA g d).bind λ e=>if e=true then (some (b)) else (eC c d f (IntKind.i64.wrap (b+1)))) else (some ((-1)))
def iR(b:List aV)(c:Int):Option Int:=
  eC b c (((b.length:Int) - 0:Int).toNat+1) 0
theorem D6{e:Value}{b:List aV}{f:Nat}{g:Int}(H:Sep w (Row 78 bA e b::Blk f 2 [.int .i64 g]::Fo) rs){r:Int}(m:iR b g=some r) :
    Cf 154 [e,.func (.func 172) #[] #[pt f 0]] w λ v w'=>.int .i64 r=v/\Sep w' (Blk f 2 [.int .i64 g]::Row 78 bA e b::Fo) (rs):=by
 unfold iR at m
 refine ent Tryz.func154 z Tryz.ntmps154 z z λ a E=>sq<|pn 1 E z λ a E=>wS<|sp 1 E z λ a E=>sv2 E z (mZ (i:=0) E H z z z U58) λ a E=>pr 1 E z λ a E=>nt<|wB<|bL (λ c a w=>∃ n,Jn 19 a w [(0,e),(1,.func (.func 172) #[] #[pt f 0]),(7,.int .i64 (b.length:Int)),(8,.int .i64 n)] (Row 78 bA e b::Blk f 2 [.int .i64 g]::Fo) rs (eC b g c n=some r)) (((b.length:Int) - 0:Int).toNat+1) ?_ ?_
 ·exact ⟨_,_,E.to z,H,Y0,m⟩
 ·clear E H m
  rintro c a w ⟨n,q,E,H,j,m⟩
  cases c with
  | zero=>exact (bF m z).elim
  | succ c=>
   unfold eC at m
   refine sq<|pn 1 E z λ a E=>wS<|wif E m z (λ m=>?_) λ m=>?_
   ·refine wK<|aA<|wS<|wB<|sp 2 E z λ a E=>xp 3 E z λ a E=>bd m λ o k m=>?_
    obtain ⟨s,t,l⟩:=H.rowformNE (i:=0) z k
    refine sv2 E z (dE (d:=bA) E l z z z z U58 qL k) λ a E=>sv2 E z (jP (i:=0) E H gD l z z z k (us:=[.string o.Dir,.int .i64 o.Txn,.int .i64 o.Age]) z U78 z qL) λ a E=>have H:=H.frs [0,1] z;bd m λ u p m=>bK E (wn z) z z (bO E z z z ((cf_ 172) _)) (Dq H p)<|?_
    rintro _ w ⟨rfl,H⟩ a E
    refine nt<|wif E m z (λ m=>?_) λ m=>?_
    ·refine sq<|pn 2 E z λ a E=>wR<|bM<|aH<|aH<|bM<|aH<|o1 E z<|?_
     cases m
     exact ⟨z,H.reads j⟩
    ·exact wK<|bR<|aA<|wG<|pn 2 E z λ a E=>have H:=H.frs [0,1] z;⟨c,nL c,_,_,E.to z,H,j,m⟩
   ·refine wX<|aW<|aW<|cT<|aA<|sq<|pn 1 E z λ a E=>wR<|o1 E z<|have H:=H.frs [0,1] z;?_
    cases m
    exact ⟨z,H.reads j⟩

def fX(rec_1:nB->Int->Int->Option nB)(d:Int)(b:nB)(c:Int):Option nB:=
  rec_1 b c (IntKind.i64.wrap (d+1))
def dD(f:Int):Nat->nB->Int->Int->Option nB
  | 0,_,_,_=>none
  | g+1,c,b,d=>
    if (decide (d < (c.length:Int)))=true then ((idx c d).bind λ e=>(uA e f).bind λ i=>if (!i)=true then ((idx c b).bind λ j=>fX (dD f g) d (c.set b.toNat e) (IntKind.i64.wrap (b+1))) else (fX (dD f g) d c b)) else ((ck (0 <= b/\b <= c.length)).bind λ k=>(ck (0 <= b/\b <= (c.take b.toNat ++ List.replicate (c.length - b.toNat) (⟨⟨#[]⟩,0,0⟩:aV)).length)).bind λ l=>some ((c.take b.toNat ++ List.replicate (c.length - b.toNat) (⟨⟨#[]⟩,0,0⟩:aV)).take b.toNat))
def jC(b:List aV)(d:Int):Option nB:=
  (iR b d).bind λ c=>if (c == (-1))=true then (some (b)) else (dD d (((b.length:Int) - (IntKind.i64.wrap (c+1)):Int).toNat+1) b c (IntKind.i64.wrap (c+1)))
theorem E8{l:Value}{u:List aV}{c:Nat}{e:Int}(H:Sep w (Row 78 bA l u::Blk c 2 [.int .i64 e]::Fo) rs){r:nB}(m:jC u e=some r) :
    Cf 171 [l,.func (.func 172) #[] #[pt c 0]] w λ v w'=>∃ D,D=v/\Sep w' (Row 78 bA D r::Blk c 2 [.int .i64 e]::Fo) (rs):=by
 unfold jC at m
 refine ent Tryz.func171 z Tryz.ntmps171 z z λ a E=>sp 1 E z λ a E=>xp 2 E z λ a E=>bd m λ G F m=>xk2 E z (cf_ 154) (D6 H F) λ w H a E=>pn 1 E z λ a E=>wS<|sq<|pn 2 E z λ a E=>wif E m z (λ m=>?_) λ m=>?_
 ·refine sq<|pn 2 E z λ a E=>wR<|aH<|o1 E z<|have H:=H.frs [0,1] z;?_
  cases m
  exact ⟨_,z,H.reads Y0⟩
 ·refine wK<|aA<|wS<|sq<|pn 3 E z λ a E=>wB<|bL (λ f a w=>∃ x y n,Jn 42 a w [(0,l),(1,.func (.func 172) #[] #[pt c 0]),(5,.int .i64 y),(6,.int .i64 n)] (Row 78 bA l x::Blk c 2 [.int .i64 e]::Fo) rs (dD e f x y n=some r)) (((u.length:Int) - (IntKind.i64.wrap (G+1)):Int).toNat+1) ?_ ?_
  ·exact have H:=H.frs [0,1] z;X4 ⟨E.to z,H,Y0,m⟩
  ·clear E H m
   rintro f a w ⟨x,y,n,I,E,H,g,m⟩
   cases f with
   | zero=>exact (bF m z).elim
   | succ f=>
    unfold dD at m
    refine wS<|sp 2 E z λ a E=>sv2 E z (mZ (i:=0) E H z z z U58) λ a E=>pn 1 E z λ a E=>wif E m z (λ m=>?_) λ m=>?_
    ·refine wK<|aA<|aN (λ a w=>∃ o p,Jn 42 a w [(0,l),(1,.func (.func 172) #[] #[pt c 0]),(5,.int .i64 p),(6,.int .i64 n)] (Row 78 bA l o::Blk c 2 [.int .i64 e]::Fo) rs (fX (dD e f) n o p=some r)) ?_ ?_
     ·refine wB<|sp 2 E z λ a E=>bd m λ b j m=>?_
      obtain ⟨K,L,q⟩:=H.rowformNE (i:=0) z j
      refine sv2 E z (dE (d:=bA) E q z z z z U58 qL j) λ a E=>sv2 E z (jP (i:=0) E H gD q z z z j (us:=[.string b.Dir,.int .i64 b.Txn,.int .i64 b.Age]) z U78 z qL) λ a E=>al2 E H z DQ λ M w a H E=>ss 0 E H z qL z λ w H=>xp 1 E z λ a E=>ln 0 (uH b) E H U78 z qL λ a E=>have H:=H.frs [1,1,2] z;bd m λ N A m=>bK E (wn z) z z (bO E z z z ((cf_ 172) _)) (Dq H A)<|?_
      rintro _ w ⟨rfl,H⟩ a E
      refine pn 1 E z λ a E=>wif E m z (λ m=>?_) λ m=>?_
      ·refine sp 2 E z λ a E=>ln 1 (uH b) E H U78 z qL λ a E=>bd m λ O k m=>?_
       obtain ⟨P,Q,s⟩:=H.rowformNE (i:=2) z k
       exact sv2 E z (dE (d:=bA) E s z z z z U58 qL k) λ a E=>P4 (d:=bA) (i:=2) (us:=[.string b.Dir,.int .i64 b.Txn,.int .i64 b.Age]) (z':=b) E H gD (wn z) z s z z z z z z z k qL λ w H=>nt<|wG<|pr 3 E z λ a E=>wN<|bR<|aA<|have H:=H.drop 1;have H:=H.frs [0,1] z;X3 ⟨E.to z,H,g,m⟩
      ·exact wK<|bR<|aA<|have H:=H.drop 1;have H:=H.frs [0,1] z;X3 ⟨E.to z,H,g,m⟩
     ·clear E H m
      rintro a w ⟨o,p,J,E,H,B,m⟩
      unfold fX at m
      exact wG<|pn 3 E z λ a E=>⟨f,nL f,X4 ⟨E.to z,H,B,m⟩⟩
    ·refine wX<|aW<|aW<|cT<|aA<|sp 2 E z λ a E=>bk m λ t m=>sv2 E z (Ei (d:=bA) (i:=0) E H z z z z U58 qL t) λ a E=>U6 (i:=0) (z0:=(⟨⟨#[]⟩,0,0⟩:aV)) E H gD (wn z) z z z U58 PP z z z t λ w H=>xp 2 E z λ a E=>bk m λ C m=>Bj (i:=0) E H gD (wn z) z z z z z z U58 qL C λ R a H E=>pn 1 E z λ a E=>wR<|o1 E z<|?_
     cases m
     exact ⟨_,z,H.reads g⟩

def G2(b:List aV)(x3:Int):Option nB:=
  (ck (b.length <= LIM)).bind λ d=>(jC b x3).bind λ c=>some (c)
theorem Ue{c:Value}{d:List aV}{x3:Int}(H:Sep w (Fo) rs)(e:rSl bA c d ∈ rs){r:nB}(m:G2 d x3=some r) :
    Cf 103 [c,.int .i64 x3] w λ v w'=>∃ f,f=v/\Sep w' (Row 78 bA f r::Fo) (rs):=by
 unfold G2 at m
 refine ent Tryz.func103 z Tryz.ntmps103 z z λ a E=>sq<|bx E H z λ j w a H E=>pr 1 E z λ a E=>xp 1 E z λ a E=>bk m λ g m=>xc2 E z (cf_ 60) (nH H e g) λ k w H a E=>sv2 E z (mY E z z z) λ a E=>bd m λ l b m=>xc2 E z (cf_ 171) (E8 H b)<|?_
 rintro _ w ⟨i,rfl,H⟩ a E
 refine pn 1 E z λ a E=>wR<|o1 E z<|have H:=H.drop 1;?_
 cases m
 exact ⟨_,z,H.reads Y0⟩

def wP(x1:Int):Option Bool:=
  some (x1 != x1)
theorem Z6{x1:Int}(H:Sep w (Fo) rs){r:Bool}(m:wP x1=some r) :
    Cf 320 [.int .i64 x1] w λ v w'=>.bool r=v/\Sep w' (Fo) (rs):=by
 unfold wP at m
 refine ent Tryz.func320 z Tryz.ntmps320 z z λ a E=>sp 1 E z λ a E=>nx<|pn 4 E z λ a E=>wR<|o1 E z<|?_
 cases m
 exact ⟨z,H.reads Y0⟩

def xY(x1:Int)(b:Int):Option Int:=
  (wP x1).bind λ d=>(wP b).bind λ c=>if d=true then (if c=true then (some (0)) else (some ((-1)))) else (if c=true then (some (1)) else (if (decide (x1 < b))=true then (some ((-1))) else (if (decide (x1 > b))=true then (some (1)) else (some (0)))))
theorem Gj{x1 b:Int}(H:Sep w (Fo) rs){r:Int}(m:xY x1 b=some r) :
    Cf 270 [.int .i64 x1,.int .i64 b] w λ v w'=>.int .i64 r=v/\Sep w' (Fo) (rs):=by
 unfold xY at m
 refine ent Tryz.func270 z Tryz.ntmps270 z z λ a E=>sp 1 E z λ a E=>xp 1 E z λ a E=>bd m λ e c m=>xk2 E z (cf_ 320) (Z6 H c) λ w H a E=>pr 1 E z λ a E=>nx<|pr 1 E z λ a E=>bd m λ f d m=>xk2 E z (cf_ 320) (Z6 H d) λ w H a E=>pn 1 E z λ a E=>wS<|sq<|pn 1 E z λ a E=>wif E m z (λ m=>?_) λ m=>?_
 ·refine wS<|sq<|pn 1 E z λ a E=>wif E m z (λ m=>?_) λ m=>?_
  ·refine sq<|pn 1 E z λ a E=>wR<|aH<|aH<|o1 E z<|?_
   cases m
   exact ⟨z,H.reads Y0⟩
  ·refine wK<|aA<|sq<|pn 1 E z λ a E=>wR<|aH<|o1 E z<|?_
   cases m
   exact ⟨z,H.reads Y0⟩
 ·refine wK<|aA<|wS<|sq<|pn 1 E z λ a E=>wif E m z (λ m=>?_) λ m=>?_
  ·refine sq<|pn 1 E z λ a E=>wR<|aH<|o1 E z<|?_
   cases m
   exact ⟨z,H.reads Y0⟩
  ·refine wK<|aA<|wS<|sq<|pn 3 E z λ a E=>wif E m z (λ m=>?_) λ m=>?_
   ·refine sq<|pn 1 E z λ a E=>wR<|aH<|o1 E z<|?_
    cases m
    exact ⟨z,H.reads Y0⟩
   ·refine wK<|aA<|wS<|sq<|pn 3 E z λ a E=>wif E m z (λ m=>?_) λ m=>?_
    ·refine sq<|pn 1 E z λ a E=>wR<|aH<|o1 E z<|?_
     cases m
     exact ⟨z,H.reads Y0⟩
    ·refine wK<|aA<|sq<|pn 1 E z λ a E=>wR<|o1 E z<|?_
     cases m
     exact ⟨z,H.reads Y0⟩

def qX(x1:aE)(x3:Int):Option Int:=
  (xY x1.Num x3).bind λ b=>some (b)
theorem Ad{x1:aE}{c:Value}{x3:Int}(H:Sep w (Fo) rs){r:Int}(m:qX x1 x3=some r) :
    Cf 196 [.agg (qW x1 c).toArray,.int .i64 x3] w λ v w'=>.int .i64 r=v/\Sep w' (Fo) (rs):=by
 unfold qX at m
 refine ent Tryz.func196 z Tryz.ntmps196 z z λ a E=>sq<|bx E H z λ d w a H E=>pr 1 E z λ a E=>xp 1 E z λ a E=>lb2 E H 0 U2 z λ a E=>pr 1 E z λ a E=>bd m λ e b m=>xk2 E z (cf_ 270) (Gj H b) λ w H a E=>pn 1 E z λ a E=>wR<|o1 E z<|have H:=H.drop 0;?_
 cases m
 exact ⟨z,H.reads Y0⟩

def cC(c:List aE)(x3:Int):Nat->Int->Int->Option yM
  | 0,_,_=>none
  | e+1,b,d=>
    if (decide (b < d))=true then ((idx c (IntKind.i64.wrap (sY .u64 (IntKind.u64.wrap (IntKind.i64.wrap (b+d))) 1))).bind λ j=>(qX j x3).bind λ f=>if (decide (f < 0))=true then (cC c x3 e (IntKind.i64.wrap ((IntKind.i64.wrap (sY .u64 (IntKind.u64.wrap (IntKind.i64.wrap (b+d))) 1))+1)) d) else (cC c x3 e b (IntKind.i64.wrap (sY .u64 (IntKind.u64.wrap (IntKind.i64.wrap (b+d))) 1)))) else (if (decide (b < (c.length:Int)))=true then ((idx c b).bind λ g=>(qX g x3).bind λ i=>some (b,i == 0)) else (some (b,false)))
def eJ(b:List aE)(x3:Int):Option yM:=
  cC b x3 (((b.length:Int) - 0:Int).toNat+1) 0 (b.length:Int)
theorem tN{j:Value}{e:List aE}{x3:Int}(H:Sep w (Row 126 aI j e::Fo) rs){r:Int×Bool}(m:eJ e x3=some r) :
    Cf 195 [j,.int .i64 x3,.func (.func 196) #[] #[]] w λ v w'=>.tuple #[.int .i64 r.1,.bool r.2]=v/\Sep w' (Row 126 aI j e::Fo) (rs):=by
 unfold eJ at m
 refine ent Tryz.func195 z Tryz.ntmps195 z z λ a E=>sp 2 E z λ a E=>xp 1 E z λ a E=>sv2 E z (mZ (i:=0) E H z z z U71) λ a E=>pr 1 E z λ a E=>xp 3 E z λ a E=>nt<|wS<|wB<|bL (λ c a w=>∃ u x,Jn 49 a w [(0,j),(1,.int .i64 x3),(2,.func (.func 196) #[] #[]),(8,.int .i64 (e.length:Int)),(9,.int .i64 u),(10,.int .i64 x)] (Row 126 aI j e::Fo) rs (cC e x3 c u x=some r)) (((e.length:Int) - 0:Int).toNat+1) ?_ ?_
 ·exact X3 ⟨E.to z,H,Y0,m⟩
 ·clear E H m
  rintro c a w ⟨u,x,C,E,H,g,m⟩
  cases c with
  | zero=>exact (bF m z).elim
  | succ c=>
   unfold cC at m
   refine wS<|sq<|pn 3 E z λ a E=>wif E m z (λ m=>?_) λ m=>?_
   ·refine wK<|aA<|wB<|sp 4 E z λ a E=>sv2 E z (Ee E z z z (by decide)) λ a E=>pr 2 E z λ a E=>xp 3 E z λ a E=>bd m λ B l m=>?_
    obtain ⟨D,F,n⟩:=H.rowformNE (i:=0) z l
    refine sv2 E z (dE (d:=aI) E n z z z z U71 rU l) λ a E=>My (i:=0) (k:=0) (s:=3) E H n (wn z) z z z z z l z Pj z rU λ G a H E=>?_
    obtain ⟨_,hcs⟩:=H.rd (.head _)
    obtain ⟨p,rfl,-⟩:=dK hcs
    clear hcs
    refine have H:=H.derive1 m0 (rSl aQ p B.Events) (λ ok h=>hP h);?_
    replace E:Env 49 a ((28,.agg (qW B p).toArray)::_):=E
    refine pr 1 E z λ a E=>bd m λ I y m=>bK E (wn z) z z (bO E z z z ((cf_ 196) _)) (Ad H y)<|?_
    rintro _ w ⟨rfl,H⟩ a E
    refine pn 1 E z λ a E=>wif E m z (λ m=>?_) λ m=>?_
    ·exact wG<|pr 3 E z λ a E=>wN<|bR<|aA<|⟨c,nL c,X3 ⟨E.to z,H,(Y2 g),m⟩⟩
    ·exact wG<|pr 2 E z λ a E=>wN<|bR<|aA<|⟨c,nL c,X3 ⟨E.to z,H,(Y2 g),m⟩⟩
   ·refine wX<|aW<|aW<|cT<|aA<|sp 5 E z λ a E=>cs m (λ b m=>?_) λ b m=>?_
    ·refine pk 3 E (kc 39 z b) z λ a E=>bd m λ q f m=>?_
     obtain ⟨J,K,o⟩:=H.rowformNE (i:=0) z f
     refine gv 39 E b z (dE (d:=aI) E o z z z z U71 rU f) λ a E=>My (i:=0) (k:=0) (s:=3) E H o (ws' (d:=39) E z z z z b) z z z z z f z Pj z rU λ L a H E=>?_
     obtain ⟨_,hcs⟩:=H.rd (.head _)
     obtain ⟨t,rfl,-⟩:=dK hcs
     clear hcs
     refine have H:=H.derive1 m0 (rSl aQ t q.Events) (λ ok h=>hP h);?_
     replace E:Env 49 a ((44,.agg (qW q t).toArray)::_):=E
     refine pk 1 E (kc 39 z b) z λ a E=>bd m λ M A m=>bK E (ws' (d:=39) E z z z z b) z z (bO E z z z ((cf_ 196) _)) (Ad H A)<|?_
     rintro _ w ⟨rfl,H⟩ a E
     refine pk 4 E (kc 39 z b) z λ a E=>nt<|wR<|jN E z z z<|?_
     cases m
     exact ⟨z,H.reads (Y2 g)⟩
    ·refine pk 11 E (kc 39 z b) z λ a E=>nt<|wR<|jN E z z z<|?_
     cases m
     exact ⟨z,H.reads g⟩

def vR(c:aP)(d:aE)(b:eA):Option Er:=
  if c.Deep=true then (some (decide ((d.Events.length:Int) < 7),b)) else (some (false,b))
def yR(c:aP)(b:aE)(d:Int)(e:ByteArray)(f:List aE)(g:Int)(i:Bool):Option Er:=
  if i=true then ((ck ((({ b with Count:=IntKind.i64.wrap (b.Count+1) }:aE).Events).length <= LIM)).bind λ j=>(ck ((({ b with Count:=IntKind.i64.wrap (b.Count+1) }:aE).Events).length+([(⟨IntKind.i64.wrap (b.Count+1),d,e,c.Num⟩:bP)]:List bP).length <= LIM)).bind λ k=>vR c b ((f.set g.toNat ({ b with Count:=IntKind.i64.wrap (b.Count+1) }:aE)).set g.toNat ({ ({ b with Count:=IntKind.i64.wrap (b.Count+1) }:aE) with Events:=(({ b with Count:=IntKind.i64.wrap (b.Count+1) }:aE).Events) ++ ([(⟨IntKind.i64.wrap (b.Count+1),d,e,c.Num⟩:bP)]:List bP) }:aE))) else (vR c b f)
def vS(c:aP)(b:aE)(f:List aE)(g:Int)(d:Int)(e:ByteArray):Option Er:=
  if (decide ((b.Events.length:Int) < 8))=true then (yR c b d e f g (decide (b.Count < 281474976710656))) else (yR c b d e f g false)
def G3(d:List aE)(e:Int)(c:aE)(b:aP)(f:Int)(g:ByteArray):Option Er:=
  if ((c.Events.length:Int) == 7)=true then (vS b c d e 4 b.Path) else (vS b c d e f g)
theorem Uf{n:Value}{D U V:Nat}{y:List aE}{t F:Int}{b:aE}{c:aP}{G:ByteArray}(j:idx y t=some b)(l:n= .slice (some ⟨D,0,none⟩) U V)(H:Sep w (Row 126 aI n y::Fo) rs){r:Bool×eA}(m:G3 y t b c F G=some r) :
    Cf 335 [.pointer (some ⟨D,t.toNat * 3,none⟩),.agg (dY c).toArray,.int .i64 F,.string G] w λ v w'=>.bool r.1=v/\Sep w' (Row 126 aI n r.2::Fo) (rs):=by
 unfold G3 at m
 refine ent Tryz.func335 z Tryz.ntmps335 z z λ a E=>sq<|bx E H z λ p w a H E=>pr 1 E z λ a E=>xp 3 E z λ a E=>F3 (i:=1) (k:=2) E H l (wn z) z z z z z j z U44 z λ b0 a H E=>?_
 obtain ⟨_,hcs⟩:=H.rd (.head _)
 obtain ⟨M,rfl,-⟩:=dK hcs
 clear hcs
 refine have H:=H.derive1 m0 (rSl aQ M b.Events) (λ ok h=>hP h);?_
 replace E:Env 65 a ((14,M)::_):=E
 refine lS E H m0 U44 z λ a E=>pn 1 E z λ a E=>wS<|dz [0,0,0,0,0,0,0,0,0,0,1,2] [0,1] H λ w W0 hI H=>fn 3 E z λ a E=>fv E z (λ w hW=>AK (d:=aI) (k:=1) (u:=.int .i64 b.Count) E l j mm1 (λ w ok cs h=>by obtain ⟨n,rfl,-⟩:=dK h;rfl) z z U2 z hW) λ a E=>fn 4 E z λ a E=>fb2 E m0 U2 z λ a E=>fv E z (λ w hW=>(cJ E z (E.evs z) (v:=.agg #[.int .i64 (IntKind.i64.wrap (b.Count+1)),.int .i64 F,.string G,.int .i64 c.Num]) (by kernel_rfl))) λ a E=>bQ z<|al2 E H z Yk λ q w a H E=>nt<|⟨sx H [1,2] z,bH z<|ss 0 E H z vN z λ w H=>nt<|bG<|?_⟩
 clear hI
 refine aA<|aN (λ a w=>∃ f g,Jn 65 a w [(0,.pointer (some ⟨D,t.toNat * 3,none⟩)),(5,pt p 0),(9,.int .i64 (b.Events.length:Int)),(10,pt q 0)] (Row 126 aI n y::Blk p 35 (dY c)::Blk q 131 [.int .i64 (IntKind.i64.wrap (b.Count+1)),.int .i64 f,.string g,.int .i64 c.Num]::Fo) rs (vS c b y t f g=some r)) ?_ ?_
 ·refine sq<|pn 2 E z λ a E=>wif E m z (λ m=>?_) λ m=>?_
  ·refine dz [0,0,0,1,2,2] [1] H λ w W0 hI H=>fn 1 E z λ a E=>fb2 E m0 U9 z λ a E=>fn 1 E z λ a E=>bQ z<|ss 0 E H z sz3 z λ w H=>nt<|⟨sx H [1] z,bH z<|pn 1 E z λ a E=>bH z<|ss 0 E H z sz9 z λ w H=>nt<|bG<|?_⟩
   clear hI
   exact aA<|have H:=H.frs [0,1,2] z;X3 ⟨E.to z,H,(Y2 Y0),m⟩
  ·exact wK<|aA<|have H:=H.frs [0,1,2] z;X3 ⟨E.to z,H,(Y2 Y0),m⟩
 ·clear E H m
  rintro a w ⟨f,g,X,E,H,I,m⟩
  unfold vS at m
  refine aN (λ a w=>∃ J,Jn 65 a w [(5,pt p 0),(9,.int .i64 (b.Events.length:Int))] (Blk p 35 (dY c)::Row 126 aI n J::Fo) rs (vR c b J=some r)) ?_ ?_
  ·refine aN (λ a w=>∃ K,Jn 65 a w [(0,.pointer (some ⟨D,t.toNat * 3,none⟩)),(5,pt p 0),(9,.int .i64 (b.Events.length:Int)),(10,pt q 0),(40,.bool K)] (Row 126 aI n y::Blk p 35 (dY c)::Blk q 131 [.int .i64 (IntKind.i64.wrap (b.Count+1)),.int .i64 f,.string g,.int .i64 c.Num]::Fo) rs (yR c b f g y t K=some r)) ?_ ?_
   ·refine wG<|pr 3 E z λ a E=>cs m (λ o m=>?_) λ o m=>?_
    ·refine pk 3 E (kc 34 z o) z λ a E=>F3 (i:=0) (k:=1) E H l (ws' (d:=34) E z z z z o) z z z z z j z U2 z λ b1 a H E=>?_
     obtain ⟨_,hcs⟩:=H.rd (.head _)
     obtain ⟨P,rfl,-⟩:=dK hcs
     clear hcs
     refine have H:=H.derive1 m0 (rSl aQ P b.Events) (λ ok h=>hP h);?_
     replace E:Env 65 a ((38,.int .i64 b.Count)::_):=E
     exact pk 2 E (kc 34 z o) z λ a E=>nt<|⟨_,_,E.to z,H,(Y2 I),m⟩
    ·exact pk 6 E (kc 34 z o) z λ a E=>nt<|⟨_,_,E.to z,H,I,m⟩
   ·clear E H m
    rintro a w ⟨K,Y,E,H,s,m⟩
    unfold yR at m
    refine wif E m z (λ m=>?_) λ m=>?_
    ·refine sp 3 E z λ a E=>F3 (i:=0) (k:=1) E H l (wn z) z z z z z j z U2 z λ b2 a H E=>?_
     obtain ⟨_,hcs⟩:=H.rd (.head _)
     obtain ⟨Q,rfl,-⟩:=dK hcs
     clear hcs
     refine have H:=H.derive1 m0 (rSl aQ Q b.Events) (λ ok h=>hP h);?_
     replace E:Env 65 a ((44,.int .i64 b.Count)::_):=E
     refine pr 3 E z λ a E=>I3 (i:=0) (k:=1) (us:=[.int .i64 (IntKind.i64.wrap (b.Count+1))]) (y':=({ b with Count:=IntKind.i64.wrap (b.Count+1) }:aE)) E H l (wn z) z z z z z z j z sz2 z (λ ok cs hr h=>by obtain ⟨n,rfl,g1⟩:=dK h;exact mA (x:=({ b with Count:=IntKind.i64.wrap (b.Count+1) }:aE)) g1) λ w H=>nt<|bk m λ A m=>bk m λ B m=>?_
     have hI:dG [Blk q 131 [.int .i64 (IntKind.i64.wrap (b.Count+1)),.int .i64 f,.string g,.int .i64 c.Num]] [] { w with drawn:=w.drawn+1 }:=⟨_,_,H.kept (Kp.drawn _ w _),(aJ mm2 (bC)),(bI)⟩
     refine nX _ (.go 0 0 (.go 1 0 (.go 2 0 (.go 3 0 (.go 6 0 (.alt 4 (.alt 5 (.go 7 1 (.go 8 1 (.go 9 2 (.go 10 2 (.go 11 2 .nil))))) 7 (.go 5 1 (.go 8 1 (.go 9 2 (.go 10 2 (.go 11 2 .nil)))))) 7 (.go 4 1 (.go 5 1 (.go 8 1 (.go 9 2 (.go 10 2 (.go 11 2 .nil)))))))))))) [9,10,11] oT (by kernel_rfl) (λ _ _ _ h=>False.elim h.2) hI<|have H:=H.kept (Kp.drawn _ w (w.drawn+1));?_
     generalize ({ w with drawn:=w.drawn+1 }:World)=w at H hI ⊢
     replace hI:∃ W,dG [Blk q 131 [.int .i64 (IntKind.i64.wrap (b.Count+1)),.int .i64 f,.string g,.int .i64 c.Num]] [] W:=⟨_,hI⟩
     obtain ⟨W0,hI⟩:=hI
     refine om E z λ a E=>om E z λ a E=>ov E z (λ w hW=>(yI E z z)) λ a E=>ov E z (λ w hW=>lY E z z (v:=.pointer (some ⟨D,t.toNat * 3+2,none⟩)) (Wv _ _)) λ a E=>ov E z (λ w hW=>kK E z z (P3 (us:=[.int .i64 (IntKind.i64.wrap (b.Count+1)),.int .i64 f,.string g,.int .i64 c.Num]) m0 z Ek z vN w hW)) λ a E=>nY z z ?_ ?_
     ·refine F3 (i:=0) (k:=2) E H l (wn z) z z z z z (y0 j) z U44 z λ b3 a H E=>?_
      obtain ⟨_,hcs⟩:=H.rd (.head _)
      obtain ⟨N,rfl,-⟩:=dK hcs
      clear hcs
      refine have H:=H.derive1 m0 (rSl aQ N (({ b with Count:=IntKind.i64.wrap (b.Count+1) }:aE).Events)) (λ ok h=>hP h);?_
      replace E:Env 65 a ((52,N)::_):=E
      refine nt<|⟨sx H [2] z,nY z z ?_ ?_⟩
      ·refine xc2 E z (cf_ 76) (eL H m0 A) λ b4 w H a E=>nt<|⟨sx H [3] z,cH z<|xK (e:=131) (d:=aQ) (cs:=[.int .i64 (IntKind.i64.wrap (b.Count+1)),.int .i64 f,.string g,.int .i64 c.Num]) (xs:=[(⟨IntKind.i64.wrap (b.Count+1),f,g,c.Num⟩:bP)]) E H (wn z) z z z (E.evs z) (by kernel_rfl) z (λ ok hr=>(Rows.single (d:=aQ) (cs:=[.int .i64 (IntKind.i64.wrap (b.Count+1)),.int .i64 f,.string g,.int .i64 c.Num]) (x:=(⟨IntKind.i64.wrap (b.Count+1),f,g,c.Num⟩:bP)) I4)) λ b5 w a H E=>nt<|⟨sx H [3] z,cH z<|eZ (i:=0) E H (wn z) z z z z z z (nW m0) U44 Np z B z λ b6 w a H E=>nt<|⟨sx H [3] z,cV z<|pn 1 E z λ a E=>cV z<|pn 1 E z λ a E=>cV z<|?_⟩⟩⟩
       obtain ⟨q70,R,rfl⟩:=H.rowform (i:=0) z
       refine have H:=H.thaw (i:=0) z;I3 (i:=0) (k:=2) (us:=[(.slice q70 ((({ b with Count:=IntKind.i64.wrap (b.Count+1) }:aE).Events) ++ ([(⟨IntKind.i64.wrap (b.Count+1),f,g,c.Num⟩:bP)]:List bP)).length R)]) (y':=({ ({ b with Count:=IntKind.i64.wrap (b.Count+1) }:aE) with Events:=(({ b with Count:=IntKind.i64.wrap (b.Count+1) }:aE).Events) ++ ([(⟨IntKind.i64.wrap (b.Count+1),f,g,c.Num⟩:bP)]:List bP) }:aE)) E H l (wn z) z z z z z z (y0 j) z Ty z (λ ok cs hr h=>by obtain ⟨n,rfl,g1⟩:=dK h;exact mA (x:=({ ({ b with Count:=IntKind.i64.wrap (b.Count+1) }:aE) with Events:=(({ b with Count:=IntKind.i64.wrap (b.Count+1) }:aE).Events) ++ ([(⟨IntKind.i64.wrap (b.Count+1),f,g,c.Num⟩:bP)]:List bP) }:aE)) (hr _ m0)) λ w H=>nt<|eO<|?_
       clear hI
       exact aA<|have H:=H.drop 2;have H:=H.frs [0,1] z;⟨_,_,E.to z,H,(Y6 s),m⟩
      ·refine xK (e:=131) (d:=aQ) (cs:=[.int .i64 (IntKind.i64.wrap (b.Count+1)),.int .i64 f,.string g,.int .i64 c.Num]) (xs:=[(⟨IntKind.i64.wrap (b.Count+1),f,g,c.Num⟩:bP)]) E H (wn z) z z z (E.evs z) (by kernel_rfl) z (λ ok hr=>(Rows.single (d:=aQ) (cs:=[.int .i64 (IntKind.i64.wrap (b.Count+1)),.int .i64 f,.string g,.int .i64 c.Num]) (x:=(⟨IntKind.i64.wrap (b.Count+1),f,g,c.Num⟩:bP)) I4)) λ b7 w a H E=>nt<|⟨sx H [2] z,cH z<|xc2 E z (cf_ 76) (eL H mm1 A) λ b8 w H a E=>nt<|⟨sx H [3] z,cH z<|eZ (i:=0) E H (wn z) z z z z z z (nW m0) U44 Np z B z λ b9 w a H E=>nt<|⟨sx H [3] z,cV z<|pn 1 E z λ a E=>cV z<|pn 1 E z λ a E=>cV z<|?_⟩⟩⟩
       obtain ⟨q79,S,rfl⟩:=H.rowform (i:=0) z
       refine have H:=H.thaw (i:=0) z;I3 (i:=0) (k:=2) (us:=[(.slice q79 ((({ b with Count:=IntKind.i64.wrap (b.Count+1) }:aE).Events) ++ ([(⟨IntKind.i64.wrap (b.Count+1),f,g,c.Num⟩:bP)]:List bP)).length S)]) (y':=({ ({ b with Count:=IntKind.i64.wrap (b.Count+1) }:aE) with Events:=(({ b with Count:=IntKind.i64.wrap (b.Count+1) }:aE).Events) ++ ([(⟨IntKind.i64.wrap (b.Count+1),f,g,c.Num⟩:bP)]:List bP) }:aE)) E H l (wn z) z z z z z z (y0 j) z Ty z (λ ok cs hr h=>by obtain ⟨n,rfl,g1⟩:=dK h;exact mA (x:=({ ({ b with Count:=IntKind.i64.wrap (b.Count+1) }:aE) with Events:=(({ b with Count:=IntKind.i64.wrap (b.Count+1) }:aE).Events) ++ ([(⟨IntKind.i64.wrap (b.Count+1),f,g,c.Num⟩:bP)]:List bP) }:aE)) (hr _ m0)) λ w H=>nt<|eO<|?_
       clear hI
       exact aA<|have H:=H.drop 2;have H:=H.frs [0,1] z;⟨_,_,E.to z,H,(Y6 s),m⟩
     ·refine xK (e:=131) (d:=aQ) (cs:=[.int .i64 (IntKind.i64.wrap (b.Count+1)),.int .i64 f,.string g,.int .i64 c.Num]) (xs:=[(⟨IntKind.i64.wrap (b.Count+1),f,g,c.Num⟩:bP)]) E H (wn z) z z z (E.evs z) (by kernel_rfl) z (λ ok hr=>(Rows.single (d:=aQ) (cs:=[.int .i64 (IntKind.i64.wrap (b.Count+1)),.int .i64 f,.string g,.int .i64 c.Num]) (x:=(⟨IntKind.i64.wrap (b.Count+1),f,g,c.Num⟩:bP)) I4)) λ c0 w a H E=>nt<|⟨sx H [2] z,cH z<|F3 (i:=0) (k:=2) E H l (wn z) z z z z z (y0 j) z U44 z λ c1 a H E=>?_⟩
      obtain ⟨_,hcs⟩:=H.rd (.head _)
      obtain ⟨O,rfl,-⟩:=dK hcs
      clear hcs
      refine have H:=H.derive1 m0 (rSl aQ O (({ b with Count:=IntKind.i64.wrap (b.Count+1) }:aE).Events)) (λ ok h=>hP h);?_
      replace E:Env 65 a ((52,O)::_):=E
      refine nt<|⟨sx H [2] z,cH z<|xc2 E z (cf_ 76) (eL H m0 A) λ c2 w H a E=>nt<|⟨sx H [3] z,cH z<|eZ (i:=0) E H (wn z) z z z z z z (nW mm2) U44 Np z B z λ c3 w a H E=>nt<|⟨sx H [3] z,cV z<|pn 1 E z λ a E=>cV z<|pn 1 E z λ a E=>cV z<|?_⟩⟩⟩
      obtain ⟨q90,T,rfl⟩:=H.rowform (i:=0) z
      refine have H:=H.thaw (i:=0) z;I3 (i:=0) (k:=2) (us:=[(.slice q90 ((({ b with Count:=IntKind.i64.wrap (b.Count+1) }:aE).Events) ++ ([(⟨IntKind.i64.wrap (b.Count+1),f,g,c.Num⟩:bP)]:List bP)).length T)]) (y':=({ ({ b with Count:=IntKind.i64.wrap (b.Count+1) }:aE) with Events:=(({ b with Count:=IntKind.i64.wrap (b.Count+1) }:aE).Events) ++ ([(⟨IntKind.i64.wrap (b.Count+1),f,g,c.Num⟩:bP)]:List bP) }:aE)) E H l (wn z) z z z z z z (y0 j) z Ty z (λ ok cs hr h=>by obtain ⟨n,rfl,g1⟩:=dK h;exact mA (x:=({ ({ b with Count:=IntKind.i64.wrap (b.Count+1) }:aE) with Events:=(({ b with Count:=IntKind.i64.wrap (b.Count+1) }:aE).Events) ++ ([(⟨IntKind.i64.wrap (b.Count+1),f,g,c.Num⟩:bP)]:List bP) }:aE)) (hr _ m0)) λ w H=>nt<|eO<|?_
      clear hI
      exact aA<|have H:=H.drop 2;have H:=H.frs [0,1] z;⟨_,_,E.to z,H,(Y6 s),m⟩
    ·exact wK<|aA<|have H:=H.drop 2;have H:=H.frs [0,1] z;⟨_,_,E.to z,H,s,m⟩
  ·clear E H m
   rintro a w ⟨J,Z,E,H,L,m⟩
   unfold vR at m
   refine sp 1 E z λ a E=>lb2 E H 0 U4 z λ a E=>pr 1 E z λ a E=>cs m (λ C m=>?_) λ C m=>?_
   ·refine pk 4 E (kc 61 z C) z λ a E=>nt<|wR<|o1 E z<|have H:=H.drop 0;?_
    cases m
    exact ⟨z,H.reads L⟩
   ·refine pk 4 E (kc 61 z C) z λ a E=>nt<|wR<|o1 E z<|have H:=H.drop 0;?_
    cases m
    exact ⟨z,H.reads L⟩

def wQ(b:Int×Bool)(x1:aP)(e:Int)(g:ByteArray)(c:eA):Option Er:=
  (idx c b.1).bind λ f=>(G3 c b.1 f x1 e g).bind λ d=>some (!d.1,d.2)
def pT(x1:aP)(d:Int)(e:ByteArray)(c:List aE)(f:Bool):Option Er:=
  if f=true then (some (false,c)) else ((eJ c x1.Session).bind λ b=>if (!b.2)=true then ((ck (0 <= b.1/\b.1 <= c.length/\c.length <= 1000000)).bind λ g=>wQ b x1 d e (c.take b.1.toNat ++ (⟨x1.Session,0,[]⟩:aE)::c.drop b.1.toNat)) else (wQ b x1 d e c))
def uB(x1:aP)(b:ByteArray)(d:List aE)(c:Int):Option Er:=
  if (!(sEq x1.Path b))=true then (if (!x1.Deep)=true then (pT x1 c b d true) else ((G1 b x1.Path).bind λ e=>pT x1 c b d (!e))) else (pT x1 c b d false)
theorem Dr{x1:aP}{g j k:Nat}{l:ByteArray}{A p:Value}{B:List aE}{f:Int}(H:Sep w (Blk g 9 [.string l]::Blk j 73 [p,A]::Row 126 aI A B::Blk k 3 [.int .i64 f]::Fo) rs){r:Bool×eA}(m:uB x1 l B f=some r) :
    Cf 334 [.agg (dY x1).toArray,pt g 0,pt j 0,pt k 0] w λ v w'=>∃ K,.bool r.1=v/\Sep w' (Blk g 9 [.string l]::Blk j 73 [p,K]::Blk k 3 [.int .i64 f]::Row 126 aI K r.2::Fo) (rs):=by
 unfold uB at m
 refine ent Tryz.func334 z Tryz.ntmps334 z z λ a E=>sq<|bx E H z λ q w a H E=>pn 1 E z λ a E=>wS<|aN (λ a w=>∃ s,Jn 52 a w [(1,pt g 0),(2,pt j 0),(3,pt k 0),(4,pt q 0),(23,.bool s)] (Blk g 9 [.string l]::Blk j 73 [p,A]::Blk k 3 [.int .i64 f]::Blk q 35 (dY x1)::Row 126 aI A B::Fo) rs (pT x1 f l B s=some r)) ?_ ?_
 ·refine wG<|pr 1 E z λ a E=>lb2 E H 0 U9 z λ a E=>lb2 E H 1 U9 z λ a E=>pr 2 E z λ a E=>cs m (λ b m=>?_) λ b m=>?_
  ·refine pk 1 E (kc 12 z b) z λ a E=>gl 12 E H 0 b U4 z λ a E=>pk 2 E (kc 12 z b) z λ a E=>cs m (λ c m=>?_) λ c m=>?_
   ·exact pk 7 E (kc' (kc 16 z c) 12 z b) z λ a E=>nt<|have H:=H.frs [3,1,4,4,4] z;⟨_,_,E.to z,H,Y0,m⟩
   ·refine gl 16 E H 1 c U9 z λ a E=>pk 1 E (kc 16 z c) z λ a E=>gl 16 E H 0 c U9 z λ a E=>bd m λ N D m=>gc 16 E c z (cf_ 65) (Hu H D)<|?_
    rintro _ w ⟨rfl,H⟩ a E
    exact pk 3 E (kc' (kc 16 z c) 12 z b) z λ a E=>nt<|have H:=H.frs [3,1,4,4,4] z;⟨_,_,E.to z,H,Y0,m⟩
  ·exact pk 11 E (kc 12 z b) z λ a E=>nt<|have H:=H.frs [3,1,4,4,4] z;⟨_,_,E.to z,H,Y0,m⟩
 ·clear E H m
  rintro a w ⟨s,L,E,H,n,m⟩
  unfold pT at m
  refine wif E m z (λ m=>?_) λ m=>?_
  ·refine sq<|pn 1 E z λ a E=>wR<|aH<|o1 E z<|have H:=H.drop 3;?_
   cases m
   exact ⟨_,z,H.reads n⟩
  ·refine wK<|aA<|sp 1 E z λ a E=>lb2 E H 1 U71 z λ a E=>pr 1 E z λ a E=>lb2 E H 3 U2 z λ a E=>have H:=H.frs [3,3,3,3,4] z;bd m λ C F m=>xk2 E z (cf_ 195) (tN H F) λ w H a E=>pn 5 E z λ a E=>aN (λ a w=>∃ t u,Jn 52 a w [(1,pt g 0),(2,pt j 0),(3,pt k 0),(4,pt q 0),(6,.int .i64 C.1)] (Blk g 9 [.string l]::Blk j 73 [p,t]::Blk k 3 [.int .i64 f]::Blk q 35 (dY x1)::Row 126 aI t u::Fo) rs (wQ C x1 f l u=some r)) ?_ ?_
   ·refine sq<|pn 2 E z λ a E=>wif E m z (λ m=>?_) λ m=>?_
    ·refine wG<|pr 1 E z λ a E=>lb2 E H 2 U71 z λ a E=>pr 2 E z λ a E=>lb2 E H 4 U2 z λ a E=>sv2 E z (cJ E z (E.evs z) (v:=.agg #[.int .i64 x1.Session,.int .i64 0,nS]) (by kernel_rfl)) λ a E=>jO (e:=126) (d:=aI) (cs:=[.int .i64 x1.Session,.int .i64 0,nS]) (xs:=[(⟨x1.Session,0,[]⟩:aE)]) E H (wn z) z z z (E.evs z) (by kernel_rfl) z z (λ ok hr=>(Rows.single (d:=aI) (cs:=[.int .i64 x1.Session,.int .i64 0,nS]) (x:=(⟨x1.Session,0,[]⟩:aE)) (mA (Sl.nil _ _ _)))) λ O w a H E=>bk m λ G m=>xc2 E z (cf_ 197) (Se.insert_a (ix:=1) (iu:=0) H z z (by decide) G) λ P w H a E=>pr 1 E z λ a E=>?_
     obtain ⟨q33,Q,rfl⟩:=H.rowform (i:=1) z
     exact ss 3 E H z Tx z λ w H=>nt<|have H:=H.drop 0;have H:=H.frs [0,4,4,4,4] z;X3 ⟨E.to z,H,n,m⟩
    ·exact wK<|aA<|have H:=H.frs [0,4,4,4,4] z;X3 ⟨E.to z,H,n,m⟩
   ·clear E H m
    rintro a w ⟨t,u,M,E,H,I,m⟩
    unfold wQ at m
    refine wS<|dz [0,0,0,0,0,0,0,1,0,2] [0,1,2,3] H λ w W0 hI H=>fn 1 E z λ a E=>fb2 E mm1 U71 z λ a E=>fn 1 E z λ a E=>bd m λ R o m=>?_
    obtain ⟨S,T,y⟩:=H.rowformNE (i:=4) z o
    refine fv E z (λ w hW=>dE (d:=aI) E y z z z z U71 rU o) λ a E=>fbn E (dY x1) z (wn z) z z z z mm3 z U35 z tW λ a E=>fb2 E mm2 U3 z λ a E=>fb2 E m0 U9 z λ a E=>bQ z<|have H:=H.frs [3,3,3,3,4] z;bd m λ U J m=>xk2 E z (cf_ 335) (Uf o y H J) λ w H a E=>nt<|⟨sx H [1,2,3,4] z,fn 1 E z λ a E=>bH z<|pn 1 E z λ a E=>bG<|?_⟩
    clear hI
    refine aA<|wR<|o1 E z<|have H:=H.drop 4;have H:=H.frs [0,3,3,3] z;?_
    cases m
    exact ⟨_,z,H.reads I⟩

def dJ(f:List aP)(g:ByteArray)(d:Int):Nat->Int->eA->Option (Int×eA)
  | 0,_,_=>none
  | j+1,b,e=>
    if (decide (b < (f.length:Int)))=true then ((idx f b).bind λ i=>(uB i g e d).bind λ c=>if c.1=true then (some (b,c.2)) else (dJ f g d j (IntKind.i64.wrap (b+1)) c.2)) else (some ((-1),e))
def hF(b:List aP)(d:ByteArray)(e:List aE)(c:Int):Option (Int×eA):=
  dJ b d c (((b.length:Int) - 0:Int).toNat+1) 0 e
theorem y8{l A n:Value}{e:List aP}{o p b:Nat}{q:ByteArray}{B:List aE}{c:Int}(H:Sep w (Row 35 aS l e::Blk o 9 [.string q]::Blk p 73 [n,A]::Row 126 aI A B::Blk b 3 [.int .i64 c]::Fo) rs){r:Int×eA}(m:hF e q B c=some r) :
    Cf 268 [l,.func (.func 334) #[] #[pt o 0,pt p 0,pt b 0]] w λ v w'=>∃ C,.int .i64 r.1=v/\Sep w' (Blk o 9 [.string q]::Blk p 73 [n,C]::Blk b 3 [.int .i64 c]::Row 35 aS l e::Row 126 aI C r.2::Fo) (rs):=by
 unfold hF at m
 refine ent Tryz.func268 z Tryz.ntmps268 z z λ a E=>sq<|pn 1 E z λ a E=>wS<|sp 1 E z λ a E=>sv2 E z (mZ (i:=0) E H z z z U70) λ a E=>pr 1 E z λ a E=>nt<|wB<|bL (λ k a w=>∃ s t u,Jn 19 a w [(0,l),(1,.func (.func 334) #[] #[pt o 0,pt p 0,pt b 0]),(7,.int .i64 (e.length:Int)),(8,.int .i64 t)] (Row 35 aS l e::Blk o 9 [.string q]::Blk p 73 [n,s]::Blk b 3 [.int .i64 c]::Row 126 aI s u::Fo) rs (dJ e q c k t u=some r)) (((e.length:Int) - 0:Int).toNat+1) ?_ ?_
 ·exact have H:=H.frs [3,4,4,4,4] z;X4 ⟨E.to z,H,Y0,m⟩
 ·clear E H m
  rintro k a w ⟨s,t,u,D,E,H,f,m⟩
  cases k with
  | zero=>exact (bF m z).elim
  | succ k=>
   unfold dJ at m
   refine sq<|pn 1 E z λ a E=>wS<|wif E m z (λ m=>?_) λ m=>?_
   ·refine wK<|aA<|wS<|wB<|sp 2 E z λ a E=>xp 3 E z λ a E=>bd m λ j g m=>?_
    obtain ⟨F,G,x⟩:=H.rowformNE (i:=0) z g
    refine sv2 E z (dE (d:=aS) E x z z z z U70 tW g) λ a E=>sv2 E z (jP (i:=0) E H mB x z z z g (us:=[.int .i64 j.Session,.int .i64 j.Num,.string j.Path,.bool j.Deep]) z U35 z tW) λ a E=>have H:=H.frs [0,3,4,4,4] z;bd m λ I y m=>bK E (wn z) z z (bO E z z z ((cf_ 334) _)) (Dr H y)<|?_
    rintro _ w ⟨J,rfl,H⟩ a E
    refine nt<|wif E m z (λ m=>?_) λ m=>?_
    ·refine sq<|pn 2 E z λ a E=>wR<|bM<|aH<|aH<|bM<|aH<|o1 E z<|have H:=H.frs [3,4,4,4,4] z;?_
     cases m
     exact ⟨_,z,H.reads f⟩
    ·exact wK<|bR<|aA<|wG<|pn 2 E z λ a E=>have H:=H.frs [3,3,3,3,4] z;⟨k,nL k,X4 ⟨E.to z,H,f,m⟩⟩
   ·refine wX<|aW<|aW<|cT<|aA<|sq<|pn 1 E z λ a E=>wR<|o1 E z<|have H:=H.frs [4,1,4,4,4] z;?_
    cases m
    exact ⟨_,z,H.reads f⟩

def fE(rec_1:fT->Int->Int->eA->Option Q2)(b:Int)(c:fT)(d:Int)(e:eA):Option Q2:=
  rec_1 c d (IntKind.i64.wrap (b+1)) e
def cO(j:ByteArray)(e:Int):Nat->fT->Int->Int->eA->Option Q2
  | 0,_,_,_,_=>none
  | k+1,c,b,d,g=>
    if (decide (d < (c.length:Int)))=true then ((idx c d).bind λ i=>(uB i j g e).bind λ f=>if (!f.1)=true then ((idx c b).bind λ l=>fE (cO j e k) d (c.set b.toNat i) (IntKind.i64.wrap (b+1)) f.2) else (fE (cO j e k) d c b f.2)) else ((ck (0 <= b/\b <= c.length)).bind λ m=>(ck (0 <= b/\b <= (c.take b.toNat ++ List.replicate (c.length - b.toNat) (⟨0,0,⟨#[]⟩,false⟩:aP)).length)).bind λ n=>some ((c.take b.toNat ++ List.replicate (c.length - b.toNat) (⟨0,0,⟨#[]⟩,false⟩:aP)).take b.toNat,g))
def fZ(c:List aP)(e:ByteArray)(f:List aE)(d:Int):Option Q2:=
  (hF c e f d).bind λ b=>if (b.1 == (-1))=true then (some (c,b.2)) else (cO e d (((c.length:Int) - (IntKind.i64.wrap (b.1+1)):Int).toNat+1) c b.1 (IntKind.i64.wrap (b.1+1)) b.2)
theorem B6{s O q:Value}{J:List aP}{g j c:Nat}{k:ByteArray}{P:List aE}{e:Int}(H:Sep w (Row 35 aS s J::Blk g 9 [.string k]::Blk j 73 [q,O]::Row 126 aI O P::Blk c 3 [.int .i64 e]::Fo) rs){r:fT×eA}(m:fZ J k P e=some r) :
    Cf 333 [s,.func (.func 334) #[] #[pt g 0,pt j 0,pt c 0]] w λ v w'=>∃ Q R,Q=v/\Sep w' (Row 35 aS Q r.1::Blk g 9 [.string k]::Blk j 73 [q,R]::Blk c 3 [.int .i64 e]::Row 126 aI R r.2::Fo) (rs):=by
 unfold fZ at m
 refine ent Tryz.func333 z Tryz.ntmps333 z z λ a E=>sp 1 E z λ a E=>xp 2 E z λ a E=>bd m λ S K m=>xc2 E z (cf_ 268) (y8 H K)<|?_
 rintro _ w ⟨V,rfl,H⟩ a E
 refine pn 1 E z λ a E=>wS<|sq<|pn 2 E z λ a E=>wif E m z (λ m=>?_) λ m=>?_
 ·refine sq<|pn 2 E z λ a E=>wR<|aH<|o1 E z<|have H:=H.frs [4,3,3,3,4] z;?_
  cases m
  exact ⟨_,_,z,H.reads Y0⟩
 ·refine wK<|aA<|wS<|sq<|pn 3 E z λ a E=>wB<|bL (λ l a w=>∃ t u x f y,Jn 42 a w [(0,s),(1,.func (.func 334) #[] #[pt g 0,pt j 0,pt c 0]),(5,.int .i64 x),(6,.int .i64 f)] (Row 35 aS s u::Blk g 9 [.string k]::Blk j 73 [q,t]::Blk c 3 [.int .i64 e]::Row 126 aI t y::Fo) rs (cO k e l u x f y=some r)) (((J.length:Int) - (IntKind.i64.wrap (S.1+1)):Int).toNat+1) ?_ ?_
  ·exact have H:=H.frs [4,3,3,3,4] z;X6 ⟨E.to z,H,Y0,m⟩
  ·clear E H m
   rintro l a w ⟨t,u,x,f,y,T,E,H,n,m⟩
   cases l with
   | zero=>exact (bF m z).elim
   | succ l=>
    unfold cO at m
    refine wS<|sp 2 E z λ a E=>sv2 E z (mZ (i:=0) E H z z z U70) λ a E=>pn 1 E z λ a E=>wif E m z (λ m=>?_) λ m=>?_
    ·refine wK<|aA<|aN (λ a w=>∃ A B C D,Jn 42 a w [(0,s),(1,.func (.func 334) #[] #[pt g 0,pt j 0,pt c 0]),(5,.int .i64 C),(6,.int .i64 f)] (Row 35 aS s B::Blk g 9 [.string k]::Blk j 73 [q,A]::Blk c 3 [.int .i64 e]::Row 126 aI A D::Fo) rs (fE (cO k e l) f B C D=some r)) ?_ ?_
     ·refine wB<|sp 2 E z λ a E=>bd m λ b o m=>?_
      obtain ⟨W,X,F⟩:=H.rowformNE (i:=0) z o
      refine sv2 E z (dE (d:=aS) E F z z z z U70 tW o) λ a E=>sv2 E z (jP (i:=0) E H mB F z z z o (us:=[.int .i64 b.Session,.int .i64 b.Num,.string b.Path,.bool b.Deep]) z U35 z tW) λ a E=>al2 E H z LJ λ Y w a H E=>ss 0 E H z tW z λ w H=>xp 1 E z λ a E=>ln 0 (dY b) E H U35 z tW λ a E=>have H:=H.frs [1,1,4,5,5,5] z;bd m λ Z L m=>bK E (wn z) z z (bO E z z z ((cf_ 334) _)) (Dr H L)<|?_
      rintro _ w ⟨b0,rfl,H⟩ a E
      refine pn 1 E z λ a E=>wif E m z (λ m=>?_) λ m=>?_
      ·refine sp 2 E z λ a E=>ln 4 (dY b) E H U35 z tW λ a E=>bd m λ b1 p m=>?_
       obtain ⟨b2,b3,G⟩:=H.rowformNE (i:=5) z p
       exact sv2 E z (dE (d:=aS) E G z z z z U70 tW p) λ a E=>P4 (d:=aS) (i:=5) (us:=[.int .i64 b.Session,.int .i64 b.Num,.string b.Path,.bool b.Deep]) (z':=b) E H mB (wn z) z G z z z z z z z p tW λ w H=>nt<|wG<|pr 3 E z λ a E=>wN<|bR<|aA<|have H:=H.drop 4;have H:=H.frs [3,3,3,3,4] z;X5 ⟨E.to z,H,n,m⟩
      ·exact wK<|bR<|aA<|have H:=H.drop 4;have H:=H.frs [3,3,3,3,4] z;X5 ⟨E.to z,H,n,m⟩
     ·clear E H m
      rintro a w ⟨A,B,C,D,U,E,H,M,m⟩
      unfold fE at m
      exact wG<|pn 3 E z λ a E=>⟨l,nL l,X6 ⟨E.to z,H,M,m⟩⟩
    ·refine wX<|aW<|aW<|cT<|aA<|sp 2 E z λ a E=>bk m λ I m=>sv2 E z (Ei (d:=aS) (i:=0) E H z z z z U70 tW I) λ a E=>U6 (i:=0) (z0:=(⟨0,0,⟨#[]⟩,false⟩:aP)) E H mB (wn z) z z z U70 PK z z z I λ w H=>xp 2 E z λ a E=>bk m λ N m=>Bj (i:=0) E H mB (wn z) z z z z z z U70 tW N λ b4 a H E=>pn 1 E z λ a E=>wR<|o1 E z<|?_
     cases m
     exact ⟨_,_,z,H.reads n⟩

def rK(x1:Int):Option Bool:=
  if (decide (x1 ≥ 1))=true then (some (decide (x1 <= 281474976710656))) else (some (false))
theorem J6{x1:Int}(H:Sep w (Fo) rs){r:Bool}(m:rK x1=some r) :
    Cf 267 [.int .i64 x1] w λ v w'=>.bool r=v/\Sep w' (Fo) (rs):=by
 unfold rK at m
 refine ent Tryz.func267 z Tryz.ntmps267 z z λ a E=>sp 1 E z λ a E=>xp 3 E z λ a E=>cs m (λ b m=>?_) λ b m=>?_
 ·refine pk 4 E (kc 5 z b) z λ a E=>nt<|wR<|o1 E z<|?_
  cases m
  exact ⟨z,H.reads Y0⟩
 ·refine pk 4 E (kc 5 z b) z λ a E=>nt<|wR<|o1 E z<|?_
  cases m
  exact ⟨z,H.reads Y0⟩

def jV(rec_1:Int->Option Bool)(c:Int)(b:Bool):Option Bool:=
  if b=true then (some (false)) else (rec_1 (IntKind.i64.wrap (c+1)))
def fF(x1:aE):Nat->Int->Option Bool
  | 0,_=>none
  | d+1,c=>
    if (decide (c < (x1.Events.length:Int)))=true then ((idx x1.Events c).bind λ b=>if (b.Num != (IntKind.i64.wrap ((IntKind.i64.wrap ((IntKind.i64.wrap (x1.Count - (x1.Events.length:Int)))+1))+c)))=true then (jV (fF x1 d) c true) else (if (decide (b.Num < 1))=true then (jV (fF x1 d) c true) else (if (decide (b.Kind < 1))=true then (jV (fF x1 d) c true) else (if (decide (b.Kind > 4))=true then (jV (fF x1 d) c true) else ((fU b.Path).bind λ e=>if (!e)=true then (jV (fF x1 d) c true) else ((rK b.Watch).bind λ f=>jV (fF x1 d) c (!f))))))) else (some (true))
def oI(x1:aE)(b:Bool):Option Bool:=
  if b=true then (some (false)) else (fF x1 (((x1.Events.length:Int) - 0:Int).toNat+1) 0)
def yS(x1:aE):Option Bool:=
  (rK x1.Num).bind λ b=>if (!b)=true then (oI x1 true) else (if (decide (x1.Count < 0))=true then (oI x1 true) else (if (decide (x1.Count > 281474976710656))=true then (oI x1 true) else (oI x1 (decide ((x1.Events.length:Int) > 8)))))
theorem Oi{x1:aE}{p:Value}(H:Sep w (Fo) rs)(n:rSl aQ p x1.Events ∈ rs){r:Bool}(m:yS x1=some r) :
    Cf 266 [.agg (qW x1 p).toArray] w λ v w'=>.bool r=v/\Sep w' (Fo) (rs):=by
 unfold yS at m
 refine ent Tryz.func266 z Tryz.ntmps266 z z λ a E=>sq<|bx E H z λ C w a H E=>pn 1 E z λ a E=>wS<|aN (λ a w=>∃ u,Jn 75 a w [(1,pt C 0),(25,.bool u)] (Blk C 126 (qW x1 p)::Fo) rs (oI x1 u=some r)) ?_ ?_
 ·refine wG<|pr 1 E z λ a E=>lb2 E H 0 U2 z λ a E=>bd m λ F x m=>xk2 E z (cf_ 267) (J6 H x) λ w H a E=>pr 2 E z λ a E=>cs m (λ f m=>?_) λ f m=>?_
  ·exact pk 15 E (kc 10 z f) z λ a E=>nt<|⟨_,_,E.to z,H,Y0,m⟩
  ·refine pk 1 E (kc 10 z f) z λ a E=>gl 10 E H 0 f U2 z λ a E=>pk 3 E (kc 10 z f) z λ a E=>cs m (λ g m=>?_) λ g m=>?_
   ·exact pk 10 E (kc 15 z g) z λ a E=>nt<|⟨_,_,E.to z,H,Y0,m⟩
   ·refine pk 1 E (kc 15 z g) z λ a E=>gl 15 E H 0 g U2 z λ a E=>pk 3 E (kc 15 z g) z λ a E=>cs m (λ c m=>?_) λ c m=>?_
    ·exact pk 5 E (kc 20 z c) z λ a E=>nt<|⟨_,_,E.to z,H,Y0,m⟩
    ·exact pk 1 E (kc 20 z c) z λ a E=>gl 20 E H 0 c U44 z λ a E=>gv 20 E c z (tG E H z z n U44) λ a E=>pk 2 E (kc 20 z c) z λ a E=>nt<|⟨_,_,E.to z,H,Y0,m⟩
 ·clear E H m
  rintro a w ⟨u,G,E,H,o,m⟩
  unfold oI at m
  refine wif E m z (λ m=>?_) λ m=>?_
  ·refine sq<|pn 1 E z λ a E=>wR<|aH<|o1 E z<|have H:=H.drop 0;?_
   cases m
   exact ⟨z,H.reads o⟩
  ·refine wK<|aA<|sp 1 E z λ a E=>lb2 E H 0 U2 z λ a E=>pr 1 E z λ a E=>lb2 E H 0 U44 z λ a E=>lS E H (o _ n) U44 z λ a E=>pr 3 E z λ a E=>nt<|wS<|sp 1 E z λ a E=>lb2 E H 0 U44 z λ a E=>lS E H (o _ n) U44 z λ a E=>pn 1 E z λ a E=>wB<|bL (λ l a w=>∃ q,Jn 75 a w [(3,.int .i64 (IntKind.i64.wrap ((IntKind.i64.wrap (x1.Count - (x1.Events.length:Int)))+1))),(34,p),(35,.int .i64 (x1.Events.length:Int)),(36,.int .i64 q)] (Fo) rs (fF x1 l q=some r)) (((x1.Events.length:Int) - 0:Int).toNat+1) ?_ ?_
   ·exact have H:=H.drop 0;⟨_,_,E.to z,H,o,m⟩
   ·clear E H m
    rintro l a w ⟨q,I,E,H,b,m⟩
    cases l with
    | zero=>exact (bF m z).elim
    | succ l=>
     unfold fF at m
     refine sq<|pn 1 E z λ a E=>wS<|wif E m z (λ m=>?_) λ m=>?_
     ·refine wK<|aA<|wS<|wB<|sp 1 E z λ a E=>bd m λ J y m=>dP E H (wn z) z z z z z (b _ n) U44 vN y λ q13 a H E=>ldf tV E H z z z z z m0 Ek z vN λ a E=>al2 E H z Yk λ K w a H E=>pr 1 E z λ a E=>ss 0 E H z vN z λ w H=>nt<|aN (λ a w=>∃ s,Jn 75 a w [(3,.int .i64 (IntKind.i64.wrap ((IntKind.i64.wrap (x1.Count - (x1.Events.length:Int)))+1))),(34,p),(35,.int .i64 (x1.Events.length:Int)),(36,.int .i64 q),(73,.bool s)] (Fo) rs (jV (fF x1 l) q s=some r)) ?_ ?_
      ·refine wG<|pr 1 E z λ a E=>lb2 E H 0 U2 z λ a E=>pr 5 E z λ a E=>cs m (λ i m=>?_) λ i m=>?_
       ·exact pk 26 E (kc 47 z i) z λ a E=>nt<|have H:=H.drop 0;⟨_,_,E.to z,H,(Y1 b),m⟩
       ·refine pk 1 E (kc 47 z i) z λ a E=>gl 47 E H 0 i U2 z λ a E=>pk 3 E (kc 47 z i) z λ a E=>cs m (λ j m=>?_) λ j m=>?_
        ·exact pk 21 E (kc 52 z j) z λ a E=>nt<|have H:=H.drop 0;⟨_,_,E.to z,H,(Y1 b),m⟩
        ·refine pk 1 E (kc 52 z j) z λ a E=>gl 52 E H 0 j U3 z λ a E=>pk 3 E (kc 52 z j) z λ a E=>cs m (λ k m=>?_) λ k m=>?_
         ·exact pk 16 E (kc 57 z k) z λ a E=>nt<|have H:=H.drop 0;⟨_,_,E.to z,H,(Y1 b),m⟩
         ·refine pk 1 E (kc 57 z k) z λ a E=>gl 57 E H 0 k U3 z λ a E=>pk 3 E (kc 57 z k) z λ a E=>cs m (λ d m=>?_) λ d m=>?_
          ·exact pk 11 E (kc 62 z d) z λ a E=>nt<|have H:=H.drop 0;⟨_,_,E.to z,H,(Y1 b),m⟩
          ·refine pk 1 E (kc 62 z d) z λ a E=>gl 62 E H 0 d U9 z λ a E=>bd m λ L A m=>gc 62 E d z (cf_ 83) (jQ H A)<|?_
           rintro _ w ⟨rfl,H⟩ a E
           refine pk 3 E (kc 62 z d) z λ a E=>cs m (λ e m=>?_) λ e m=>?_
           ·exact pk 5 E (kc 68 z e) z λ a E=>nt<|have H:=H.drop 0;⟨_,_,E.to z,H,(Y1 b),m⟩
           ·refine pk 1 E (kc 68 z e) z λ a E=>gl 68 E H 0 e U2 z λ a E=>bd m λ M B m=>gc 68 E e z (cf_ 267) (J6 H B)<|?_
            rintro _ w ⟨rfl,H⟩ a E
            exact pk 2 E (kc 68 z e) z λ a E=>nt<|have H:=H.drop 0;⟨_,_,E.to z,H,(Y1 b),m⟩
      ·clear E H m
       rintro a w ⟨s,D,E,H,t,m⟩
       unfold jV at m
       refine wif E m z (λ m=>?_) λ m=>?_
       ·refine sq<|pn 1 E z λ a E=>wR<|bM<|aH<|aH<|bM<|aH<|o1 E z<|?_
        cases m
        exact ⟨z,H.reads t⟩
       ·exact wK<|bR<|aA<|wG<|pn 2 E z λ a E=>⟨l,nL l,_,_,E.to z,H,t,m⟩
     ·refine wX<|aW<|aW<|cT<|aA<|sq<|pn 1 E z λ a E=>wR<|o1 E z<|?_
      cases m
      exact ⟨z,H.reads b⟩

def kH(x1:aE):Option Bool:=
  (yS x1).bind λ b=>some (!b)
theorem Ae{x1:aE}{b:Value}{c:Nat}(H:Sep w (Blk c 124 [.func (.func 266) #[] #[]]::Fo) rs)(d:rSl aQ b x1.Events ∈ rs){r:Bool}(m:kH x1=some r) :
    Cf 319 [.agg (qW x1 b).toArray,pt c 0] w λ v w'=>.bool r=v/\Sep w' (Blk c 124 [.func (.func 266) #[] #[]]::Fo) (rs):=by
 unfold kH at m
 refine ent Tryz.func319 z Tryz.ntmps319 z z λ a E=>sq<|bx E H z λ f w a H E=>pr 1 E z λ a E=>nx<|lb2 E H 1 QG z λ a E=>ln 0 (qW x1 b) E H Pj z rU λ a E=>bd m λ g e m=>bK E (wn z) z z (bO E z z z ((cf_ 266) _)) (Oi H d e)<|?_
 rintro _ w ⟨rfl,H⟩ a E
 refine pn 2 E z λ a E=>wR<|o1 E z<|have H:=H.drop 0;?_
 cases m
 exact ⟨z,H.reads Y0⟩

def dS(c:List aE):Nat->Int->Option Int
  | 0,_=>none
  | e+1,b=>
    if (decide (b < (c.length:Int)))=true then ((idx c b).bind λ f=>(kH f).bind λ d=>if d=true then (some (b)) else (dS c e (IntKind.i64.wrap (b+1)))) else (some ((-1)))
def gP(b:List aE):Option Int:=
  dS b (((b.length:Int) - 0:Int).toNat+1) 0
theorem r7{g:Value}{d:List aE}{e:Nat}(H:Sep w (Blk e 124 [.func (.func 266) #[] #[]]::Fo) rs)(f:rSl aI g d ∈ rs){r:Int}(m:gP d=some r) :
    Cf 350 [g,.func (.func 319) #[] #[pt e 0]] w λ v w'=>.int .i64 r=v/\Sep w' (Blk e 124 [.func (.func 266) #[] #[]]::Fo) (rs):=by
 unfold gP at m
 refine ent Tryz.func350 z Tryz.ntmps350 z z λ a E=>sq<|pn 1 E z λ a E=>wS<|sp 1 E z λ a E=>lS E H f U71 z λ a E=>pr 1 E z λ a E=>nt<|wB<|bL (λ c a w=>∃ i,Jn 19 a w [(0,g),(1,.func (.func 319) #[] #[pt e 0]),(7,.int .i64 (d.length:Int)),(8,.int .i64 i)] (Blk e 124 [.func (.func 266) #[] #[]]::Fo) rs (dS d c i=some r)) (((d.length:Int) - 0:Int).toNat+1) ?_ ?_
 ·exact ⟨_,_,E.to z,H,Y0,m⟩
 ·clear E H m
  rintro c a w ⟨i,l,E,H,b,m⟩
  cases c with
  | zero=>exact (bF m z).elim
  | succ c=>
   unfold dS at m
   refine sq<|pn 1 E z λ a E=>wS<|wif E m z (λ m=>?_) λ m=>?_
   ·refine wK<|aA<|wS<|wB<|sp 2 E z λ a E=>xp 3 E z λ a E=>bd m λ q k m=>dP E H (wn z) z z z z z (b _ f) U71 rU k λ q10 a H E=>Am E H (wn z) z z z z m0 Pj z rU λ n a H E=>?_
    obtain ⟨o,rfl,h⟩:=W9 H;clear H;have H:=h
    refine bd m λ p j m=>bK E (wn z) z z (bO E z z z ((cf_ 319) _)) (Ae H m0 j)<|?_
    rintro _ w ⟨rfl,H⟩ a E
    refine nt<|wif E m z (λ m=>?_) λ m=>?_
    ·refine sq<|pn 2 E z λ a E=>wR<|bM<|aH<|aH<|bM<|aH<|o1 E z<|?_
     cases m
     exact ⟨z,H.reads (Y3 b)⟩
    ·exact wK<|bR<|aA<|wG<|pn 2 E z λ a E=>⟨c,nL c,_,_,E.to z,H,(Y3 b),m⟩
   ·refine wX<|aW<|aW<|cT<|aA<|sq<|pn 1 E z λ a E=>wR<|o1 E z<|?_
    cases m
    exact ⟨z,H.reads b⟩

def gF(b:List aE):Option Bool:=
  (gP b).bind λ c=>some (decide (c ≥ 0))
theorem yT{c:Value}{d:List aE}{b:Nat}(H:Sep w (Blk b 124 [.func (.func 266) #[] #[]]::Fo) rs)(e:rSl aI c d ∈ rs){r:Bool}(m:gF d=some r) :
    Cf 318 [c,.func (.func 319) #[] #[pt b 0]] w λ v w'=>.bool r=v/\Sep w' (Blk b 124 [.func (.func 266) #[] #[]]::Fo) (rs):=by
 unfold gF at m
 refine ent Tryz.func318 z Tryz.ntmps318 z z λ a E=>sp 1 E z λ a E=>xp 2 E z λ a E=>bd m λ g f m=>xk2 E z (cf_ 350) (r7 H e f) λ w H a E=>pn 2 E z λ a E=>wR<|o1 E z<|?_
 cases m
 exact ⟨z,H.reads Y0⟩

def pK(b:List aE):Option Bool:=
  (gF b).bind λ c=>some (!c)
theorem Be{b:Value}{c:List aE}(H:Sep w (Fo) rs)(d:rSl aI b c ∈ rs){r:Bool}(m:pK c=some r) :
    Cf 265 [b,.func (.func 266) #[] #[]] w λ v w'=>.bool r=v/\Sep w' (Fo) (rs):=by
 unfold pK at m
 refine ent Tryz.func265 z Tryz.ntmps265 z z λ a E=>sq<|bx E H z λ f w a H E=>pr 1 E z λ a E=>xp 1 E z λ a E=>sv2 E z (mY E z z z) λ a E=>bd m λ g e m=>xk2 E z (cf_ 318) (yT H d e) λ w H a E=>pn 2 E z λ a E=>wR<|o1 E z<|have H:=H.drop 0;?_
 cases m
 exact ⟨z,H.reads Y0⟩

def yF(x1:aP):Option Bool:=
  (rK x1.Session).bind λ b=>if b=true then ((rK x1.Num).bind λ c=>if c=true then ((fU x1.Path).bind λ d=>some (d)) else (some (false))) else (some (false))
theorem Gb{x1:aP}(H:Sep w (Fo) rs){r:Bool}(m:yF x1=some r) :
    Cf 193 [.agg (dY x1).toArray] w λ v w'=>.bool r=v/\Sep w' (Fo) (rs):=by
 unfold yF at m
 refine ent Tryz.func193 z Tryz.ntmps193 z z λ a E=>sq<|bx E H z λ g w a H E=>pr 1 E z λ a E=>xp 1 E z λ a E=>lb2 E H 0 U2 z λ a E=>bd m λ i e m=>xk2 E z (cf_ 267) (J6 H e) λ w H a E=>pr 1 E z λ a E=>cs m (λ b m=>?_) λ b m=>?_
 ·refine pk 1 E (kc 6 z b) z λ a E=>gl 6 E H 0 b U2 z λ a E=>bd m λ j f m=>gc 6 E b z (cf_ 267) (J6 H f)<|?_
  rintro _ w ⟨rfl,H⟩ a E
  refine pk 2 E (kc 6 z b) z λ a E=>cs m (λ c m=>?_) λ c m=>?_
  ·refine pk 1 E (kc 11 z c) z λ a E=>gl 11 E H 0 c U9 z λ a E=>bd m λ k d m=>gc 11 E c z (cf_ 83) (jQ H d)<|?_
   rintro _ w ⟨rfl,H⟩ a E
   refine pk 2 E (kc 11 z c) z λ a E=>nt<|wR<|o1 E z<|have H:=H.drop 0;?_
   cases m
   exact ⟨z,H.reads Y0⟩
  ·refine pk 5 E (kc 11 z c) z λ a E=>nt<|wR<|o1 E z<|have H:=H.drop 0;?_
   cases m
   exact ⟨z,H.reads Y0⟩
 ·refine pk 10 E (kc 6 z b) z λ a E=>nt<|wR<|o1 E z<|have H:=H.drop 0;?_
  cases m
  exact ⟨z,H.reads Y0⟩

def lO(x1:aP):Option Bool:=
  (yF x1).bind λ b=>some (!b)
theorem Bf{x1:aP}{b:Nat}(H:Sep w (Blk b 236 [.func (.func 193) #[] #[]]::Fo) rs){r:Bool}(m:lO x1=some r) :
    Cf 317 [.agg (dY x1).toArray,pt b 0] w λ v w'=>.bool r=v/\Sep w' (Blk b 236 [.func (.func 193) #[] #[]]::Fo) (rs):=by
 unfold lO at m
 refine ent Tryz.func317 z Tryz.ntmps317 z z λ a E=>sq<|bx E H z λ d w a H E=>pr 1 E z λ a E=>nx<|lb2 E H 1 QF z λ a E=>ln 0 (dY x1) E H U35 z tW λ a E=>bd m λ e c m=>bK E (wn z) z z (bO E z z z ((cf_ 193) _)) (Gb H c)<|?_
 rintro _ w ⟨rfl,H⟩ a E
 refine pn 2 E z λ a E=>wR<|o1 E z<|have H:=H.drop 0;?_
 cases m
 exact ⟨z,H.reads Y0⟩

def eD(c:List aP):Nat->Int->Option Int
  | 0,_=>none
  | e+1,b=>
    if (decide (b < (c.length:Int)))=true then ((idx c b).bind λ f=>(lO f).bind λ d=>if d=true then (some (b)) else (eD c e (IntKind.i64.wrap (b+1)))) else (some ((-1)))
def iS(b:List aP):Option Int:=
  eD b (((b.length:Int) - 0:Int).toNat+1) 0
theorem D7{g:Value}{d:List aP}{e:Nat}(H:Sep w (Blk e 236 [.func (.func 193) #[] #[]]::Fo) rs)(f:rSl aS g d ∈ rs){r:Int}(m:iS d=some r) :
    Cf 268 [g,.func (.func 317) #[] #[pt e 0]] w λ v w'=>.int .i64 r=v/\Sep w' (Blk e 236 [.func (.func 193) #[] #[]]::Fo) (rs):=by
 unfold iS at m
 refine ent Tryz.func268 z Tryz.ntmps268 z z λ a E=>sq<|pn 1 E z λ a E=>wS<|sp 1 E z λ a E=>lS E H f U70 z λ a E=>pr 1 E z λ a E=>nt<|wB<|bL (λ c a w=>∃ i,Jn 19 a w [(0,g),(1,.func (.func 317) #[] #[pt e 0]),(7,.int .i64 (d.length:Int)),(8,.int .i64 i)] (Blk e 236 [.func (.func 193) #[] #[]]::Fo) rs (eD d c i=some r)) (((d.length:Int) - 0:Int).toNat+1) ?_ ?_
 ·exact ⟨_,_,E.to z,H,Y0,m⟩
 ·clear E H m
  rintro c a w ⟨i,l,E,H,b,m⟩
  cases c with
  | zero=>exact (bF m z).elim
  | succ c=>
   unfold eD at m
   refine sq<|pn 1 E z λ a E=>wS<|wif E m z (λ m=>?_) λ m=>?_
   ·refine wK<|aA<|wS<|wB<|sp 2 E z λ a E=>xp 3 E z λ a E=>bd m λ o k m=>dP E H (wn z) z z z z z (b _ f) U70 tW k λ q10 a H E=>ldf mB E H z z z z z m0 U35 z tW λ a E=>bd m λ n j m=>bK E (wn z) z z (bO E z z z ((cf_ 317) _)) (Bf H j)<|?_
    rintro _ w ⟨rfl,H⟩ a E
    refine nt<|wif E m z (λ m=>?_) λ m=>?_
    ·refine sq<|pn 2 E z λ a E=>wR<|bM<|aH<|aH<|bM<|aH<|o1 E z<|?_
     cases m
     exact ⟨z,H.reads (Y1 b)⟩
    ·exact wK<|bR<|aA<|wG<|pn 2 E z λ a E=>⟨c,nL c,_,_,E.to z,H,(Y1 b),m⟩
   ·refine wX<|aW<|aW<|cT<|aA<|sq<|pn 1 E z λ a E=>wR<|o1 E z<|?_
    cases m
    exact ⟨z,H.reads b⟩

def gW(b:List aP):Option Bool:=
  (iS b).bind λ c=>some (decide (c ≥ 0))
theorem w5{c:Value}{d:List aP}{b:Nat}(H:Sep w (Blk b 236 [.func (.func 193) #[] #[]]::Fo) rs)(e:rSl aS c d ∈ rs){r:Bool}(m:gW d=some r) :
    Cf 316 [c,.func (.func 317) #[] #[pt b 0]] w λ v w'=>.bool r=v/\Sep w' (Blk b 236 [.func (.func 193) #[] #[]]::Fo) (rs):=by
 unfold gW at m
 refine ent Tryz.func316 z Tryz.ntmps316 z z λ a E=>sp 1 E z λ a E=>xp 2 E z λ a E=>bd m λ g f m=>xk2 E z (cf_ 268) (D7 H e f) λ w H a E=>pn 2 E z λ a E=>wR<|o1 E z<|?_
 cases m
 exact ⟨z,H.reads Y0⟩

def rL(b:List aP):Option Bool:=
  (gW b).bind λ c=>some (!c)
theorem Ds{b:Value}{c:List aP}(H:Sep w (Fo) rs)(d:rSl aS b c ∈ rs){r:Bool}(m:rL c=some r) :
    Cf 264 [b,.func (.func 193) #[] #[]] w λ v w'=>.bool r=v/\Sep w' (Fo) (rs):=by
 unfold rL at m
 refine ent Tryz.func264 z Tryz.ntmps264 z z λ a E=>sq<|bx E H z λ f w a H E=>pr 1 E z λ a E=>xp 1 E z λ a E=>sv2 E z (mY E z z z) λ a E=>bd m λ g e m=>xk2 E z (cf_ 316) (w5 H d e) λ w H a E=>pn 2 E z λ a E=>wR<|o1 E z<|have H:=H.drop 0;?_
 cases m
 exact ⟨z,H.reads Y0⟩

def y9(rec_1:Int->Sc->Option Bool)(c:Int)(b:Sc):Option Bool:=
  rec_1 (IntKind.i64.wrap (c+1)) b
def xT(rec_2:Bool->Int->Option Bool)(b:Int)(c:Bool):Option Bool:=
  rec_2 c (IntKind.i64.wrap (b+1))
def iH(x1:aT)(d:Sc):Nat->Bool->Int->Option Bool
  | 0,_,_=>none
  | e+1,c,b=>
    if (decide (b < (x1.Sessions.length:Int)))=true then (if c=true then ((idx x1.Sessions (IntKind.i64.wrap (b - 1))).bind λ f=>(idx x1.Sessions b).bind λ g=>xT (iH x1 d e) b (decide (f.Num < g.Num))) else (xT (iH x1 d e) b false)) else (if (decide ((x1.Watches.length:Int) <= 64))=true then (if ((d.length:Int) == (x1.Watches.length:Int))=true then ((rL x1.Watches).bind λ i=>if i=true then ((pK x1.Sessions).bind λ j=>if j=true then (some (c)) else (some (false))) else (some (false))) else (some (false))) else (some (false)))
def oJ(x1:aT):Nat->Int->Sc->Option Bool
  | 0,_,_=>none
  | f+1,d,c=>
    if (decide (d < (x1.Watches.length:Int)))=true then ((idx x1.Watches d).bind λ b=>(mlk K6 c (b.Session,b.Num)).bind λ e=>(ck (K6.ok (b.Session,b.Num)=true/\c.length+1 < maxLen)).bind λ g=>y9 (oJ x1 f) d (kZ c (b.Session,b.Num) (IntKind.i64.wrap ((e.getD 0)+1)))) else (iH x1 c (((x1.Sessions.length:Int) - 1:Int).toNat+1) true 1)
def sX(x1:aT):Option Bool:=
  oJ x1 (((x1.Watches.length:Int) - 0:Int).toNat+1) 0 []
theorem M3{x1:aT}{n D:Value}(H:Sep w (Fo) rs)(o:rSl aS n x1.Watches ∈ rs)(F:rSl aI D x1.Sessions ∈ rs){r:Bool}(m:sX x1=some r) :
    Cf 192 [.agg #[n,D]] w λ v w'=>.bool r=v/\Sep w' (Fo) (rs):=by
 unfold sX at m
 refine ent Tryz.func192 z Tryz.ntmps192 z z λ a E=>sq<|bx E H z λ p w a H E=>pr 1 E z λ a E=>nx<|C5 (k:=294) (K:=K6) (d:=(kI .i64)) (g:=false) E H (wn z) z z z λ q w a H E=>pn 1 E z λ a E=>wS<|sp 1 E z λ a E=>lb2 E H 1 U70 z λ a E=>lS E H o U70 z λ a E=>pn 1 E z λ a E=>wB<|bL (λ t a w=>∃ G x,Jn 76 a w [(1,pt p 0),(3,.map (some q)),(10,n),(11,.int .i64 (x1.Watches.length:Int)),(12,.int .i64 G)] (Blk p 73 [n,D]::bX Tryz.prog 294 K6 (kI .i64) false q x::Fo) rs (oJ x1 t G x=some r)) (((x1.Watches.length:Int) - 0:Int).toNat+1) ?_ ?_
 ·exact have H:=H.frs [0,1] z;X3 ⟨E.to z,H,Y0,m⟩
 ·clear E H m
  rintro t a w ⟨G,x,b4,E,H,l,m⟩
  cases t with
  | zero=>exact (bF m z).elim
  | succ t=>
   unfold oJ at m
   refine sq<|pn 1 E z λ a E=>wS<|wif E m z (λ m=>?_) λ m=>?_
   ·refine wK<|aA<|aN (λ a w=>∃ I,Jn 76 a w [(1,pt p 0),(3,.map (some q)),(10,n),(11,.int .i64 (x1.Watches.length:Int)),(12,.int .i64 G)] (Blk p 73 [n,D]::bX Tryz.prog 294 K6 (kI .i64) false q I::Fo) rs (y9 (oJ x1 t) G I=some r)) ?_ ?_
    ·refine wB<|sq<|bd m λ B Q m=>dP E H (wn z) z z z z z (l _ o) U70 tW Q λ q17 a H E=>ldf mB E H z z z z z m0 U35 z tW λ a E=>al2 E H z LJ λ C w a H E=>ss 0 E H z tW z λ w H=>nt<|bd m λ O J m=>bk m λ L m=>?_
     have hI:dG [Blk C 35 (dY B)] [] { w with drawn:=w.drawn+1 }:=⟨_,_,H.kept (Kp.drawn _ w _),(aJ m0 (bC)),(bI)⟩
     refine nX _ (.go 0 0 (.go 1 0 (.go 2 0 (.go 3 0 (.go 4 0 (.go 5 0 (.alt 6 (.go 7 0 (.go 8 1 (.go 9 0 (.go 10 2 .nil)))) 8 (.go 9 0 (.go 6 1 (.go 7 0 (.go 10 2 .nil))))))))))) [10] oT (by kernel_rfl) (λ _ _ _ h=>False.elim h.2) hI<|have H:=H.kept (Kp.drawn _ w (w.drawn+1));?_
     generalize ({ w with drawn:=w.drawn+1 }:World)=w at H hI ⊢
     replace hI:∃ W,dG [Blk C 35 (dY B)] [] W:=⟨_,hI⟩
     obtain ⟨W0,hI⟩:=hI
     refine om E z λ a E=>ov E z (λ w hW=>lY E z z (v:=pt C 0) (Nn _ _)) λ a E=>ol E m0 U2 z λ a E=>ov E z (λ w hW=>lY E z z (v:=pt C 1) (Tt _ _)) λ a E=>ol E m0 U2 z λ a E=>ov E z (λ w hW=>(cJ E z (E.evs z) (v:=.agg #[.int .i64 B.Session,.int .i64 B.Num]) (by kernel_rfl))) λ a E=>nY z z ?_ ?_
     ·refine sv2 E z (Th (i:=2) (K:=K6) (z0:=0) (u:=O) E H z z z z Dj Lx Tv J) λ a E=>nt<|⟨sx H [0] z,ov E z (λ w hW=>(nT E z z z z)) λ a E=>cH z<|Kl (i:=2) (K:=K6) (z0:=0) E H (wn z) z z z z z z Dj Lx Tv L λ q33 w a H E=>nt<|⟨sx H [0] z,ox E z λ a E=>cV z<|Fu (i:=2) (K:=K6) E H (wn z) z z z z z z Dj Lx λ w H=>nt<|eO<|?_⟩⟩
      clear hI
      exact bR<|aA<|have H:=H.drop 0;⟨_,_,E.to z,H,(Y1 l),m⟩
     ·refine Kl (i:=2) (K:=K6) (z0:=0) E H (wn z) z z z z z z Dj Lx Tv L λ q36 w a H E=>nt<|⟨sx H [0] z,ox E z λ a E=>cH z<|sv2 E z (DI (i:=2) (K:=K6) (z0:=0) (u:=O) E H z z z z Dj Lx Tv J) λ a E=>nt<|⟨sx H [0] z,ov E z (λ w hW=>(nT E z z z z)) λ a E=>cV z<|Fu (i:=2) (K:=K6) E H (wn z) z z z z z z Dj Lx λ w H=>nt<|eO<|?_⟩⟩
      clear hI
      exact bR<|aA<|have H:=H.drop 0;⟨_,_,E.to z,H,(Y1 l),m⟩
    ·clear E H m
     rintro a w ⟨I,b5,E,H,R,m⟩
     unfold y9 at m
     exact wG<|pn 2 E z λ a E=>⟨t,nL t,X3 ⟨E.to z,H,R,m⟩⟩
   ·refine wX<|aW<|aW<|cT<|aA<|sq<|pn 1 E z λ a E=>wS<|sq<|pn 1 E z λ a E=>wB<|bL (λ y a w=>∃ M s,Jn 76 a w [(1,pt p 0),(3,.map (some q)),(6,.bool M),(7,.int .i64 s)] (Blk p 73 [n,D]::bX Tryz.prog 294 K6 (kI .i64) false q x::Fo) rs (iH x1 x y M s=some r)) (((x1.Sessions.length:Int) - 1:Int).toNat+1) ?_ ?_
    ·exact X3 ⟨E.to z,H,l,m⟩
    ·clear E H m
     rintro y a w ⟨M,s,b6,E,H,c,m⟩
     cases y with
     | zero=>exact (bF m z).elim
     | succ y=>
      unfold iH at m
      refine wS<|sp 2 E z λ a E=>lb2 E H 0 U71 z λ a E=>lS E H (c _ F) U71 z λ a E=>pn 1 E z λ a E=>wif E m z (λ m=>?_) λ m=>?_
      ·refine wK<|aA<|aN (λ a w=>∃ N,Jn 76 a w [(1,pt p 0),(3,.map (some q)),(6,.bool N),(7,.int .i64 s)] (Blk p 73 [n,D]::bX Tryz.prog 294 K6 (kI .i64) false q x::Fo) rs (xT (iH x1 x y) s N=some r)) ?_ ?_
       ·refine wB<|?_
        obtain ⟨b8,H⟩:=H.raw (c _ F)
        refine dw [(0,0),(1,0),(2,0),(3,0),(4,0),(5,0),(6,0),(7,0),(8,0),(9,0),(10,0),(11,0),(12,0),(13,0),(14,0),(15,0),(16,0),(17,2)] [0] [0] H (by kernel_rfl) (λ _ _ _ h=>False.elim h.2) λ w W0 hI H=>fn 2 E z λ a E=>cs m (λ b m=>?_) λ b m=>?_
        ·refine fk 1 E (kc 35 z b) z λ a E=>fb E z (ws' (d:=35) E z z z z b) z z z z m0 z U71 z λ a E=>fk 2 E (kc 35 z b) z λ a E=>bd m λ b9 S m=>?_
         obtain ⟨q50,c0,T,U⟩:=fB (P:=Tryz.prog) (k:=.i64) hI (fA (.head _)) U71 rU S
         refine dL E z (ws' (d:=35) E z z z z b) z z (λ w hW=>gO E z z z (T w)) λ a E=>?_
         have V:=pF U (λ _ _ _ h=>zL h)
         refine fk 1 E (kc 35 z b) z λ a E=>fa E z (ws' (d:=35) E z z z z b) z z z z V U2 z λ a E=>fk 1 E (kc 35 z b) z λ a E=>fb E z (ws' (d:=35) E z z z z b) z z z z m0 z U71 z λ a E=>fk 1 E (kc 35 z b) z λ a E=>bd m λ c1 X m=>?_
         obtain ⟨q57,c2,Y,Z⟩:=fB (P:=Tryz.prog) (k:=.i64) hI (fA (.head _)) U71 rU X
         refine dL E z (ws' (d:=35) E z z z z b) z z (λ w hW=>gO E z z z (Y w)) λ a E=>?_
         have b0:=pF Z (λ _ _ _ h=>zL h)
         refine fk 1 E (kc 35 z b) z λ a E=>fa E z (ws' (d:=35) E z z z z b) z z z z b0 U2 z λ a E=>fk 2 E (kc 35 z b) z λ a E=>bH z<|pn 1 E z λ a E=>bG<|?_
         clear hI
         exact bR<|aA<|⟨_,_,E.to z,H,(Y1 c),m⟩
        ·refine fk 15 E (kc 35 z b) z λ a E=>bH z<|pn 1 E z λ a E=>bG<|?_
         clear hI
         exact bR<|aA<|⟨_,_,E.to z,H,(Y1 c),m⟩
       ·clear E H m
        rintro a w ⟨N,b7,E,H,b1,m⟩
        unfold xT at m
        exact wG<|pn 3 E z λ a E=>⟨y,nL y,X3 ⟨E.to z,H,b1,m⟩⟩
      ·refine wX<|aW<|aW<|cT<|aA<|sp 1 E z λ a E=>lb2 E H 0 U70 z λ a E=>lS E H (c _ o) U70 z λ a E=>pr 2 E z λ a E=>cs m (λ e m=>?_) λ e m=>?_
       ·refine pk 1 E (kc 55 z e) z λ a E=>gv 55 E e z (W1 (i:=1) E H z z z Lx) λ a E=>pk 1 E (kc 55 z e) z λ a E=>gl 55 E H 0 e U70 z λ a E=>gv 55 E e z (tG E H z z (c _ o) U70) λ a E=>pk 3 E (kc 55 z e) z λ a E=>cs m (λ f m=>?_) λ f m=>?_
        ·refine pk 1 E (kc 63 z f) z λ a E=>gl 63 E H 0 f U70 z λ a E=>bd m λ c3 b2 m=>gc 63 E f z (cf_ 264) (Ds H (c _ o) b2)<|?_
         rintro _ w ⟨rfl,H⟩ a E
         refine pk 2 E (kc 63 z f) z λ a E=>cs m (λ j m=>?_) λ j m=>?_
         ·refine pk 1 E (kc 68 z j) z λ a E=>gl 68 E H 0 j U71 z λ a E=>bd m λ c4 b3 m=>gc 68 E j z (cf_ 265) (Be H (c _ F) b3)<|?_
          rintro _ w ⟨rfl,H⟩ a E
          refine pk 2 E (kc 68 z j) z λ a E=>cs m (λ A m=>?_) λ A m=>?_
          ·refine pk 3 E (kc 73 z A) z λ a E=>nt<|wR<|o1 E z<|have H:=H.drs [0,0];?_
           cases m
           exact ⟨z,H.reads c⟩
          ·refine pk 3 E (kc 73 z A) z λ a E=>nt<|wR<|o1 E z<|have H:=H.drs [0,0];?_
           cases m
           exact ⟨z,H.reads c⟩
         ·refine pk 8 E (kc 68 z j) z λ a E=>nt<|wR<|o1 E z<|have H:=H.drs [0,0];?_
          cases m
          exact ⟨z,H.reads c⟩
        ·refine pk 13 E (kc 63 z f) z λ a E=>nt<|wR<|o1 E z<|have H:=H.drs [0,0];?_
         cases m
         exact ⟨z,H.reads c⟩
       ·refine pk 21 E (kc 55 z e) z λ a E=>nt<|wR<|o1 E z<|have H:=H.drs [0,0];?_
        cases m
        exact ⟨z,H.reads c⟩

def sH(x1:aT)(d:ByteArray)(e:Int)(c:Bool):Option Ep:=
  if c=true then (some ((⟨[],[]⟩:aT),1)) else ((ck (x1.Sessions.length <= LIM)).bind λ f=>(ck (x1.Watches.length <= LIM)).bind λ g=>(fZ x1.Watches d x1.Sessions e).bind λ b=>some ((⟨b.1,b.2⟩:aT),0))
def Q5(x1:aT)(b:Int)(c:ByteArray):Option Ep:=
  (sX x1).bind λ d=>if (!d)=true then (sH x1 c b true) else (if (decide (b < 1))=true then (sH x1 c b true) else (if (decide (b > 3))=true then (sH x1 c b true) else ((fU c).bind λ e=>sH x1 c b (!e))))
theorem Ug{x1:aT}{j k:Value}{l:Int}{n:ByteArray}(H:Sep w (Fo) rs)(o:rSl aS j x1.Watches ∈ rs)(p:rSl aI k x1.Sessions ∈ rs){r:aT×Int}(m:Q5 x1 l n=some r) :
    Cf 302 [.agg #[j,k],.int .i64 l,.string n] w λ v w'=>∃ C D,.tuple #[.agg #[C,D],.int .i64 r.2]=v/\Sep w' (Fo) (rSl aS C r.1.Watches::rSl aI D r.1.Sessions::rs):=by
 unfold Q5 at m
 refine ent Tryz.func302 z Tryz.ntmps302 z z λ a E=>sq<|bx E H z λ F w a H E=>bx E H z λ G w a H E=>bx E H z λ q w a H E=>al2 E H z P9 λ s w a H E=>pn 1 E z λ a E=>wS<|aN (λ a w=>∃ f,Jn 36 a w [(3,pt F 0),(4,pt G 0),(5,pt q 0),(6,pt s 0),(23,.bool f)] (Blk F 73 [j,k]::Blk G 3 [.int .i64 l]::Blk q 9 [.string n]::Blk s 73 [nS,nS]::Fo) rs (sH x1 n l f=some r)) ?_ ?_
 ·refine wG<|ln 3 [j,k] E H U73 z fM λ a E=>bd m λ L u m=>xk2 E z (cf_ 192) (M3 H o p u) λ w H a E=>pr 2 E z λ a E=>cs m (λ c m=>?_) λ c m=>?_
  ·exact pk 12 E (kc 11 z c) z λ a E=>nt<|have H:=H.frs [0,1,2,3] z;⟨_,_,E.to z,H,Y0,m⟩
  ·refine gl 11 E H 2 c U3 z λ a E=>pk 3 E (kc 11 z c) z λ a E=>cs m (λ d m=>?_) λ d m=>?_
   ·exact pk 8 E (kc 15 z d) z λ a E=>nt<|have H:=H.frs [0,1,2,3] z;⟨_,_,E.to z,H,Y0,m⟩
   ·refine gl 15 E H 2 d U3 z λ a E=>pk 3 E (kc 15 z d) z λ a E=>cs m (λ b m=>?_) λ b m=>?_
    ·exact pk 4 E (kc 19 z b) z λ a E=>nt<|have H:=H.frs [0,1,2,3] z;⟨_,_,E.to z,H,Y0,m⟩
    ·refine gl 19 E H 1 b U9 z λ a E=>bd m λ M x m=>gc 19 E b z (cf_ 83) (jQ H x)<|?_
     rintro _ w ⟨rfl,H⟩ a E
     exact pk 2 E (kc 19 z b) z λ a E=>nt<|have H:=H.frs [0,1,2,3] z;⟨_,_,E.to z,H,Y0,m⟩
 ·clear E H m
  rintro a w ⟨f,K,E,H,e,m⟩
  unfold sH at m
  refine wif E m z (λ m=>?_) λ m=>?_
  ·refine sq<|sv2 E z (cJ E z (E.evs z) (v:=.agg #[nS,nS]) (by kernel_rfl)) λ a E=>ss 3 E H z fM z λ w H=>pn 1 E z λ a E=>wR<|aH<|zJ E z (pR (i:=3) (us:=[nS,nS]) H z z z U73 z fM) (rvT z)<|have H:=H.nilSl aS;have H:=H.nilSl aI;have H:=H.drs [0,0,0,0];?_
   cases m
   exact ⟨_,_,z,H.rdx [1,0] z (λ r hr=>(t2 (e r hr)))⟩
  ·refine wK<|aA<|sp 1 E z λ a E=>lb2 E H 0 U71 z λ a E=>bk m λ y m=>xc2 E z (cf_ 75) (dI H (e _ p) y) λ N w H a E=>pr 1 E z λ a E=>?_
   obtain ⟨q18,O,rfl⟩:=H.rowform (i:=0) z
   refine ss 1 E H z Tx z λ w H=>xp 1 E z λ a E=>lb2 E H 1 U70 z λ a E=>bk m λ A m=>xc2 E z (cf_ 74) (eM H (e _ o) A) λ P w H a E=>sv2 E z (mY E z z z) λ a E=>have H:=H.frs [5,4,3,4,5,5] z;bd m λ g B m=>xc2 E z (cf_ 333) (B6 H B)<|?_
   rintro _ w ⟨Q,I,rfl,H⟩ a E
   refine pr 1 E z λ a E=>?_
   obtain ⟨q27,t,rfl⟩:=H.rowform (i:=0) z
   refine ss 2 E H z Yn z λ w H=>nx<|ln 2 [(.slice q27 g.1.length t),I] E H U73 z fM λ a E=>?_
   obtain ⟨q29,J,rfl⟩:=H.rowform (i:=4) z
   refine ss 5 E H z fM z λ w H=>pn 1 E z λ a E=>wR<|zJ E z (pR (i:=5) (us:=[(.slice q27 g.1.length t),(.slice q29 g.2.length J)]) H z z z U73 z fM) (rvT z)<|have H:=H.thaw (i:=0) z;have H:=H.thaw (i:=3) z;have H:=H.drs [0,0,0,0];?_
   cases m
   exact ⟨_,_,z,H.rdx [1,0] z (λ r hr=>(t2 (e r hr)))⟩

def gH(c:List aP)(d:List aE)(x20:Int)(e:ByteArray):Option Q2:=
  (Q5 (⟨c,d⟩:aT) x20 e).bind λ b=>if (b.2 == 0)=true then (some (b.1.Watches,b.1.Sessions)) else (some (c,d))
theorem wY{s:Nat}{b c i j k l n o p:Value}{d:List aP}{e:List aE}{x20:Int}{q:ByteArray}(H:Sep w (Blk s 87 [i,j,k,l,b,c,n,o,p]::Fo) rs)(f:rSl aS b d ∈ rs)(g:rSl aI c e ∈ rs){r:fT×eA}(m:gH d e x20 q=some r) :
    Cf 233 [pt s 0,.int .i64 x20,.string q] w λ v w'=>∃ u x,.tuple #[]=v/\Sep w' (Blk s 87 [i,j,k,l,u,x,n,o,p]::Fo) (rSl aS u r.1::rSl aI x r.2::rs):=by
 unfold gH at m
 refine ent Tryz.func233 z Tryz.ntmps233 z z λ a E=>sp 3 E z λ a E=>ln 0 [b,c] E H U73 z fM λ a E=>pr 2 E z λ a E=>bd m λ B t m=>xc2 E z (cf_ 302) (Ug (x1:=(⟨d,e⟩:aT)) H f g t)<|?_
 rintro _ w ⟨y,A,rfl,H⟩ a E
 refine pr 3 E z λ a E=>al2 E H z P9 λ C w a H E=>ss 0 E H z fM (hY H m0 mm1) λ w H=>pr 1 E z λ a E=>nx<|pn 2 E z λ a E=>wif E m z (λ m=>?_) λ m=>?_
 ·refine wG<|pr 1 E z λ a E=>ln 0 [y,A] E H U73 z fM λ a E=>pr 2 E z λ a E=>ss 1 E H z fM (hY H m0 mm1) λ w H=>wN<|vX E z<|have H:=H.drop 0;?_
  cases m
  exact ⟨_,_,z,H.rdx [0,1] z (λ r hr=>(t2 hr))⟩
 ·refine wK<|vX E z<|have H:=H.drop 0;?_
  cases m
  exact ⟨_,_,z,H.reads (aD (t2 f) (aD (t2 g) (λ r hr=>(t2 hr))))⟩

def gQ(rec_1:Int->fT->eA->Option Q2)(b:Int)(c:fT)(d:eA):Option Q2:=
  rec_1 (IntKind.i64.wrap (b+1)) c d
def nN(rec_1:Int->fT->eA->Option Q2)(d:Int)(b:cN)(e:cR):Nat->Int->fT->eA->Option Q2
  | 0,_,_,_=>none
  | l+1,c,f,g=>
    if (decide (c < (b.Names.length:Int)))=true then ((idx b.Names c).bind λ j=>(C6 e.Part.Path j).bind λ k=>(gH f g 2 k.1).bind λ i=>nN rec_1 d b e l (IntKind.i64.wrap (c+1)) i.1 i.2) else (gQ rec_1 d f g)
def dM(c:List cR)(d:List cN):Nat->Int->fT->eA->Option Q2
  | 0,_,_,_=>none
  | i+1,b,f,g=>
    if (decide (b < (c.length:Int)))=true then ((idx c b).bind λ e=>if (e.Part.Kind == 2)=true then ((idx d b).bind λ n=>(gH f g 1 n.Path).bind λ j=>gQ (dM c d i) b j.1 j.2) else (if (e.Part.Kind == 3)=true then ((gH f g 2 e.Part.Path).bind λ k=>gQ (dM c d i) b k.1 k.2) else (if (e.Part.Kind == 5)=true then ((gH f g 3 e.Part.Path).bind λ l=>gQ (dM c d i) b l.1 l.2) else (if (e.Part.Kind == 10)=true then ((idx d b).bind λ m=>nN (dM c d i) b m e (((m.Names.length:Int) - 0:Int).toNat+1) 0 f g) else (gQ (dM c d i) b f g))))) else (some (f,g))
def vE(c:List aP)(d:List aE)(b:List cR)(e:List cN):Option Q2:=
  dM b e (((b.length:Int) - 0:Int).toNat+1) 0 c d
theorem Hw{k:Nat}{Y Z l n o p q s t u x:Value}{b0:List aP}{b1:List aE}{c:List cR}{y:List cN}(H:Sep w (Blk k 87 [o,p,q,s,Y,Z,t,u,x]::Fo) rs)(b5:rSl aS Y b0 ∈ rs)(b6:rSl aI Z b1 ∈ rs)(D:rSl bT l c ∈ rs)(F:rSl aY n y ∈ rs){r:fT×eA}(m:vE b0 b1 c y=some r) :
    Cf 158 [pt k 0,l,n] w λ v w'=>∃ c9 d0,.tuple #[]=v/\Sep w' (Blk k 87 [o,p,q,s,c9,d0,t,u,x]::Fo) (rSl aS c9 r.1::rSl aI d0 r.2::rs):=by
 unfold vE at m
 refine ent Tryz.func158 z Tryz.ntmps158 z z λ a E=>sp 1 E z λ a E=>lS E H D U26 z λ a E=>pn 1 E z λ a E=>wB<|bL (λ A a w=>∃ G I g J K i,Env 70 a [(0,pt k 0),(2,n),(12,l),(13,.int .i64 (c.length:Int)),(14,.int .i64 g)]/\Sep w (Blk k 87 [o,p,q,s,G,I,t,u,x]::Fo) i/\(∀ r,r ∈ rs->r ∈ i)/\rSl aS G J ∈ i/\rSl aI I K ∈ i/\dM c y A g J K=some r) (((c.length:Int) - 0:Int).toNat+1) ?_ ?_
 ·exact X6 ⟨E.to z,H,Y0,b5,b6,m⟩
 ·clear E H m
  rintro A a w ⟨G,I,g,J,K,i,E,H,b,d,e,m⟩
  cases A with
  | zero=>exact (bF m z).elim
  | succ A=>
   unfold dM at m
   refine sq<|pn 1 E z λ a E=>wS<|wif E m z (λ m=>?_) λ m=>?_
   ·refine wK<|aA<|aN (λ a w=>∃ L M N O j,Env 70 a [(0,pt k 0),(2,n),(12,l),(13,.int .i64 (c.length:Int)),(14,.int .i64 g)]/\Sep w (Blk k 87 [o,p,q,s,L,M,t,u,x]::Fo) j/\(∀ r,r ∈ rs->r ∈ j)/\rSl aS L N ∈ j/\rSl aI M O ∈ j/\gQ (dM c y A) g N O=some r) ?_ ?_
    ·refine wB<|sp 1 E z λ a E=>bd m λ b2 b7 m=>dP E H (wn z) z z z z z (b _ D) U26 T7 b7 λ q54 a H E=>ldf y5 E H z z z z z m0 U99 z T7 λ a E=>al2 E H z Yj λ b3 w a H E=>pr 1 E z λ a E=>ss 0 E H z T7 z λ w H=>xp 2 E z λ a E=>lb2 E H 0 U3 z λ a E=>nt<|wB<|sq<|pn 2 E z λ a E=>wif E m z (λ m=>?_) λ m=>?_
     ·refine wG<|pr 3 E z λ a E=>bd m λ d1 b8 m=>dP E H (wn z) z z z z z (t1 (b _ F)) U40 F4 b8 λ q58 a H E=>have H:=H.derive1 m0 (rAt kS (q58.add 1) d1.Path) (λ ok h=>Ln h);pr 1 E z λ a E=>sv2 E z (vK E H z z m0 U9 z) λ a E=>have H:=H.frs [0,1] z;bd m λ d2 b9 m=>xc2 E z (cf_ 233) (wY H (t3 d) (t3 e) b9)<|?_
      rintro _ w ⟨d3,d4,rfl,H⟩ a E
      exact wN<|bR<|bR<|aA<|have H:=H.drop 1;X5 ⟨E.to z,H,(Y5 b),m0,mm1,m⟩
     ·refine sq<|pn 2 E z λ a E=>wif E m z (λ m=>?_) λ m=>?_
      ·refine wG<|pr 3 E z λ a E=>lb2 E H 0 U9 z λ a E=>have H:=H.frs [0,1] z;bd m λ d5 c0 m=>xc2 E z (cf_ 233) (wY H (t1 d) (t1 e) c0)<|?_
       rintro _ w ⟨d6,d7,rfl,H⟩ a E
       exact wN<|bR<|bR<|aA<|have H:=H.drop 1;X5 ⟨E.to z,H,(Y3 b),m0,mm1,m⟩
      ·refine sq<|pn 2 E z λ a E=>wif E m z (λ m=>?_) λ m=>?_
       ·refine wG<|pr 3 E z λ a E=>lb2 E H 0 U9 z λ a E=>have H:=H.frs [0,1] z;bd m λ d8 c1 m=>xc2 E z (cf_ 233) (wY H (t1 d) (t1 e) c1)<|?_
        rintro _ w ⟨d9,e0,rfl,H⟩ a E
        exact wN<|bR<|bR<|aA<|have H:=H.drop 1;X5 ⟨E.to z,H,(Y3 b),m0,mm1,m⟩
       ·refine sq<|pn 2 E z λ a E=>wif E m z (λ m=>?_) λ m=>?_
        ·refine sp 2 E z λ a E=>bd m λ B c2 m=>dP E H (wn z) z z z z z (t1 (b _ F)) U40 F4 c2 λ q73 a H E=>have H:=H.derive1 m0 (rAt (kL kS) (q73.add 4) B.Names) (λ ok h=>Lo h);pr 1 E z λ a E=>JV E H (wn z) z z z z m0 U33 z λ b4 a H E=>lS E H m0 U33 z λ a E=>pr 1 E z λ a E=>nt<|wB<|bL (λ C a w=>∃ P Q R S T f,Env 70 a [(0,pt k 0),(2,n),(7,pt b3 0),(12,l),(13,.int .i64 (c.length:Int)),(14,.int .i64 g),(51,b4),(52,.int .i64 (B.Names.length:Int)),(53,.int .i64 R)]/\Sep w (Blk k 87 [o,p,q,s,P,Q,t,u,x]::Blk b3 99 (Kq b2)::Fo) f/\(∀ r,r ∈ rs->r ∈ f)/\rSl kS b4 B.Names ∈ f/\rSl aS P S ∈ f/\rSl aI Q T ∈ f/\nN (dM c y A) g B b2 C R S T=some r) (((B.Names.length:Int) - 0:Int).toNat+1) ?_ ?_
         ·exact have H:=H.frs [0,1] z;X6 ⟨E.to z,H,(Y4 b),m0,(t4 d),(t4 e),m⟩
         ·clear E H m
          rintro C a w ⟨P,Q,R,S,T,f,E,H,U,V,W,X,m⟩
          cases C with
          | zero=>exact (bF m z).elim
          | succ C=>
           unfold nN at m
           refine sq<|pn 1 E z λ a E=>wS<|wif E m z (λ m=>?_) λ m=>?_
           ·refine wK<|aA<|wS<|wB<|sq<|bd m λ e1 c3 m=>dP E H (wn z) z z z z z V U33 sz9 c3 λ q87 a H E=>sv2 E z (vK E H z z m0 U9 z) λ a E=>pr 1 E z λ a E=>xp 2 E z λ a E=>lb2 E H 1 U9 z λ a E=>pr 1 E z λ a E=>bd m λ e2 c4 m=>xk2 E z (cf_ 208) (Kt H c4) λ w H a E=>pn 5 E z λ a E=>wG<|pr 2 E z λ a E=>bd m λ e3 c5 m=>xc2 E z (cf_ 233) (wY H (t1 W) (t1 X) c5)<|?_
            rintro _ w ⟨e4,e5,rfl,H⟩ a E
            exact wN<|bR<|aA<|wG<|pn 2 E z λ a E=>⟨C,nL C,X6 ⟨E.to z,H,(Y3 U),(t3 V),m0,mm1,m⟩⟩
           ·exact wX<|aW<|aW<|cT<|bR<|bR<|aA<|have H:=H.drop 1;X5 ⟨E.to z,H,U,W,X,m⟩
        ·exact wK<|bR<|bR<|aA<|have H:=H.drop 0;X5 ⟨E.to z,H,(Y1 b),(t1 d),(t1 e),m⟩
    ·clear E H m
     rintro a w ⟨L,M,N,O,j,E,H,c6,c7,c8,m⟩
     unfold gQ at m
     exact wG<|pn 2 E z λ a E=>⟨A,nL A,X6 ⟨E.to z,H,c6,c7,c8,m⟩⟩
   ·refine wX<|aW<|aW<|cT<|vX E z<|?_
    cases m
    exact ⟨_,_,z,H.reads (aD d (aD e (b)))⟩

def sU(g:List aG)(i:List aM)(c:List aP)(d:List aE)(e:List cR):Option Ys:=
  (C7 (⟨g,i⟩:aR) e).bind λ b=>if (b.2.2.1 != 0)=true then (some ((⟨b.2.2.1,b.2.2.2,false,0,[],(⟨[],[]⟩:aR),[],[],[]⟩:aX),g,i,c,d)) else ((vE c d e b.2.1).bind λ f=>some ((⟨0,0,false,0,b.2.1,(⟨[],[]⟩:aR),[],[],[]⟩:aX),b.1.Nodes,b.1.Turns,f.1,f.2))
theorem Z7{D:Nat}{F G j k l n o p q s:Value}{I:List aG}{J:List aM}{t:List aP}{u:List aE}{x:List cR}(H:Sep w (Blk D 87 [F,G,n,o,j,k,p,q,s]::Fo) rs)(c:rSl aB F I ∈ rs)(d:rSl aC G J ∈ rs)(e:rSl aS j t ∈ rs)(f:rSl aI k u ∈ rs)(g:rSl bT l x ∈ rs)(K:N2 Tryz.prog ∈ rs){r:aX×dZ×dR×fT×eA}(m:sU I J t u x=some r) :
    Cf 101 [pt D 0,l] w λ v w'=>∃ N O P Q R S T y A B,.agg (aU r.1 N O P Q R S).toArray=v/\Sep w' (Blk D 87 [T,y,n,o,A,B,p,q,s]::Fo) (rSl aY N r.1.Results::rSl aB O r.1.Store.Nodes::rSl aC P r.1.Store.Turns::rSl aQ Q r.1.Events::rSl bD R r.1.Mounts::rSl (kI .i64) S r.1.Wounded::rSl aB T r.2.1::rSl aC y r.2.2.1::rSl aS A r.2.2.2.1::rSl aI B r.2.2.2.2::rs):=by
 unfold sU at m
 refine ent Tryz.func101 z Tryz.ntmps101 z z λ a E=>sq<|al2 E H z kM λ W w a H E=>xp 3 E z λ a E=>ln 1 [F,G] E H U25 z dF λ a E=>pr 1 E z λ a E=>bd m λ b L m=>xc2 E z (cf_ 23) (Ct (x1:=(⟨I,J⟩:aR)) H c d g K L)<|?_
 rintro _ w ⟨U,V,X,rfl,H⟩ a E
 refine pr 5 E z λ a E=>al2 E H z oC λ Y w a H E=>ss 0 E H z dF (mI H m0 mm1) λ w H=>pn 3 E z λ a E=>wS<|sq<|pn 2 E z λ a E=>wif E m z (λ m=>?_) λ m=>?_
 ·refine sp 2 E z λ a E=>sv2 E z (cJ E z (E.evs z) (v:=.agg #[.int .i64 b.2.2.1,.int .i64 b.2.2.2,.bool false,.int .i64 0,nS,nS,nS,nS,nS,nS]) (by kernel_rfl)) λ a E=>ss 2 E H z bU z λ w H=>nt<|wR<|aH<|oB 2 [.int .i64 b.2.2.1,.int .i64 b.2.2.2,.bool false,.int .i64 0,nS,nS,nS,nS,nS,nS] E H U48 z bU<|have H:=H.nilSl aY;have H:=H.nilSl aB;have H:=H.nilSl aC;have H:=H.nilSl aQ;have H:=H.nilSl bD;have H:=H.nilSl (kI .i64);have H:=H.drs [0,0,0];?_
  cases m
  exact X10 ⟨z,H.rdx [5,4,3,2,1,0] z (aD (t8 c) (aD (t8 d) (aD (t8 e) (aD (t8 f) (λ r hr=>(t8 hr))))))⟩
 ·refine wK<|aA<|sp 1 E z λ a E=>ln 0 [U,V] E H U25 z dF λ a E=>pr 2 E z λ a E=>ss 3 E H z dF (mI H m0 mm1) λ w H=>xp 3 E z λ a E=>have H:=H.thaw (i:=1) z;have H:=H.frs [1,1,2] z;bd m λ Z M m=>xc2 E z (cf_ 158) (Hw H (t3 e) (t3 f) (t3 g) m0 M)<|?_
  rintro _ w ⟨b0,b1,rfl,H⟩ a E
  refine xp 1 E z λ a E=>?_
  obtain ⟨q44,C,rfl⟩:=H.slform mm2
  refine sv2 E z (cJ E z (E.evs z) (v:=.agg #[.int .i64 0,.int .i64 0,.bool false,.int .i64 0,(.slice q44 b.2.1.length C),nS,nS,nS,nS,nS]) (by kernel_rfl)) λ a E=>ss 2 E H z bU z λ w H=>nt<|wR<|oB 2 [.int .i64 0,.int .i64 0,.bool false,.int .i64 0,(.slice q44 b.2.1.length C),nS,nS,nS,nS,nS] E H U48 z bU<|have H:=H.nilSl aB;have H:=H.nilSl aC;have H:=H.nilSl aQ;have H:=H.nilSl bD;have H:=H.nilSl (kI .i64);have H:=H.drs [1,1];?_
  cases m
  exact X10 ⟨z,H.reads (aD (t1 mm6) (aD mm4 (aD mm3 (aD mm2 (aD mm1 (aD m0 (aD (t2 mm6) (aD (t3 mm6) (aD mm5 (aD mm6 (λ r hr=>(t2 (t8 hr)))))))))))))⟩

end Go.Cb
