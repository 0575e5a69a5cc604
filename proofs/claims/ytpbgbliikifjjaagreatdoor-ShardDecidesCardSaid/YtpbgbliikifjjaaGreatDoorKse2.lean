/- Functions of the program, walked: each comes to its plain function. -/
import Derived.Test.YtpbgbliikifjjaaGreatDoorKse1
import Derived.Test.YtpbgbliikifjjaaGreatDoorExse
import Derived.Test.YtpbgbliikifjjaaGreatDoorN4se
set_option linter.unusedVariables false
set_option linter.unusedSimpArgs false
set_option maxRecDepth 20000
set_option maxHeartbeats 1000000
namespace Go.Cb
open Go.Proofs Go.RowKit
variable {w:World} {Fo:List Ob} {rs:List Rp}

def hG(b:Int):Option Int:=
  some (b)
theorem lC{e:Nat}{b:Int}{c d f g j k l:Value}(H:Sep w (Blk e 251 [c,d,f,g,j,k,l]::Fo) rs){r:Int}(hm:hG b=some r) :
    Calls Tryz.prog 257 [pt e 0,.int .i64 b].toArray w (Ret fun v w'=>.tuple #[]=v∧Sep w' (Blk e 251 [c,d,.int .i64 r,.string (ByteArray.mk #[]),.string (ByteArray.mk #[]),.int .i64 0,.slice none 0 0]::Fo) (rs)):=by
 unfold hG at hm
 refine ent Tryz.func257 rfl Tryz.ntmps257 rfl rfl fun a E=>wp_region_lit<|pr 2 E rfl fun a E=>sv E rfl rfl rfl (cI E rfl (E.evs rfl) (v:=.agg #[.int .i64 b,.string (ByteArray.mk #[]),.string (ByteArray.mk #[]),.int .i64 0,.slice none 0 0]) (by kernel_rfl)) fun a E=>pr 2 E rfl fun a E=>aZ (i:=0) E H (wn rfl) rfl rfl rfl rfl rfl rfl zU rfl rfl fun w H=>wpList_nil<|oJ E rfl<|?_
 cases hm
 exact ⟨rfl,H.reads Y0⟩

def pU(x1:aE)(b:ByteArray):Option Int:=
  (jZ x1.Path b).bind fun c=>some (c)
theorem zK{x1:aE}{b:ByteArray}(H:Sep w (Fo) rs){r:Int}(hm:pU x1 b=some r) :
    Calls Tryz.prog 314 [.agg (iQ x1).toArray,.string b].toArray w (Ret fun v w'=>.int .i64 r=v∧Sep w' (Fo) (rs)):=by
 unfold pU at hm
 refine ent Tryz.func314 rfl Tryz.ntmps314 rfl rfl fun a E=>sq<|bS E H (wn rfl) rfl rfl rfl rfl rfl fun d w a H E=>pr 1 E rfl fun a E=>nx<|pr 1 E rfl fun a E=>lb E H 0 rfl rfl rfl rfl rfl rfl rfl U9 rfl fun a E=>pr 1 E rfl fun a E=>bd hm fun e c hm=>?_
 refine xk E rfl rfl rfl rfl rfl Fu (oP H c) fun w H a E=>pr 1 E rfl fun a E=>nt<|wp_ret<|aY E rfl rfl<|have H:=H.drop 0;?_
 cases hm
 exact ⟨rfl,H.reads Y0⟩

def dB(c:List aE)(e:ByteArray):Nat→Int→Int→Option (Int×Bool)
  | 0,_,_=>none
  | f+1,b,d=>
    if (decide (b < d))=true then ((idx c (IntKind.i64.wrap (pH .u64 (IntKind.u64.wrap (IntKind.i64.wrap (b+d))) 1))).bind fun k=>(pU k e).bind fun g=>if (decide (g < 0))=true then (dB c e f (IntKind.i64.wrap ((IntKind.i64.wrap (pH .u64 (IntKind.u64.wrap (IntKind.i64.wrap (b+d))) 1))+1)) d) else (dB c e f b (IntKind.i64.wrap (pH .u64 (IntKind.u64.wrap (IntKind.i64.wrap (b+d))) 1)))) else (if (decide (b < (c.length:Int)))=true then ((idx c b).bind fun i=>(pU i e).bind fun j=>some (b,j == 0)) else (some (b,false)))
def fH(b:List aE)(c:ByteArray):Option (Int×Bool):=
  dB b c (((b.length:Int) - 0:Int).toNat+1) 0 (b.length:Int)
theorem oV{k:Value}{f:List aE}{q:ByteArray}(H:Sep w (Row 95 aF k f::Fo) rs){r:Int×Bool}(hm:fH f q=some r) :
    Calls Tryz.prog 313 [k,.string q,.func (.func 314) #[] #[]].toArray w (Ret fun v w'=>.tuple #[.int .i64 r.1,.bool r.2]=v∧Sep w' (Row 95 aF k f::Fo) (rs)):=by
 unfold fH at hm
 refine ent Tryz.func313 rfl Tryz.ntmps313 rfl rfl fun a E=>sq<|pr 2 E rfl fun a E=>nx<|pr 1 E rfl fun a E=>sv E rfl rfl rfl (iZ (i:=0) E H rfl rfl rfl U22) fun a E=>pr 1 E rfl fun a E=>nx<|pr 3 E rfl fun a E=>?_
 refine nt<|wp_seq<|wp_block<|bX (fun c a w=>∃ s t l,Env 49 a [(0,k),(1,.string q),(2,.func (.func 314) #[] #[]),(8,.int .i64 (f.length:Int)),(9,.int .i64 s),(10,.int .i64 t)]∧Sep w (Row 95 aF k f::Fo) l∧(∀ r,r ∈ rs→r ∈ l)∧dB f q c s t=some r) (((f.length:Int) - 0:Int).toNat+1) ?_ ?_
 ·exact X3 ⟨E.to rfl,H,Y0,hm⟩
 ·clear E H hm
  rintro c a w ⟨s,t,l,E,H,j,hm⟩
  cases c with
  | zero=>exact (bT hm rfl).elim
  | succ c=>
   unfold dB at hm
   refine wp_seq<|sq<|pr 3 E rfl fun a E=>nt<|wif E hm rfl (fun hm=>?_) fun hm=>?_
   ·refine wp_skip<|aC<|wp_block<|sq<|pr 4 E rfl fun a E=>sv E rfl rfl rfl (J4 E rfl rfl rfl (by decide)) fun a E=>pr 2 E rfl fun a E=>nx<|pr 3 E rfl fun a E=>?_
    refine bd hm fun m n hm=>?_
    obtain ⟨y,z,o⟩:=H.rowformNE (i:=0) rfl n
    refine sv E rfl rfl rfl (cY (d:=aF) E o rfl rfl rfl rfl U22 iR n) fun a E=>sv E rfl rfl rfl (fZ (i:=0) E H cK o rfl rfl rfl n (us:=[.string m.Path,.string m.Data,.int .i64 m.Version,.int .i64 m.Turn,.int .i64 m.Owner]) rfl U95 rfl iR) fun a E=>pr 1 E rfl fun a E=>bd hm fun A u hm=>aU E (wn rfl) rfl rfl (bP E rfl rfl rfl (Mx _)) (zK H u)<|?_
    rintro _ w ⟨rfl,H⟩ a E
    refine pr 1 E rfl fun a E=>nt<|wif E hm rfl (fun hm=>?_) fun hm=>?_
    ·exact wp_region_lit<|pr 3 E rfl fun a E=>wpList_nil<|bY<|aC<|⟨c,Nat.lt_succ_self c,X3 ⟨E.to rfl,H,j,hm⟩⟩
    ·exact wp_region_lit<|pr 2 E rfl fun a E=>wpList_nil<|bY<|aC<|⟨c,Nat.lt_succ_self c,X3 ⟨E.to rfl,H,j,hm⟩⟩
   ·refine wp_exit<|bH<|bH<|dG<|aC<|sq<|pr 5 E rfl fun a E=>cs hm (fun b hm=>?_) fun b hm=>?_
    ·refine pk 3 E (kc 39 rfl b) rfl fun a E=>bd hm fun e g hm=>?_
     obtain ⟨B,C,p⟩:=H.rowformNE (i:=0) rfl g
     refine aQ E (ws' (d:=39) E rfl rfl rfl rfl b) rfl rfl (cY (d:=aF) E p rfl rfl rfl rfl U22 iR g) fun a E=>aQ E (ws' (d:=39) E rfl rfl rfl rfl b) rfl rfl (fZ (i:=0) E H cK p rfl rfl rfl g (us:=[.string e.Path,.string e.Data,.int .i64 e.Version,.int .i64 e.Turn,.int .i64 e.Owner]) rfl U95 rfl iR) fun a E=>pk 1 E (kc 39 rfl b) rfl fun a E=>bd hm fun D x hm=>aU E (ws' (d:=39) E rfl rfl rfl rfl b) rfl rfl (bP E rfl rfl rfl (Mx _)) (zK H x)<|?_
     rintro _ w ⟨rfl,H⟩ a E
     refine pk 4 E (kc 39 rfl b) rfl fun a E=>nt<|wp_ret<|fX E rfl rfl rfl<|?_
     cases hm
     exact ⟨rfl,H.reads j⟩
    ·refine pk 11 E (kc 39 rfl b) rfl fun a E=>nt<|wp_ret<|fX E rfl rfl rfl<|?_
     cases hm
     exact ⟨rfl,H.reads j⟩

def oQ(d:List aE)(c:ByteArray):Option (Int×Bool):=
  (fH d c).bind fun b=>some (b.1,b.2)
theorem wO{k:Nat}{b c d e f g i:Value}{l:List aE}{j:ByteArray}(H:Sep w (Blk k 251 [b,c,d,e,f,g,i]::Row 95 aF b l::Fo) rs){r:Int×Bool}(hm:oQ l j=some r) :
    Calls Tryz.prog 262 [pt k 0,.string j].toArray w (Ret fun v w'=>.tuple #[.int .i64 r.1,.bool r.2]=v∧Sep w' (Blk k 251 [b,c,d,e,f,g,i]::Row 95 aF b l::Fo) (rs)):=by
 unfold oQ at hm
 refine ent Tryz.func262 rfl Tryz.ntmps262 rfl rfl fun a E=>sq<|pr 2 E rfl fun a E=>nx<|pr 4 E rfl fun a E=>lb E H 0 rfl rfl rfl rfl rfl rfl rfl U22 rfl fun a E=>pr 1 E rfl fun a E=>have H:=H.frs [0,1] rfl;bd hm fun n m hm=>?_
 refine xk E rfl rfl rfl rfl rfl Wq (oV H m) fun w H a E=>pr 4 E rfl fun a E=>nt<|wp_ret<|fX E rfl rfl rfl<|have H:=H.frs [0,1] rfl;?_
 cases hm
 exact ⟨rfl,H.reads Y0⟩

def pV(x20:Int):Option (Int×Int×ByteArray×ByteArray×Int×(List ByteArray)):=
  some ((-1),x20,(ByteArray.mk #[]),(ByteArray.mk #[]),0,[])
def mR(f:List aE)(b:Int×Bool)(g:Int)(i:ByteArray)(j:ByteArray)(k:Int)(c:List ByteArray)(d:Bool):Option (Int×Int×ByteArray×ByteArray×Int×(List ByteArray)):=
  if d=true then ((hG 63).bind fun e=>pV e) else ((idx f b.1).bind fun l=>some (b.1,g,i,j,k,c))
def mS(d:List aE)(b:Int×Bool)(f:Int)(g:ByteArray)(i:ByteArray)(j:Int)(c:List ByteArray)(e:bJ)(k:Bool):Option (Int×Int×ByteArray×ByteArray×Int×(List ByteArray)):=
  if (!b.2)=true then ((hG 62).bind fun l=>pV l) else (if k=true then (if (decide (e.Version ≥ 0))=true then ((idx d b.1).bind fun m=>mR d b f g i j c (e.Version != m.Version)) else (mR d b f g i j c false)) else (mR d b f g i j c false))
def jH(e:List aE)(f:Int)(g:ByteArray)(i:ByteArray)(j:Int)(c:List ByteArray)(b:bJ):Option (Int×Int×ByteArray×ByteArray×Int×(List ByteArray)):=
  (oQ e b.Path).bind fun d=>if (b.Kind == 3)=true then (mS e d f g i j c b true) else (if (b.Kind == 5)=true then (mS e d f g i j c b true) else (mS e d f g i j c b (b.Kind == 6)))
theorem nB{n:Nat}{c j o:Value}{p:List aE}{A B:Int}{C D:ByteArray}{l:List ByteArray}{z:bJ}(H:Sep w (Blk n 251 [c,o,.int .i64 A,.string C,.string D,.int .i64 B,j]::Row 95 aF c p::Row 9 kS j l::Fo) rs){r:Int×Int×ByteArray×ByteArray×Int×(List ByteArray)}(hm:jH p A C D B l z=some r) :
    Calls Tryz.prog 256 [pt n 0,.agg (cH z).toArray].toArray w (Ret fun v w'=>∃ Q,orp c r.1 5=v∧Sep w' (Blk n 251 [c,o,.int .i64 r.2.1,.string r.2.2.1,.string r.2.2.2.1,.int .i64 r.2.2.2.2.1,Q]::Row 95 aF c p::Row 9 kS Q r.2.2.2.2.2::Fo) (rs)):=by
 unfold jH at hm
 refine ent Tryz.func256 rfl Tryz.ntmps256 rfl rfl fun a E=>sq<|bS E H (wn rfl) rfl rfl rfl rfl rfl fun L w a H E=>pr 1 E rfl fun a E=>nx<|pr 2 E rfl fun a E=>lb E H 0 rfl rfl rfl rfl rfl rfl rfl U9 rfl fun a E=>have H:=H.frs [3,1,3,3] rfl;bd hm fun q M hm=>?_
 refine xk E rfl rfl rfl rfl rfl Iv (wO H M) fun w H a E=>pr 5 E rfl fun a E=>nt<|aT (fun a w=>∃ F s,Env 63 a [(0,pt n 0),(3,pt L 0),(5,.int .i64 q.1),(6,.bool q.2),(7,.bool F)]∧Sep w (Blk n 251 [c,o,.int .i64 A,.string C,.string D,.int .i64 B,j]::Blk L 85 (cH z)::Row 95 aF c p::Row 9 kS j l::Fo) s∧(∀ r,r ∈ rs→r ∈ s)∧mS p q A C D B l z F=some r) ?_ ?_
 ·refine wp_region_lit<|pr 1 E rfl fun a E=>lb E H 2 rfl rfl rfl rfl rfl rfl rfl U3 rfl fun a E=>pr 2 E rfl fun a E=>cs hm (fun e hm=>?_) fun e hm=>?_
  ·exact pk 10 E (kc 18 rfl e) rfl fun a E=>nt<|have H:=H.frs [3,2,3,3] rfl;⟨_,_,E.to rfl,H,Y0,hm⟩
  ·refine pk 1 E (kc 18 rfl e) rfl fun a E=>aQ E (ws' (d:=18) E rfl rfl rfl rfl e) rfl rfl (cD (i:=2) E H rfl rfl rfl rfl U3 rfl) fun a E=>pk 3 E (kc 18 rfl e) rfl fun a E=>cs hm (fun f hm=>?_) fun f hm=>?_
   ·exact pk 5 E (kc 23 rfl f) rfl fun a E=>nt<|have H:=H.frs [3,2,3,3] rfl;⟨_,_,E.to rfl,H,Y0,hm⟩
   ·exact pk 1 E (kc 23 rfl f) rfl fun a E=>aQ E (ws' (d:=23) E rfl rfl rfl rfl f) rfl rfl (cD (i:=2) E H rfl rfl rfl rfl U3 rfl) fun a E=>pk 3 E (kc 23 rfl f) rfl fun a E=>nt<|have H:=H.frs [3,2,3,3] rfl;⟨_,_,E.to rfl,H,Y0,hm⟩
 ·clear E H hm
  rintro a w ⟨F,s,E,H,m,hm⟩
  unfold mS at hm
  refine aT (fun a w=>∃ x20 t,Env 63 a []∧Sep w (Blk n 251 [c,o,.int .i64 x20,.string (ByteArray.mk #[]),.string (ByteArray.mk #[]),.int .i64 0,.slice none 0 0]::Row 95 aF c p::Fo) t∧(∀ r,r ∈ rs→r ∈ t)∧pV x20=some r) ?_ ?_
  ·refine wp_block<|sq<|pr 3 E rfl fun a E=>nt<|wif E hm rfl (fun hm=>?_) fun hm=>?_
   ·exact wp_region_lit<|pr 1 E rfl fun a E=>bd hm fun R N hm=>xk E rfl rfl rfl rfl rfl J9 (lC H N) fun w H a E=>wpList_nil<|bY<|aC<|have H:=H.drs [1,2];⟨_,_,E.nil,H,m,hm⟩
   ·refine aT (fun a w=>∃ G u,Env 63 a [(0,pt n 0),(5,.int .i64 q.1),(40,.bool G)]∧Sep w (Blk n 251 [c,o,.int .i64 A,.string C,.string D,.int .i64 B,j]::Row 95 aF c p::Row 9 kS j l::Fo) u∧(∀ r,r ∈ rs→r ∈ u)∧mR p q A C D B l G=some r) ?_ ?_
    ·refine dw [(0,0),(1,0),(2,0),(3,0),(4,0),(5,0),(6,0),(7,0),(8,0),(9,0),(10,0),(11,0),(12,0),(13,0),(14,0),(15,0),(16,0),(17,0),(18,0),(19,0),(20,1)] [0,1,2] [] H (by kernel_rfl) (fun _ _ _ h=>False.elim h.2) fun w W0 hI H=>fn 2 E rfl fun a E=>cs hm (fun g hm=>?_) fun g hm=>?_
     ·refine fk 1 E (kc 42 rfl g) rfl fun a E=>fb E rfl (ws' (d:=42) E rfl rfl rfl rfl g) rfl rfl rfl rfl mm1 rfl U2 rfl fun a E=>fk 3 E (kc 42 rfl g) rfl fun a E=>cs hm (fun b hm=>?_) fun b hm=>?_
      ·refine fk 1 E (kc 47 rfl b) rfl fun a E=>fb E rfl (ws' (d:=47) E rfl rfl rfl rfl b) rfl rfl rfl rfl mm1 rfl U2 rfl fun a E=>fk 4 E (kc 47 rfl b) rfl fun a E=>fb E rfl (ws' (d:=47) E rfl rfl rfl rfl b) rfl rfl rfl rfl m0 rfl U22 rfl fun a E=>fk 1 E (kc 47 rfl b) rfl fun a E=>bd hm fun S x hm=>?_
       obtain ⟨T,U,I⟩:=H.rowformNE (i:=2) rfl x
       refine bW E rfl (ws' (d:=47) E rfl rfl rfl rfl b) rfl rfl (fun w hW=>cY (d:=aF) E I rfl rfl rfl rfl U22 iR x) fun a E=>?_
       refine fk 1 E (kc 47 rfl b) rfl fun a E=>bW E rfl (ws' (d:=47) E rfl rfl rfl rfl b) rfl rfl (fun w hW=>W3 (d:=aF) (k:=2) E cK I x mm2 rfl rfl rfl U2 rfl hW) fun a E=>?_
       refine fk 2 E (kc 47 rfl b) rfl fun a E=>bZ rfl<|pr 1 E rfl fun a E=>nt<|?_
       refine ⟨⟨_,_,H,(aB m0 (aB mm1 (aB mm2 (aL)))),(aM)⟩,?_⟩
       refine bR<|?_
       clear hI
       exact aC<|have H:=H.drop 1;⟨_,_,E.to rfl,H,m,hm⟩
      ·refine fk 13 E (kc 47 rfl b) rfl fun a E=>bZ rfl<|pr 1 E rfl fun a E=>nt<|?_
       refine ⟨⟨_,_,H,(aB m0 (aB mm1 (aB mm2 (aL)))),(aM)⟩,?_⟩
       refine bR<|?_
       clear hI
       exact aC<|have H:=H.drop 1;⟨_,_,E.to rfl,H,m,hm⟩
     ·refine fk 18 E (kc 42 rfl g) rfl fun a E=>bZ rfl<|pr 1 E rfl fun a E=>nt<|?_
      refine ⟨⟨_,_,H,(aB m0 (aB mm1 (aB mm2 (aL)))),(aM)⟩,?_⟩
      refine bR<|?_
      clear hI
      exact aC<|have H:=H.drop 1;⟨_,_,E.to rfl,H,m,hm⟩
    ·clear E H hm
     rintro a w ⟨G,u,E,H,J,hm⟩
     unfold mR at hm
     refine wif E hm rfl (fun hm=>?_) fun hm=>?_
     ·exact wp_region_lit<|pr 1 E rfl fun a E=>bd hm fun V O hm=>xk E rfl rfl rfl rfl rfl J9 (lC H O) fun w H a E=>wpList_nil<|bY<|aC<|have H:=H.drop 2;⟨_,_,E.nil,H,J,hm⟩
     ·refine sq<|pr 4 E rfl fun a E=>lb E H 0 rfl rfl rfl rfl rfl rfl rfl U22 rfl fun a E=>pr 1 E rfl fun a E=>bd hm fun W y hm=>?_
      obtain ⟨X,Y,K⟩:=H.rowformNE (i:=1) rfl y
      refine sv E rfl rfl rfl (cY (d:=aF) E K rfl rfl rfl rfl U22 iR y) fun a E=>pr 1 E rfl fun a E=>nt<|wp_ret<|bV<|aP<|aY E rfl rfl<|?_
      cases hm
      exact ⟨_,N9 _ K y,H.reads J⟩
  ·clear E H hm
   rintro a w ⟨x20,t,E,H,P,hm⟩
   unfold pV at hm
   refine sq<|pr 1 E rfl fun a E=>nt<|wp_ret<|aY E rfl rfl<|have H:=H.nilRow 9 kS;have H:=H.frs [0,2,2] rfl;?_
   cases hm
   exact ⟨_,rfl,H.reads P⟩

def wP(e:List aE)(i:Int)(j:ByteArray)(k:ByteArray)(l:Int)(f:List ByteArray)(c:bJ):Option ((List aE)×Int×ByteArray×ByteArray×Int×(List ByteArray)):=
  (jH e i j k l f c).bind fun b=>if (decide (b.1 < 0))=true then (some (e,b.2.1,b.2.2.1,b.2.2.2.1,b.2.2.2.2.1,b.2.2.2.2.2)) else ((idx e b.1).bind fun d=>if (d.Version == 281474976710656)=true then ((hG 2).bind fun g=>some (e,g,(ByteArray.mk #[]),(ByteArray.mk #[]),0,[])) else (some ((e.set b.1.toNat ({ d with Data:=c.Data }:aE)).set b.1.toNat ({ ({ d with Data:=c.Data }:aE) with Version:=IntKind.i64.wrap ((({ d with Data:=c.Data }:aE).Version)+1) }:aE),b.2.1,b.2.2.1,b.2.2.2.1,({ ({ d with Data:=c.Data }:aE) with Version:=IntKind.i64.wrap ((({ d with Data:=c.Data }:aE).Version)+1) }:aE).Version,b.2.2.2.2.2)))
theorem T1{n:Nat}{g j l:Value}{q:List aE}{s t:Int}{u x:ByteArray}{m:List ByteArray}{e:bJ}(H:Sep w (Blk n 251 [g,l,.int .i64 s,.string u,.string x,.int .i64 t,j]::Row 95 aF g q::Row 9 kS j m::Fo) rs){r:(List aE)×Int×ByteArray×ByteArray×Int×(List ByteArray)}(hm:wP q s u x t m e=some r) :
    Calls Tryz.prog 197 [pt n 0,.agg (cH e).toArray].toArray w (Ret fun v w'=>∃ y,.tuple #[]=v∧Sep w' (Blk n 251 [g,l,.int .i64 r.2.1,.string r.2.2.1,.string r.2.2.2.1,.int .i64 r.2.2.2.2.1,y]::Row 95 aF g r.1::Row 9 kS y r.2.2.2.2.2::Fo) (rs)):=by
 unfold wP at hm
 refine ent Tryz.func197 rfl Tryz.ntmps197 rfl rfl fun a E=>sq<|bS E H (wn rfl) rfl rfl rfl rfl rfl fun z w a H E=>nx<|pr 1 E rfl fun a E=>sv E rfl rfl rfl (cA (i:=0) (us:=(cH e)) E H rfl rfl rfl rfl U85 rfl hP) fun a E=>have H:=H.frs [0,3,3,3] rfl;bd hm fun A o hm=>cG E rfl rfl rfl rfl rfl S1 (nB H o)<|?_
 rintro _ w ⟨B,rfl,H⟩ a E
 refine pr 1 E rfl fun a E=>nt<|wp_block<|sq<|pr 1 E rfl fun a E=>sv E rfl rfl rfl (Pz E Bk Bl rfl rfl rfl) fun a E=>pr 1 E rfl fun a E=>nt<|wif E hm rfl (fun hm=>?_) fun hm=>?_
 ·refine wp_skip<|bY<|oJ E rfl<|have H:=H.drop 3;?_
  cases hm
  exact ⟨_,rfl,H.reads Y0⟩
 ·refine sq<|pr 1 E rfl fun a E=>bd hm fun f b hm=>?_
  obtain ⟨C,D,c⟩:=H.rowformNE (i:=1) rfl b
  rw [N9 5 c b] at E
  refine pr 2 E rfl fun a E=>sv E rfl rfl rfl (mX (d:=aF) (i:=1) (k:=2) E H cK c rfl rfl rfl b rfl U2 rfl) fun a E=>pr 2 E rfl fun a E=>nt<|wif E hm rfl (fun hm=>?_) fun hm=>?_
  ·refine wp_region_lit<|pr 1 E rfl fun a E=>bd hm fun F p hm=>xk E rfl rfl rfl rfl rfl J9 (lC H p) fun w H a E=>wpList_nil<|bY<|oJ E rfl<|have H:=H.nilRow 9 kS;have H:=H.drs [3,3];?_
   refine have H:=H.frs [0,2,2] rfl;?_
   cases hm
   exact ⟨_,rfl,H.reads Y0⟩
  ·refine sq<|pr 2 E rfl fun a E=>lb E H 3 rfl rfl rfl rfl rfl rfl rfl U9 rfl fun a E=>pr 2 E rfl fun a E=>r6 (d:=aF) (i:=1) (k:=1) (z':=({ f with Data:=e.Data }:aE)) E H cK (wn rfl) rfl c rfl rfl rfl rfl rfl rfl b rfl rfl sz9 fun w H=>nx<|pr 3 E rfl fun a E=>sv E rfl rfl rfl (mX (d:=aF) (i:=1) (k:=2) E H cK c rfl rfl rfl (sI b) rfl U2 rfl) fun a E=>pr 3 E rfl fun a E=>?_
   refine r6 (d:=aF) (i:=1) (k:=2) (z':=({ ({ f with Data:=e.Data }:aE) with Version:=IntKind.i64.wrap ((({ f with Data:=e.Data }:aE).Version)+1) }:aE)) E H cK (wn rfl) rfl c rfl rfl rfl rfl rfl rfl (sI b) rfl rfl sz2 fun w H=>nt<|wp_region_lit<|pr 4 E rfl fun a E=>sv E rfl rfl rfl (mX (d:=aF) (i:=1) (k:=2) E H cK c rfl rfl rfl (sI (sI b)) rfl U2 rfl) fun a E=>pr 3 E rfl fun a E=>aZ (i:=0) E H (wn rfl) rfl rfl rfl rfl rfl rfl sz2 rfl rfl fun w H=>wpList_nil<|bY<|?_
   refine oJ E rfl<|have H:=H.drop 3;?_
   cases hm
   exact ⟨_,rfl,H.reads Y0⟩

def s1(x1:bJ):Option (Int×ByteArray×ByteArray×ByteArray×Int×Int×Bool):=
  some (x1.Kind,x1.Dir,x1.Path,x1.Data,x1.Version,x1.Owner,x1.Turns)
theorem P4{x1:bJ}(H:Sep w (Fo) rs){r:Int×ByteArray×ByteArray×ByteArray×Int×Int×Bool}(hm:s1 x1=some r) :
    Calls Tryz.prog 266 [.agg (cH x1).toArray].toArray w (Ret fun v w'=>∃ b,.func (.func 317) #[] #[pt b 0]=v∧Sep w' (Blk b 85 [.int .i64 r.1,.string r.2.1,.string r.2.2.1,.string r.2.2.2.1,.int .i64 r.2.2.2.2.1,.int .i64 r.2.2.2.2.2.1,.bool r.2.2.2.2.2.2]::Fo) (rs)):=by
 unfold s1 at hm
 refine ent Tryz.func266 rfl Tryz.ntmps266 rfl rfl fun a E=>sq<|bS E H (wn rfl) rfl rfl rfl rfl rfl fun c w a H E=>pr 1 E rfl fun a E=>nx<|sv E rfl rfl rfl (iP E rfl rfl rfl) fun a E=>pr 1 E rfl fun a E=>nt<|wp_ret<|?_
 refine aY E rfl rfl<|?_
 cases hm
 exact ⟨_,rfl,H.reads Y0⟩

def xF(x1:aE)(c:ByteArray):Option Bool:=
  (qM x1.Path).bind fun b=>if b.2=true then (some (sEq b.1 c)) else (some (false))
theorem F5{x1:aE}{l:Nat}{m:ByteArray}{c e f g j k:Value}(H:Sep w (Blk l 85 [c,e,.string m,f,g,j,k]::Fo) rs){r:Bool}(hm:xF x1 m=some r) :
    Calls Tryz.prog 317 [.agg (iQ x1).toArray,pt l 0].toArray w (Ret fun v w'=>.bool r=v∧Sep w' (Blk l 85 [c,e,.string m,f,g,j,k]::Fo) (rs)):=by
 unfold xF at hm
 refine ent Tryz.func317 rfl Tryz.ntmps317 rfl rfl fun a E=>sq<|bS E H (wn rfl) rfl rfl rfl rfl rfl fun o w a H E=>pr 1 E rfl fun a E=>nx<|pr 1 E rfl fun a E=>lb E H 0 rfl rfl rfl rfl rfl rfl rfl U9 rfl fun a E=>bd hm fun p n hm=>xk E rfl rfl rfl rfl rfl Dw (xJ H n) fun w H a E=>?_
 refine pr 5 E rfl fun a E=>nx<|pr 2 E rfl fun a E=>cs hm (fun b hm=>?_) fun b hm=>?_
 ·refine pk 2 E (kc 13 rfl b) rfl fun a E=>aQ E (ws' (d:=13) E rfl rfl rfl rfl b) rfl rfl (cD (i:=1) E H rfl rfl rfl rfl U9 rfl) fun a E=>pk 3 E (kc 13 rfl b) rfl fun a E=>nt<|wp_ret<|aY E rfl rfl<|have H:=H.drop 0;?_
  cases hm
  exact ⟨rfl,H.reads Y0⟩
 ·refine pk 6 E (kc 13 rfl b) rfl fun a E=>nt<|wp_ret<|aY E rfl rfl<|have H:=H.drop 0;?_
  cases hm
  exact ⟨rfl,H.reads Y0⟩

def xG(b:ByteArray):Option ByteArray:=
  (x9 b).bind fun c=>some (c.2.1)
theorem F6{b:ByteArray}(H:Sep w (Fo) rs){r:ByteArray}(hm:xG b=some r) :
    Calls Tryz.prog 261 [.string b].toArray w (Ret fun v w'=>.string r=v∧Sep w' (Fo) (rs)):=by
 unfold xG at hm
 refine ent Tryz.func261 rfl Tryz.ntmps261 rfl rfl fun a E=>sq<|pr 1 E rfl fun a E=>nx<|pr 1 E rfl fun a E=>bd hm fun d c hm=>xk E rfl rfl rfl rfl rfl Mp (Bp H c) fun w H a E=>pr 7 E rfl fun a E=>nx<|?_
 refine pr 2 E rfl fun a E=>nt<|wp_ret<|aY E rfl rfl<|?_
 cases hm
 exact ⟨rfl,H.reads Y0⟩

def nL(b:Bool)(c:(List ByteArray)):Option (Bool×(List ByteArray)):=
  some (b,c)
def nM(x1:aE)(b:List ByteArray)(c:Bool):Option (Bool×(List ByteArray)):=
  if c=true then ((xG x1.Path).bind fun d=>(ck (b.length+([d]:List ByteArray).length ≤ LIM)).bind fun e=>nL c (b ++ ([d]:List ByteArray))) else (nL c b)
def pW(x1:aE)(e:Int)(c:ByteArray)(b:List ByteArray):Option (Bool×(List ByteArray)):=
  if (x1.Owner == e)=true then ((xF x1 c).bind fun d=>nM x1 b d) else (nM x1 b false)
theorem zL{x1:aE}{P j c g f:Nat}{Q:Int}{k:ByteArray}{o p q s t u y z A B C D F G I J K L M:Value}{N:List ByteArray}(H:Sep w (Blk P 85 [p,q,s,t,u,.int .i64 Q,y]::Blk j 107 [.func (.func 317) #[] #[pt c 0]]::Blk c 85 [z,A,.string k,B,C,D,F]::Blk g 248 [pt f 0]::Blk f 251 [G,I,J,K,L,M,o]::Row 9 kS o N::Fo) rs){r:Bool×(List ByteArray)}(hm:pW x1 Q k N=some r) :
    Calls Tryz.prog 269 [.agg (iQ x1).toArray,pt P 0,pt j 0,pt g 0].toArray w (Ret fun v w'=>∃ Z,.bool r.1=v∧Sep w' (Blk P 85 [p,q,s,t,u,.int .i64 Q,y]::Blk j 107 [.func (.func 317) #[] #[pt c 0]]::Blk c 85 [z,A,.string k,B,C,D,F]::Blk g 248 [pt f 0]::Blk f 251 [G,I,J,K,L,M,Z]::Row 9 kS Z r.2::Fo) (rs)):=by
 unfold pW at hm
 refine ent Tryz.func269 rfl Tryz.ntmps269 rfl rfl fun a E=>sq<|bS E H (wn rfl) rfl rfl rfl rfl rfl fun U w a H E=>pr 1 E rfl fun a E=>nt<|aT (fun a w=>∃ l m,Env 33 a [(3,pt g 0),(4,pt U 0),(6,.bool l)]∧Sep w (Blk g 248 [pt f 0]::Blk U 95 (iQ x1)::Blk P 85 [p,q,s,t,u,.int .i64 Q,y]::Blk j 107 [.func (.func 317) #[] #[pt c 0]]::Blk c 85 [z,A,.string k,B,C,D,F]::Blk f 251 [G,I,J,K,L,M,o]::Row 9 kS o N::Fo) m∧(∀ r,r ∈ rs→r ∈ m)∧nM x1 N l=some r) ?_ ?_
 ·refine wp_region_lit<|pr 1 E rfl fun a E=>lb E H 0 rfl rfl rfl rfl rfl rfl rfl U2 rfl fun a E=>pr 1 E rfl fun a E=>lb E H 1 rfl rfl rfl rfl rfl rfl rfl U2 rfl fun a E=>pr 2 E rfl fun a E=>cs hm (fun b hm=>?_) fun b hm=>?_
  ·refine aQ E (ws' (d:=12) E rfl rfl rfl rfl b) rfl rfl (cD (i:=2) E H rfl rfl rfl rfl Zq rfl) fun a E=>aQ E (ws' (d:=12) E rfl rfl rfl rfl b) rfl rfl (cA (i:=0) (us:=(iQ x1)) E H rfl rfl rfl rfl U95 rfl iR) fun a E=>have H:=H.frs [6,6,6,5,5,5,6] rfl;bd hm fun b0 V hm=>aU E (ws' (d:=12) E rfl rfl rfl rfl b) rfl rfl (bP E rfl rfl rfl (It _)) (F5 H V)<|?_
   rintro _ w ⟨rfl,H⟩ a E
   exact pk 2 E (kc 12 rfl b) rfl fun a E=>nt<|have H:=H.frs [6,6,2,5,5,5,6] rfl;⟨_,_,E.to rfl,H,Y0,hm⟩
  ·exact pk 5 E (kc 12 rfl b) rfl fun a E=>nt<|have H:=H.frs [6,6,5,5,5,5,6] rfl;⟨_,_,E.to rfl,H,Y0,hm⟩
 ·clear E H hm
  rintro a w ⟨l,m,E,H,R,hm⟩
  unfold nM at hm
  refine aT (fun a w=>∃ S T n,Env 33 a [(6,.bool l)]∧Sep w (Blk P 85 [p,q,s,t,u,.int .i64 Q,y]::Blk j 107 [.func (.func 317) #[] #[pt c 0]]::Blk c 85 [z,A,.string k,B,C,D,F]::Blk g 248 [pt f 0]::Blk f 251 [G,I,J,K,L,M,S]::Row 9 kS S T::Fo) n∧(∀ r,r ∈ rs→r ∈ n)∧nL l T=some r) ?_ ?_
  ·refine sq<|pr 1 E rfl fun a E=>nt<|wif E hm rfl (fun hm=>?_) fun hm=>?_
   ·refine dw [(0,0),(1,0),(2,0),(3,0),(4,0),(5,0),(6,0),(7,0),(8,1),(9,1),(10,1),(11,2),(12,2),(13,2),(14,2)] [0,1,5] [] H (by kernel_rfl) (fun _ _ _ h=>False.elim h.2) fun w W0 hI H=>fb E rfl (wn rfl) rfl rfl rfl rfl m0 rfl Is rfl fun a E=>fb E rfl (wn rfl) rfl rfl rfl rfl m0 rfl Is rfl fun a E=>fn 3 E rfl fun a E=>fb E rfl (wn rfl) rfl rfl rfl rfl mm2 rfl U33 rfl fun a E=>fn 1 E rfl fun a E=>fb E rfl (wn rfl) rfl rfl rfl rfl mm1 rfl U9 rfl fun a E=>bZ rfl<|bd hm fun O W hm=>?_
    refine xk E rfl rfl rfl rfl rfl Iu (F6 H W) fun w H a E=>nt<|?_
    refine ⟨⟨_,_,H,(aB m0 (aB mm1 (aB mm5 (aL)))),(aM)⟩,?_⟩
    refine bZ rfl<|pI (e:=9) (d:=kS) (cs:=[.string O]) (xs:=[O]) E H (wn rfl) rfl rfl rfl (E.evs rfl) (by kernel_rfl) rfl (fun ok hr=>(Rows.single (d:=kS) (cs:=[.string O]) (x:=O) rfl)) fun b1 w a H E=>nt<|?_
    refine ⟨⟨_,_,H,(aB m0 (aB mm1 (aB mm5 (aL)))),(aM)⟩,?_⟩
    refine bZ rfl<|bk hm fun X hm=>dV (i:=6) E H (wn rfl) rfl rfl rfl rfl rfl rfl (jA m0) U33 Ia rfl X rfl fun b2 w a H E=>nt<|?_
    refine ⟨⟨_,_,H,(aB m0 (aB mm1 (aB mm5 (aL)))),(aM)⟩,?_⟩
    refine bQ rfl<|pr 1 E rfl fun a E=>nt<|bQ rfl<|pr 1 E rfl fun a E=>nt<|bQ rfl<|pr 1 E rfl fun a E=>nt<|?_
    refine bQ rfl<|?_
    obtain ⟨q63,b3,rfl⟩:=H.rowform (i:=6) rfl
    refine aZ (i:=5) E H (wn rfl) rfl rfl rfl rfl rfl rfl Sk rfl rfl fun w H=>nt<|bR<|?_
    clear hI
    exact aC<|have H:=H.drop 1;have H:=H.frs [5,5,2,5,5,5] rfl;X3 ⟨E.to rfl,H,(Y1 R),hm⟩
   ·exact wp_skip<|aC<|have H:=H.drop 1;have H:=H.frs [5,5,2,5,5,5] rfl;X3 ⟨E.to rfl,H,R,hm⟩
  ·clear E H hm
   rintro a w ⟨S,T,n,E,H,Y,hm⟩
   unfold nL at hm
   refine sq<|pr 2 E rfl fun a E=>nt<|wp_ret<|aY E rfl rfl<|?_
   cases hm
   exact ⟨_,rfl,H.reads Y⟩

def eR(f:List aE)(g:Int)(d:ByteArray):Nat→Int→(List ByteArray)→Option (Int×(List ByteArray))
  | 0,_,_=>none
  | j+1,b,e=>
    if (decide (b < (f.length:Int)))=true then ((idx f b).bind fun i=>(pW i g d e).bind fun c=>if c.1=true then (some (b,c.2)) else (eR f g d j (IntKind.i64.wrap (b+1)) c.2)) else (some ((-1),e))
def iH(b:List aE)(e:Int)(c:ByteArray)(d:List ByteArray):Option (Int×(List ByteArray)):=
  eR b e c (((b.length:Int) - 0:Int).toNat+1) 0 d
theorem tT{e S q s t u x y z A B C D F G I J K L:Value}{l:List aE}{M f b g c:Nat}{N:Int}{j:ByteArray}{T:List ByteArray}(H:Sep w (Row 95 aF e l::Blk M 85 [q,s,t,u,x,.int .i64 N,y]::Blk f 107 [.func (.func 317) #[] #[pt b 0]]::Blk b 85 [z,A,.string j,B,C,D,F]::Blk g 248 [pt c 0]::Blk c 251 [e,G,I,J,K,L,S]::Row 9 kS S T::Fo) rs){r:Int×(List ByteArray)}(hm:iH l N j T=some r) :
    Calls Tryz.prog 105 [e,.func (.func 269) #[] #[pt M 0,pt f 0,pt g 0]].toArray w (Ret fun v w'=>∃ V,.int .i64 r.1=v∧Sep w' (Blk M 85 [q,s,t,u,x,.int .i64 N,y]::Blk f 107 [.func (.func 317) #[] #[pt b 0]]::Blk b 85 [z,A,.string j,B,C,D,F]::Blk g 248 [pt c 0]::Blk c 251 [e,G,I,J,K,L,V]::Row 95 aF e l::Row 9 kS V r.2::Fo) (rs)):=by
 unfold iH at hm
 refine ent Tryz.func105 rfl Tryz.ntmps105 rfl rfl fun a E=>sq<|pr 1 E rfl fun a E=>nt<|wp_seq<|sq<|pr 1 E rfl fun a E=>sv E rfl rfl rfl (iZ (i:=0) E H rfl rfl rfl U22) fun a E=>pr 1 E rfl fun a E=>?_
 refine nt<|wp_block<|bX (fun p a w=>∃ O P Q m,Env 19 a [(0,e),(1,.func (.func 269) #[] #[pt M 0,pt f 0,pt g 0]),(7,.int .i64 (l.length:Int)),(8,.int .i64 P)]∧Sep w (Row 95 aF e l::Blk M 85 [q,s,t,u,x,.int .i64 N,y]::Blk f 107 [.func (.func 317) #[] #[pt b 0]]::Blk g 248 [pt c 0]::Blk b 85 [z,A,.string j,B,C,D,F]::Blk c 251 [e,G,I,J,K,L,O]::Row 9 kS O Q::Fo) m∧(∀ r,r ∈ rs→r ∈ m)∧eR l N j p P Q=some r) (((l.length:Int) - 0:Int).toNat+1) ?_ ?_
 ·exact have H:=H.frs [6,6,5,6,6,6,6] rfl;X4 ⟨E.to rfl,H,Y0,hm⟩
 ·clear E H hm
  rintro p a w ⟨O,P,Q,m,E,H,n,hm⟩
  cases p with
  | zero=>exact (bT hm rfl).elim
  | succ p=>
   unfold eR at hm
   refine sq<|pr 1 E rfl fun a E=>nt<|wp_seq<|wif E hm rfl (fun hm=>?_) fun hm=>?_
   ·refine wp_skip<|aC<|wp_seq<|wp_block<|sq<|pr 2 E rfl fun a E=>nx<|pr 3 E rfl fun a E=>bd hm fun k o hm=>?_
    obtain ⟨W,X,R⟩:=H.rowformNE (i:=0) rfl o
    refine sv E rfl rfl rfl (cY (d:=aF) E R rfl rfl rfl rfl U22 iR o) fun a E=>sv E rfl rfl rfl (fZ (i:=0) E H cK R rfl rfl rfl o (us:=[.string k.Path,.string k.Data,.int .i64 k.Version,.int .i64 k.Turn,.int .i64 k.Owner]) rfl U95 rfl iR) fun a E=>have H:=H.frs [0,6,6,5,6,6,6] rfl;bd hm fun Y U hm=>aU E (wn rfl) rfl rfl (bP E rfl rfl rfl (Mw _)) (zL H U)<|?_
    rintro _ w ⟨Z,rfl,H⟩ a E
    refine nt<|wif E hm rfl (fun hm=>?_) fun hm=>?_
    ·refine sq<|pr 2 E rfl fun a E=>nt<|wp_ret<|bV<|aP<|aP<|bV<|aP<|?_
     refine aY E rfl rfl<|have H:=H.frs [5,6,6,6,6,6,6] rfl;?_
     cases hm
     exact ⟨_,rfl,H.reads n⟩
    ·exact wp_skip<|bY<|aC<|wp_region_lit<|pr 2 E rfl fun a E=>nt<|have H:=H.frs [5,5,4,5,5,5,6] rfl;⟨p,Nat.lt_succ_self p,X4 ⟨E.to rfl,H,n,hm⟩⟩
   ·refine wp_exit<|bH<|bH<|dG<|aC<|sq<|pr 1 E rfl fun a E=>nt<|wp_ret<|?_
    refine aY E rfl rfl<|have H:=H.frs [6,1,6,5,6,6,6] rfl;?_
    cases hm
    exact ⟨_,rfl,H.reads n⟩

def fI(rec_1:(List aE)→Int→Int→(List ByteArray)→Option ((List aE)×(List ByteArray)))(b:Int)(c:(List aE))(d:Int)(e:(List ByteArray)):Option ((List aE)×(List ByteArray)):=
  rec_1 c d (IntKind.i64.wrap (b+1)) e
def dR(j:Int)(e:ByteArray):Nat→(List aE)→Int→Int→(List ByteArray)→Option ((List aE)×(List ByteArray))
  | 0,_,_,_,_=>none
  | k+1,c,b,d,g=>
    if (decide (d < (c.length:Int)))=true then ((idx c d).bind fun i=>(pW i j e g).bind fun f=>if (!f.1)=true then ((idx c b).bind fun l=>fI (dR j e k) d (c.set b.toNat i) (IntKind.i64.wrap (b+1)) f.2) else (fI (dR j e k) d c b f.2)) else ((ck (0 ≤ b∧b ≤ c.length)).bind fun m=>(ck (0 ≤ b∧b ≤ (c.take b.toNat ++ List.replicate (c.length - b.toNat) (⟨⟨#[]⟩,⟨#[]⟩,0,0,0⟩:aE)).length)).bind fun n=>some ((c.take b.toNat ++ List.replicate (c.length - b.toNat) (⟨⟨#[]⟩,⟨#[]⟩,0,0,0⟩:aE)).take b.toNat,g))
def iU(c:List aE)(e:Int)(d:ByteArray)(f:List ByteArray):Option ((List aE)×(List ByteArray)):=
  (iH c e d f).bind fun b=>if (b.1 == (-1))=true then (some (c,b.2)) else (dR e d (((c.length:Int) - (IntKind.i64.wrap (b.1+1)):Int).toNat+1) c b.1 (IntKind.i64.wrap (b.1+1)) b.2)
theorem uQ{k b1 x y z A B C D F G I J K L M N O P:Value}{b3:List aE}{m f c g e:Nat}{n:Int}{j:ByteArray}{b2:List ByteArray}(H:Sep w (Row 95 aF k b3::Blk m 85 [x,y,z,A,B,.int .i64 n,C]::Blk f 107 [.func (.func 317) #[] #[pt c 0]]::Blk c 85 [D,F,.string j,G,I,J,K]::Blk g 248 [pt e 0]::Blk e 251 [k,L,M,N,O,P,b1]::Row 9 kS b1 b2::Fo) rs){r:(List aE)×(List ByteArray)}(hm:iU b3 n j b2=some r) :
    Calls Tryz.prog 268 [k,.func (.func 269) #[] #[pt m 0,pt f 0,pt g 0]].toArray w (Ret fun v w'=>∃ b8 b9,b8=v∧Sep w' (Row 95 aF b8 r.1::Blk m 85 [x,y,z,A,B,.int .i64 n,C]::Blk f 107 [.func (.func 317) #[] #[pt c 0]]::Blk c 85 [D,F,.string j,G,I,J,K]::Blk g 248 [pt e 0]::Blk e 251 [k,L,M,N,O,P,b9]::Row 9 kS b9 r.2::Fo) (rs)):=by
 unfold iU at hm
 refine ent Tryz.func268 rfl Tryz.ntmps268 rfl rfl fun a E=>sq<|pr 1 E rfl fun a E=>nx<|pr 2 E rfl fun a E=>bd hm fun c0 b4 hm=>cG E rfl rfl rfl rfl rfl Hx (tT H b4)<|?_
 rintro _ w ⟨c1,rfl,H⟩ a E
 refine pr 1 E rfl fun a E=>nt<|wp_seq<|sq<|pr 2 E rfl fun a E=>nt<|wif E hm rfl (fun hm=>?_) fun hm=>?_
 ·refine sq<|pr 2 E rfl fun a E=>nt<|wp_ret<|aP<|aY E rfl rfl<|have H:=H.frs [6,5,5,5,5,5,6] rfl;?_
  cases hm
  exact ⟨_,_,rfl,H.reads Y0⟩
 ·refine wp_skip<|aC<|wp_seq<|sq<|pr 3 E rfl fun a E=>nt<|wp_block<|bX (fun o a w=>∃ Q R S l T p,Env 42 a [(0,k),(1,.func (.func 269) #[] #[pt m 0,pt f 0,pt g 0]),(5,.int .i64 S),(6,.int .i64 l)]∧Sep w (Row 95 aF k R::Blk m 85 [x,y,z,A,B,.int .i64 n,C]::Blk f 107 [.func (.func 317) #[] #[pt c 0]]::Blk g 248 [pt e 0]::Blk c 85 [D,F,.string j,G,I,J,K]::Blk e 251 [k,L,M,N,O,P,Q]::Row 9 kS Q T::Fo) p∧(∀ r,r ∈ rs→r ∈ p)∧dR n j o R S l T=some r) (((b3.length:Int) - (IntKind.i64.wrap (c0.1+1)):Int).toNat+1) ?_ ?_
  ·exact have H:=H.frs [6,5,4,5,5,5,6] rfl;X6 ⟨E.to rfl,H,Y0,hm⟩
  ·clear E H hm
   rintro o a w ⟨Q,R,S,l,T,p,E,H,q,hm⟩
   cases o with
   | zero=>exact (bT hm rfl).elim
   | succ o=>
    unfold dR at hm
    refine wp_seq<|sq<|pr 2 E rfl fun a E=>sv E rfl rfl rfl (iZ (i:=0) E H rfl rfl rfl U22) fun a E=>pr 1 E rfl fun a E=>nt<|wif E hm rfl (fun hm=>?_) fun hm=>?_
    ·refine wp_skip<|aC<|aT (fun a w=>∃ U V W X s,Env 42 a [(0,k),(1,.func (.func 269) #[] #[pt m 0,pt f 0,pt g 0]),(5,.int .i64 W),(6,.int .i64 l)]∧Sep w (Row 95 aF k V::Blk m 85 [x,y,z,A,B,.int .i64 n,C]::Blk f 107 [.func (.func 317) #[] #[pt c 0]]::Blk g 248 [pt e 0]::Blk c 85 [D,F,.string j,G,I,J,K]::Blk e 251 [k,L,M,N,O,P,U]::Row 9 kS U X::Fo) s∧(∀ r,r ∈ rs→r ∈ s)∧fI (dR n j o) l V W X=some r) ?_ ?_
     ·refine wp_block<|sq<|pr 2 E rfl fun a E=>bd hm fun b t hm=>?_
      obtain ⟨c2,c3,Y⟩:=H.rowformNE (i:=0) rfl t
      refine sv E rfl rfl rfl (cY (d:=aF) E Y rfl rfl rfl rfl U22 iR t) fun a E=>sv E rfl rfl rfl (fZ (i:=0) E H cK Y rfl rfl rfl t (us:=[.string b.Path,.string b.Data,.int .i64 b.Version,.int .i64 b.Turn,.int .i64 b.Owner]) rfl U95 rfl iR) fun a E=>al E H rfl rfl rfl rfl Lu fun c4 w a H E=>aZ (i:=0) E H (wn rfl) rfl rfl rfl rfl rfl rfl iR rfl rfl fun w H=>nx<|pr 1 E rfl fun a E=>sv E rfl rfl rfl (cA (i:=0) (us:=(iQ b)) E H rfl rfl rfl rfl U95 rfl iR) fun a E=>have H:=H.frs [1,1,7,7,6,7,7,7] rfl;bd hm fun c5 b5 hm=>?_
      refine aU E (wn rfl) rfl rfl (bP E rfl rfl rfl (Mw _)) (zL H b5)<|?_
      rintro _ w ⟨c6,rfl,H⟩ a E
      refine pr 1 E rfl fun a E=>nt<|wif E hm rfl (fun hm=>?_) fun hm=>?_
      ·refine sq<|pr 2 E rfl fun a E=>sv E rfl rfl rfl (cA (i:=6) (us:=(iQ b)) E H rfl rfl rfl rfl U95 rfl iR) fun a E=>bd hm fun c7 u hm=>?_
       obtain ⟨c8,c9,Z⟩:=H.rowformNE (i:=7) rfl u
       refine sv E rfl rfl rfl (cY (d:=aF) E Z rfl rfl rfl rfl U22 iR u) fun a E=>yO (d:=aF) (i:=7) (us:=[.string b.Path,.string b.Data,.int .i64 b.Version,.int .i64 b.Turn,.int .i64 b.Owner]) (z':=b) E H cK (wn rfl) rfl Z rfl rfl rfl rfl rfl rfl rfl u iR fun w H=>nt<|wp_region_lit<|pr 3 E rfl fun a E=>wpList_nil<|bY<|aC<|have H:=H.drop 6;?_
       exact have H:=H.frs [5,5,4,5,5,5,6] rfl;X5 ⟨E.to rfl,H,q,hm⟩
      ·exact wp_skip<|bY<|aC<|have H:=H.drop 6;have H:=H.frs [5,5,4,5,5,5,6] rfl;X5 ⟨E.to rfl,H,q,hm⟩
     ·clear E H hm
      rintro a w ⟨U,V,W,X,s,E,H,b6,hm⟩
      unfold fI at hm
      exact wp_region_lit<|pr 3 E rfl fun a E=>nt<|⟨o,Nat.lt_succ_self o,X6 ⟨E.to rfl,H,b6,hm⟩⟩
    ·refine wp_exit<|bH<|bH<|dG<|aC<|sq<|pr 2 E rfl fun a E=>bk hm fun b0 hm=>sv E rfl rfl rfl (J6 (d:=aF) (i:=0) E H rfl rfl rfl rfl U22 iR b0) fun a E=>?_
     refine q4 (i:=0) (z0:=(⟨⟨#[]⟩,⟨#[]⟩,0,0,0⟩:aE)) E H cK (wn rfl) rfl rfl rfl U22 Wn rfl rfl rfl b0 fun w H=>nx<|pr 2 E rfl fun a E=>bk hm fun b7 hm=>C8 (i:=0) E H cK (wn rfl) rfl rfl rfl rfl rfl rfl U22 iR b7 fun d0 a H E=>pr 1 E rfl fun a E=>nt<|wp_ret<|aY E rfl rfl<|?_
     refine have H:=H.frs [6,6,5,6,6,6,6] rfl;?_
     cases hm
     exact ⟨_,_,rfl,H.reads q⟩

def wQ(f:List aE)(d:List ByteArray)(b:bJ):Option ((List aE)×(List ByteArray)):=
  (s1 b).bind fun e=>(iU f b.Owner e.2.2.1 d).bind fun c=>some (c.1,c.2)
theorem T2{l:Nat}{o c d e f g j:Value}{p:List aE}{k:List ByteArray}{b:bJ}(H:Sep w (Blk l 251 [o,d,e,f,g,j,c]::Row 95 aF o p::Row 9 kS c k::Fo) rs){r:(List aE)×(List ByteArray)}(hm:wQ p k b=some r) :
    Calls Tryz.prog 202 [pt l 0,.agg (cH b).toArray].toArray w (Ret fun v w'=>∃ q s,.tuple #[]=v∧Sep w' (Blk l 251 [q,d,e,f,g,j,s]::Row 95 aF q r.1::Row 9 kS s r.2::Fo) (rs)):=by
 unfold wQ at hm
 refine ent Tryz.func202 rfl Tryz.ntmps202 rfl rfl fun a E=>sq<|bS E H (wn rfl) rfl rfl rfl rfl rfl fun t w a H E=>bS E H (wn rfl) rfl rfl rfl rfl rfl fun u w a H E=>nx<|sv E rfl rfl rfl (cA (i:=0) (us:=(cH b)) E H rfl rfl rfl rfl U85 rfl hP) fun a E=>bd hm fun x m hm=>cG E rfl rfl rfl rfl rfl Ir (P4 H m)<|?_
 rintro _ w ⟨y,rfl,H⟩ a E
 refine al1 E H rfl rfl rfl rfl Wk rfl fun z w a H E=>aZ (i:=0) E H (wn rfl) rfl rfl rfl rfl rfl rfl Wl rfl rfl fun w H=>nt<|dw [(6,0),(0,0),(1,1),(2,0),(3,0),(4,0),(5,1),(7,1),(8,2),(9,2),(10,2),(11,2)] [3] [] H (by kernel_rfl) (fun _ _ _ h=>False.elim h.2) fun w W0 hI H=>bW E rfl (wn rfl) rfl rfl (fun w hW=>(iP E rfl rfl rfl)) fun a E=>?_
 refine fb E rfl (wn rfl) rfl rfl rfl rfl m0 rfl Is rfl fun a E=>bZ rfl<|lb E H 3 rfl rfl rfl rfl rfl rfl rfl Is rfl fun a E=>nt<|?_
 refine ⟨⟨_,_,H,(aB mm3 (aL)),(aM)⟩,?_⟩
 refine fn 3 E rfl fun a E=>bZ rfl<|lb E H 4 rfl rfl rfl rfl rfl rfl rfl U22 rfl fun a E=>nt<|?_
 refine ⟨⟨_,_,H,(aB mm3 (aL)),(aM)⟩,?_⟩
 refine bZ rfl<|have H:=H.frs [6,5,5,4,4,5,6] rfl;bd hm fun A n hm=>cG E rfl rfl rfl rfl rfl Wm (uQ H n)<|?_
 rintro _ w ⟨B,C,rfl,H⟩ a E
 refine nt<|?_
 refine ⟨⟨_,_,H,(aB mm4 (aL)),(aM)⟩,?_⟩
 refine bQ rfl<|pr 1 E rfl fun a E=>nt<|bQ rfl<|pr 1 E rfl fun a E=>nt<|bQ rfl<|pr 1 E rfl fun a E=>nt<|?_
 refine bQ rfl<|?_
 obtain ⟨q28,D,rfl⟩:=H.rowform (i:=0) rfl
 refine aZ (i:=5) E H (wn rfl) rfl rfl rfl rfl rfl rfl Cj rfl rfl fun w H=>nt<|bR<|?_
 clear hI
 refine oJ E rfl<|have H:=H.drs [1,1,1,1];have H:=H.frs [2,1,2] rfl;?_
 cases hm
 exact ⟨_,_,rfl,H.reads Y0⟩

def zM:Option Unit:=
  some ()
theorem M7{b:Value}(H:Sep w (Fo) rs){r:Unit}(hm:zM=some r) :
    Calls Tryz.prog 267 [b].toArray w (Ret fun v w'=>.int .i64 0=v∧Sep w' (Fo) (rs)):=by
 unfold zM at hm
 refine ent Tryz.func267 rfl Tryz.ntmps267 rfl rfl fun a E=>sq<|pr 1 E rfl fun a E=>nx<|pr 1 E rfl fun a E=>nt<|wp_ret<|aY E rfl rfl<|?_
 cases hm
 exact ⟨rfl,H.reads Y0⟩

def qS(x1:aI)(b:ByteArray):Option Int:=
  (jZ x1.Dir b).bind fun c=>some (c)
theorem s2{x1:aI}{b:ByteArray}(H:Sep w (Fo) rs){r:Int}(hm:qS x1 b=some r) :
    Calls Tryz.prog 309 [.agg #[.string x1.Dir,.int .i64 x1.Next],.string b].toArray w (Ret fun v w'=>.int .i64 r=v∧Sep w' (Fo) (rs)):=by
 unfold qS at hm
 refine ent Tryz.func309 rfl Tryz.ntmps309 rfl rfl fun a E=>sq<|bS E H (wn rfl) rfl rfl rfl rfl rfl fun d w a H E=>pr 1 E rfl fun a E=>nx<|pr 1 E rfl fun a E=>lb E H 0 rfl rfl rfl rfl rfl rfl rfl U9 rfl fun a E=>pr 1 E rfl fun a E=>bd hm fun e c hm=>?_
 refine xk E rfl rfl rfl rfl rfl Fu (oP H c) fun w H a E=>pr 1 E rfl fun a E=>nt<|wp_ret<|aY E rfl rfl<|have H:=H.drop 0;?_
 cases hm
 exact ⟨rfl,H.reads Y0⟩

def dC(c:List aI)(e:ByteArray):Nat→Int→Int→Option (Int×Bool)
  | 0,_,_=>none
  | f+1,b,d=>
    if (decide (b < d))=true then ((idx c (IntKind.i64.wrap (pH .u64 (IntKind.u64.wrap (IntKind.i64.wrap (b+d))) 1))).bind fun k=>(qS k e).bind fun g=>if (decide (g < 0))=true then (dC c e f (IntKind.i64.wrap ((IntKind.i64.wrap (pH .u64 (IntKind.u64.wrap (IntKind.i64.wrap (b+d))) 1))+1)) d) else (dC c e f b (IntKind.i64.wrap (pH .u64 (IntKind.u64.wrap (IntKind.i64.wrap (b+d))) 1)))) else (if (decide (b < (c.length:Int)))=true then ((idx c b).bind fun i=>(qS i e).bind fun j=>some (b,j == 0)) else (some (b,false)))
def dJ(b:List aI)(c:ByteArray):Option (Int×Bool):=
  dC b c (((b.length:Int) - 0:Int).toNat+1) 0 (b.length:Int)
theorem fJ{j:Value}{e:List aI}{o:ByteArray}(H:Sep w (Row 77 aJ j e::Fo) rs){r:Int×Bool}(hm:dJ e o=some r) :
    Calls Tryz.prog 308 [j,.string o,.func (.func 309) #[] #[]].toArray w (Ret fun v w'=>.tuple #[.int .i64 r.1,.bool r.2]=v∧Sep w' (Row 77 aJ j e::Fo) (rs)):=by
 unfold dJ at hm
 refine ent Tryz.func308 rfl Tryz.ntmps308 rfl rfl fun a E=>sq<|pr 2 E rfl fun a E=>nx<|pr 1 E rfl fun a E=>sv E rfl rfl rfl (iZ (i:=0) E H rfl rfl rfl U23) fun a E=>pr 1 E rfl fun a E=>nx<|pr 3 E rfl fun a E=>?_
 refine nt<|wp_seq<|wp_block<|bX (fun c a w=>∃ q s k,Env 49 a [(0,j),(1,.string o),(2,.func (.func 309) #[] #[]),(8,.int .i64 (e.length:Int)),(9,.int .i64 q),(10,.int .i64 s)]∧Sep w (Row 77 aJ j e::Fo) k∧(∀ r,r ∈ rs→r ∈ k)∧dC e o c q s=some r) (((e.length:Int) - 0:Int).toNat+1) ?_ ?_
 ·exact X3 ⟨E.to rfl,H,Y0,hm⟩
 ·clear E H hm
  rintro c a w ⟨q,s,k,E,H,g,hm⟩
  cases c with
  | zero=>exact (bT hm rfl).elim
  | succ c=>
   unfold dC at hm
   refine wp_seq<|sq<|pr 3 E rfl fun a E=>nt<|wif E hm rfl (fun hm=>?_) fun hm=>?_
   ·refine wp_skip<|aC<|wp_block<|sq<|pr 4 E rfl fun a E=>sv E rfl rfl rfl (J4 E rfl rfl rfl (by decide)) fun a E=>pr 2 E rfl fun a E=>nx<|pr 3 E rfl fun a E=>?_
    refine bd hm fun x l hm=>?_
    obtain ⟨y,z,m⟩:=H.rowformNE (i:=0) rfl l
    refine sv E rfl rfl rfl (cY (d:=aJ) E m rfl rfl rfl rfl U23 oK l) fun a E=>sv E rfl rfl rfl (fZ (i:=0) E H dI m rfl rfl rfl l (us:=[.string x.Dir,.int .i64 x.Next]) rfl U77 rfl oK) fun a E=>pr 1 E rfl fun a E=>bd hm fun A t hm=>aU E (wn rfl) rfl rfl (bP E rfl rfl rfl (My _)) (s2 H t)<|?_
    rintro _ w ⟨rfl,H⟩ a E
    refine pr 1 E rfl fun a E=>nt<|wif E hm rfl (fun hm=>?_) fun hm=>?_
    ·exact wp_region_lit<|pr 3 E rfl fun a E=>wpList_nil<|bY<|aC<|⟨c,Nat.lt_succ_self c,X3 ⟨E.to rfl,H,g,hm⟩⟩
    ·exact wp_region_lit<|pr 2 E rfl fun a E=>wpList_nil<|bY<|aC<|⟨c,Nat.lt_succ_self c,X3 ⟨E.to rfl,H,g,hm⟩⟩
   ·refine wp_exit<|bH<|bH<|dG<|aC<|sq<|pr 5 E rfl fun a E=>cs hm (fun b hm=>?_) fun b hm=>?_
    ·refine pk 3 E (kc 39 rfl b) rfl fun a E=>bd hm fun p f hm=>?_
     obtain ⟨B,C,n⟩:=H.rowformNE (i:=0) rfl f
     refine aQ E (ws' (d:=39) E rfl rfl rfl rfl b) rfl rfl (cY (d:=aJ) E n rfl rfl rfl rfl U23 oK f) fun a E=>aQ E (ws' (d:=39) E rfl rfl rfl rfl b) rfl rfl (fZ (i:=0) E H dI n rfl rfl rfl f (us:=[.string p.Dir,.int .i64 p.Next]) rfl U77 rfl oK) fun a E=>pk 1 E (kc 39 rfl b) rfl fun a E=>bd hm fun D u hm=>aU E (ws' (d:=39) E rfl rfl rfl rfl b) rfl rfl (bP E rfl rfl rfl (My _)) (s2 H u)<|?_
     rintro _ w ⟨rfl,H⟩ a E
     refine pk 4 E (kc 39 rfl b) rfl fun a E=>nt<|wp_ret<|fX E rfl rfl rfl<|?_
     cases hm
     exact ⟨rfl,H.reads g⟩
    ·refine pk 11 E (kc 39 rfl b) rfl fun a E=>nt<|wp_ret<|fX E rfl rfl rfl<|?_
     cases hm
     exact ⟨rfl,H.reads g⟩

def pX(b:aI)(c:(List aI)):Option (Int×(List aI)):=
  some (b.Next,c)
def pY(b:Int×Bool)(c:(List aI)):Option (Int×(List aI)):=
  (idx c b.1).bind fun e=>zM.bind fun g=>(idx c b.1).bind fun d=>(idx (c.set b.1.toNat ({ d with Next:=0 }:aI)) b.1).bind fun f=>if (f.Next == 0)=true then ((ck (0 ≤ b.1∧b.1 < (c.set b.1.toNat ({ d with Next:=0 }:aI)).length∧IntKind.i64.wrap (b.1+1)=b.1+1)).bind fun i=>pX e ((c.set b.1.toNat ({ d with Next:=0 }:aI)).eraseIdx b.1.toNat)) else (pX e (c.set b.1.toNat ({ d with Next:=0 }:aI)))
def yB(c:List aI)(d:ByteArray):Option (Int×(List aI)):=
  (dJ c d).bind fun b=>if (!b.2)=true then ((ck (0 ≤ b.1∧b.1 ≤ c.length∧c.length ≤ 1000000)).bind fun e=>pY b (c.take b.1.toNat ++ (⟨d,0⟩:aI)::c.drop b.1.toNat)) else (pY b c)
theorem Af{t:Nat}{O m n o p q s:Value}{P:List aI}{b:ByteArray}(H:Sep w (Blk t 251 [m,O,n,o,p,q,s]::Row 77 aJ O P::Fo) rs){r:Int×(List aI)}(hm:yB P b=some r) :
    Calls Tryz.prog 258 [pt t 0,.string b,.func (.func 267) #[] #[]].toArray w (Ret fun v w'=>∃ Q,.int .i64 r.1=v∧Sep w' (Blk t 251 [m,Q,n,o,p,q,s]::Row 77 aJ Q r.2::Fo) (rs)):=by
 unfold yB at hm
 refine ent Tryz.func258 rfl Tryz.ntmps258 rfl rfl fun a E=>sq<|pr 1 E rfl fun a E=>nx<|pr 4 E rfl fun a E=>lb E H 0 rfl rfl rfl rfl rfl rfl rfl U23 rfl fun a E=>pr 1 E rfl fun a E=>have H:=H.frs [0,1] rfl;bd hm fun G J hm=>?_
 refine xk E rfl rfl rfl rfl rfl Ix (fJ H J) fun w H a E=>pr 5 E rfl fun a E=>nt<|aT (fun a w=>∃ u y c,Env 80 a [(0,pt t 0),(2,.func (.func 267) #[] #[]),(7,.int .i64 G.1)]∧Sep w (Blk t 251 [m,u,n,o,p,q,s]::Row 77 aJ u y::Fo) c∧(∀ r,r ∈ rs→r ∈ c)∧pY G y=some r) ?_ ?_
 ·refine sq<|pr 2 E rfl fun a E=>nt<|wif E hm rfl (fun hm=>?_) fun hm=>?_
  ·refine wp_region_lit<|pr 5 E rfl fun a E=>lb E H 1 rfl rfl rfl rfl rfl rfl rfl U23 rfl fun a E=>pr 2 E rfl fun a E=>sv E rfl rfl rfl (cI E rfl (E.evs rfl) (v:=.agg #[.string b,.int .i64 0]) (by kernel_rfl)) fun a E=>fY (e:=77) (d:=aJ) (cs:=[.string b,.int .i64 0]) (xs:=[(⟨b,0⟩:aI)]) E H (wn rfl) rfl rfl rfl (E.evs rfl) (by kernel_rfl) rfl rfl (fun ok hr=>(Rows.single (d:=aJ) (cs:=[.string b,.int .i64 0]) (x:=(⟨b,0⟩:aI)) qL)) fun S w a H E=>bk hm fun K hm=>aU E (wn rfl) rfl rfl (cC E rfl rfl (Iy _)) (Tn.insert_a (ix:=1) (iu:=0) H rfl rfl (by decide) K) fun T w H a E=>pr 3 E rfl fun a E=>?_
   obtain ⟨q55,U,rfl⟩:=H.rowform (i:=1) rfl
   exact aZ (i:=2) E H (wn rfl) rfl rfl rfl rfl rfl rfl K1 rfl rfl fun w H=>nt<|have H:=H.drop 0;have H:=H.frs [0,1] rfl;X3 ⟨E.to rfl,H,Y0,hm⟩
  ·exact wp_skip<|aC<|have H:=H.frs [0,1] rfl;X3 ⟨E.to rfl,H,Y0,hm⟩
 ·clear E H hm
  rintro a w ⟨u,y,c,E,H,z,hm⟩
  unfold pY at hm
  refine sq<|pr 4 E rfl fun a E=>lb E H 0 rfl rfl rfl rfl rfl rfl rfl U23 rfl fun a E=>pr 1 E rfl fun a E=>bd hm fun I f hm=>?_
  obtain ⟨V,W,A⟩:=H.rowformNE (i:=1) rfl f
  refine sv E rfl rfl rfl (cY (d:=aJ) E A rfl rfl rfl rfl U23 oK f) fun a E=>pr 1 E rfl fun a E=>sv E rfl rfl rfl (mX (d:=aJ) (i:=1) (k:=1) E H dI A rfl rfl rfl f rfl U2 rfl) fun a E=>pr 1 E rfl fun a E=>nt<|aT (fun a w=>∃ B C g,Env 80 a [(9,.int .i64 I.Next)]∧Sep w (Blk t 251 [m,B,n,o,p,q,s]::Row 77 aJ B C::Fo) g∧(∀ r,r ∈ rs→r ∈ g)∧pX I C=some r) ?_ ?_
  ·refine wp_seq<|dw [(0,0),(1,0),(2,0),(3,0),(4,0),(5,0),(6,0),(7,0),(8,1),(9,2),(10,2),(11,2)] [0] [] H (by kernel_rfl) (fun _ _ _ h=>False.elim h.2) fun w W0 hI H=>fn 4 E rfl fun a E=>fb E rfl (wn rfl) rfl rfl rfl rfl m0 rfl U23 rfl fun a E=>fn 3 E rfl fun a E=>bZ rfl<|bd hm fun X L hm=>aU E (wn rfl) rfl rfl (bP E rfl rfl rfl (Wx _)) (M7 H L)<|?_
   rintro _ w ⟨rfl,H⟩ a E
   refine nt<|?_
   refine ⟨⟨_,_,H,(aB m0 (aL)),(aM)⟩,?_⟩
   refine bQ rfl<|bd hm fun R j hm=>?_
   obtain ⟨Y,Z,D⟩:=H.rowformNE (i:=1) rfl j
   refine sv E rfl rfl rfl (cY (d:=aJ) E D rfl rfl rfl rfl U23 oK j) fun a E=>nt<|bQ rfl<|pr 1 E rfl fun a E=>nt<|bQ rfl<|r6 (d:=aJ) (i:=1) (k:=1) (z':=({ R with Next:=0 }:aI)) E H dI (wn rfl) rfl D rfl rfl rfl rfl rfl rfl j rfl rfl sz2 fun w H=>nt<|bR<|?_
   clear hI
   refine aC<|sq<|pr 4 E rfl fun a E=>lb E H 0 rfl rfl rfl rfl rfl rfl rfl U23 rfl fun a E=>pr 1 E rfl fun a E=>bd hm fun b0 l hm=>?_
   obtain ⟨b1,b2,F⟩:=H.rowformNE (i:=1) rfl l
   refine sv E rfl rfl rfl (cY (d:=aJ) E F rfl rfl rfl rfl U23 oK l) fun a E=>pr 1 E rfl fun a E=>sv E rfl rfl rfl (mX (d:=aJ) (i:=1) (k:=1) E H dI F rfl rfl rfl l rfl U2 rfl) fun a E=>pr 1 E rfl fun a E=>nt<|wif E hm rfl (fun hm=>?_) fun hm=>?_
   ·refine wp_region_lit<|pr 5 E rfl fun a E=>lb E H 0 rfl rfl rfl rfl rfl rfl rfl U23 rfl fun a E=>pr 3 E rfl fun a E=>bk hm fun M hm=>aU E (wn rfl) rfl rfl (cC E rfl rfl (Iz _)) (Tn.delete_c (ix:=1) H rfl M) fun b3 w H a E=>pr 3 E rfl fun a E=>?_
    obtain ⟨q49,b4,rfl⟩:=H.rowform (i:=1) rfl
    exact aZ (i:=0) E H (wn rfl) rfl rfl rfl rfl rfl rfl K1 rfl rfl fun w H=>nt<|X3 ⟨E.to rfl,H,z,hm⟩
   ·exact wp_skip<|aC<|X3 ⟨E.to rfl,H,z,hm⟩
  ·clear E H hm
   rintro a w ⟨B,C,g,E,H,N,hm⟩
   unfold pX at hm
   refine sq<|pr 2 E rfl fun a E=>nt<|wp_ret<|aY E rfl rfl<|?_
   cases hm
   exact ⟨_,rfl,H.reads N⟩

def eS(c:List aE)(d:ByteArray):Nat→Int→Option Int
  | 0,_=>none
  | f+1,b=>
    if (decide (b < (c.length:Int)))=true then ((idx c b).bind fun x20=>(xF x20 d).bind fun e=>if e=true then (some (b)) else (eS c d f (IntKind.i64.wrap (b+1)))) else (some ((-1)))
def iI(b:List aE)(c:ByteArray):Option Int:=
  eS b c (((b.length:Int) - 0:Int).toNat+1) 0
theorem tU{j k l m n o p:Value}{b:List aE}{q:Nat}{s:ByteArray}(H:Sep w (Row 95 aF j b::Blk q 85 [k,l,.string s,m,n,o,p]::Fo) rs){r:Int}(hm:iI b s=some r) :
    Calls Tryz.prog 105 [j,.func (.func 317) #[] #[pt q 0]].toArray w (Ret fun v w'=>.int .i64 r=v∧Sep w' (Blk q 85 [k,l,.string s,m,n,o,p]::Row 95 aF j b::Fo) (rs)):=by
 unfold iI at hm
 refine ent Tryz.func105 rfl Tryz.ntmps105 rfl rfl fun a E=>sq<|pr 1 E rfl fun a E=>nt<|wp_seq<|sq<|pr 1 E rfl fun a E=>sv E rfl rfl rfl (iZ (i:=0) E H rfl rfl rfl U22) fun a E=>pr 1 E rfl fun a E=>?_
 refine nt<|wp_block<|bX (fun g a w=>∃ t c,Env 19 a [(0,j),(1,.func (.func 317) #[] #[pt q 0]),(7,.int .i64 (b.length:Int)),(8,.int .i64 t)]∧Sep w (Row 95 aF j b::Blk q 85 [k,l,.string s,m,n,o,p]::Fo) c∧(∀ r,r ∈ rs→r ∈ c)∧eS b s g t=some r) (((b.length:Int) - 0:Int).toNat+1) ?_ ?_
 ·exact ⟨_,_,E.to rfl,H,Y0,hm⟩
 ·clear E H hm
  rintro g a w ⟨t,c,E,H,e,hm⟩
  cases g with
  | zero=>exact (bT hm rfl).elim
  | succ g=>
   unfold eS at hm
   refine sq<|pr 1 E rfl fun a E=>nt<|wp_seq<|wif E hm rfl (fun hm=>?_) fun hm=>?_
   ·refine wp_skip<|aC<|wp_seq<|wp_block<|sq<|pr 2 E rfl fun a E=>nx<|pr 3 E rfl fun a E=>bd hm fun x20 f hm=>?_
    obtain ⟨y,z,u⟩:=H.rowformNE (i:=0) rfl f
    refine sv E rfl rfl rfl (cY (d:=aF) E u rfl rfl rfl rfl U22 iR f) fun a E=>sv E rfl rfl rfl (fZ (i:=0) E H cK u rfl rfl rfl f (us:=[.string x20.Path,.string x20.Data,.int .i64 x20.Version,.int .i64 x20.Turn,.int .i64 x20.Owner]) rfl U95 rfl iR) fun a E=>have H:=H.frs [0,1] rfl;bd hm fun A x hm=>aU E (wn rfl) rfl rfl (bP E rfl rfl rfl (It _)) (F5 H x)<|?_
    rintro _ w ⟨rfl,H⟩ a E
    refine nt<|wif E hm rfl (fun hm=>?_) fun hm=>?_
    ·refine sq<|pr 2 E rfl fun a E=>nt<|wp_ret<|bV<|aP<|aP<|bV<|aP<|?_
     refine aY E rfl rfl<|?_
     cases hm
     exact ⟨rfl,H.reads e⟩
    ·exact wp_skip<|bY<|aC<|wp_region_lit<|pr 2 E rfl fun a E=>nt<|have H:=H.frs [0,1] rfl;⟨g,Nat.lt_succ_self g,_,_,E.to rfl,H,e,hm⟩
   ·refine wp_exit<|bH<|bH<|dG<|aC<|sq<|pr 1 E rfl fun a E=>nt<|wp_ret<|?_
    refine aY E rfl rfl<|have H:=H.frs [0,1] rfl;?_
    cases hm
    exact ⟨rfl,H.reads e⟩

def gS(c:List aE)(d:ByteArray):Option Bool:=
  (iI c d).bind fun b=>some (decide (b ≥ 0))
theorem sB{i b c d e f g:Value}{j:List aE}{k:Nat}{l:ByteArray}(H:Sep w (Row 95 aF i j::Blk k 85 [b,c,.string l,d,e,f,g]::Fo) rs){r:Bool}(hm:gS j l=some r) :
    Calls Tryz.prog 46 [i,.func (.func 317) #[] #[pt k 0]].toArray w (Ret fun v w'=>.bool r=v∧Sep w' (Blk k 85 [b,c,.string l,d,e,f,g]::Row 95 aF i j::Fo) (rs)):=by
 unfold gS at hm
 refine ent Tryz.func46 rfl Tryz.ntmps46 rfl rfl fun a E=>sq<|pr 1 E rfl fun a E=>nx<|pr 2 E rfl fun a E=>bd hm fun n m hm=>xk E rfl rfl rfl rfl rfl Hx (tU H m) fun w H a E=>pr 2 E rfl fun a E=>nt<|?_
 refine wp_ret<|aY E rfl rfl<|?_
 cases hm
 exact ⟨rfl,H.reads Y0⟩

def wR(j:List aE)(c:List aI)(k:Int)(l:ByteArray)(m:ByteArray)(n:Int)(d:List ByteArray)(b:bJ):Option ((List aI)×Int×ByteArray×ByteArray×Int×(List ByteArray)):=
  (s1 b).bind fun e=>(gS j e.2.2.1).bind fun f=>if f=true then ((hG 64).bind fun g=>some (c,g,(ByteArray.mk #[]),(ByteArray.mk #[]),0,[])) else ((yB c b.Path).bind fun i=>some (i.2,k,l,m,n,d))
theorem T3{f:Nat}{c m d:Value}{g:List aE}{n:List aI}{o p:Int}{q s:ByteArray}{e:List ByteArray}{b:bJ}(H:Sep w (Blk f 251 [c,m,.int .i64 o,.string q,.string s,.int .i64 p,d]::Row 95 aF c g::Row 77 aJ m n::Row 9 kS d e::Fo) rs){r:(List aI)×Int×ByteArray×ByteArray×Int×(List ByteArray)}(hm:wR g n o q s p e b=some r) :
    Calls Tryz.prog 196 [pt f 0,.agg (cH b).toArray].toArray w (Ret fun v w'=>∃ t u,.tuple #[]=v∧Sep w' (Blk f 251 [c,t,.int .i64 r.2.1,.string r.2.2.1,.string r.2.2.2.1,.int .i64 r.2.2.2.2.1,u]::Row 95 aF c g::Row 77 aJ t r.1::Row 9 kS u r.2.2.2.2.2::Fo) (rs)):=by
 unfold wR at hm
 refine ent Tryz.func196 rfl Tryz.ntmps196 rfl rfl fun a E=>sq<|bS E H (wn rfl) rfl rfl rfl rfl rfl fun x w a H E=>nt<|wp_seq<|wp_seq<|dw [(0,0),(1,0),(2,0),(3,0),(4,0),(5,0),(6,1),(7,1)] [0,1] [] H (by kernel_rfl) (fun _ _ _ h=>False.elim h.2) fun w W0 hI H=>fn 4 E rfl fun a E=>fb E rfl (wn rfl) rfl rfl rfl rfl mm1 rfl U22 rfl fun a E=>?_
 refine fbn E (cH b) rfl (wn rfl) rfl rfl rfl rfl m0 rfl U85 rfl hP fun a E=>bZ rfl<|bd hm fun y i hm=>cG E rfl rfl rfl rfl rfl Ir (P4 H i)<|?_
 rintro _ w ⟨z,rfl,H⟩ a E
 refine nt<|?_
 refine ⟨⟨_,_,H,(aB mm1 (aB mm2 (aL))),(aM)⟩,?_⟩
 refine bZ rfl<|have H:=H.frs [5,5,4,4,4,5] rfl;bd hm fun A j hm=>xk E rfl rfl rfl rfl rfl Qe (sB H j) fun w H a E=>nt<|?_
 refine ⟨⟨_,_,H,(aB mm2 (aB mm3 (aL))),(aM)⟩,?_⟩
 refine bR<|?_
 clear hI
 refine aC<|wif E hm rfl (fun hm=>?_) fun hm=>?_
 ·refine sq<|pr 1 E rfl fun a E=>have H:=H.frs [5,5,4,4,4,5] rfl;bd hm fun B k hm=>xk E rfl rfl rfl rfl rfl J9 (lC H k) fun w H a E=>nt<|wp_ret<|aP<|Ak E rfl<|?_
  refine have H:=H.nilRow 9 kS;have H:=H.drs [2,3,4];have H:=H.frs [0,3,3,3] rfl;?_
  cases hm
  exact ⟨_,_,rfl,H.reads Y0⟩
 ·refine wp_skip<|aC<|wp_region_lit<|pr 2 E rfl fun a E=>lb E H 2 rfl rfl rfl rfl rfl rfl rfl U9 rfl fun a E=>have H:=H.frs [5,3,3,3,5,5] rfl;bd hm fun C l hm=>cG E rfl rfl rfl rfl rfl Iw (Af H l)<|?_
  rintro _ w ⟨D,rfl,H⟩ a E
  refine wpList_nil<|oJ E rfl<|have H:=H.drs [2,3];have H:=H.frs [3,2,3,3] rfl;?_
  cases hm
  exact ⟨_,_,rfl,H.reads Y0⟩

def oW(b:Int×Int×ByteArray×ByteArray×Int×(List ByteArray))(c:Bool):Option (Int×ByteArray×ByteArray×Int×(List ByteArray)):=
  if c=true then ((hG 65).bind fun d=>some (d,(ByteArray.mk #[]),(ByteArray.mk #[]),0,[])) else (some (b.2.1,b.2.2.1,b.2.2.2.1,b.2.2.2.2.1,b.2.2.2.2.2))
def wS(c:List aE)(g:Int)(i:ByteArray)(j:ByteArray)(k:Int)(d:List ByteArray)(e:bJ):Option (Int×ByteArray×ByteArray×Int×(List ByteArray)):=
  (jH c g i j k d e).bind fun b=>if (decide (0 ≤ b.1))=true then ((idx c b.1).bind fun f=>oW b (f.Owner != 0)) else (oW b false)
theorem T4{j:Nat}{g s l:Value}{q:List aE}{z A:Int}{B C:ByteArray}{t:List ByteArray}{m:bJ}(H:Sep w (Blk j 251 [g,l,.int .i64 z,.string B,.string C,.int .i64 A,s]::Row 95 aF g q::Row 9 kS s t::Fo) rs){r:Int×ByteArray×ByteArray×Int×(List ByteArray)}(hm:wS q z B C A t m=some r) :
    Calls Tryz.prog 193 [pt j 0,.agg (cH m).toArray].toArray w (Ret fun v w'=>∃ D,.tuple #[]=v∧Sep w' (Blk j 251 [g,l,.int .i64 r.1,.string r.2.1,.string r.2.2.1,.int .i64 r.2.2.2.1,D]::Row 95 aF g q::Row 9 kS D r.2.2.2.2::Fo) (rs)):=by
 unfold wS at hm
 refine ent Tryz.func193 rfl Tryz.ntmps193 rfl rfl fun a E=>sq<|bS E H (wn rfl) rfl rfl rfl rfl rfl fun F w a H E=>nx<|pr 1 E rfl fun a E=>sv E rfl rfl rfl (cA (i:=0) (us:=(cH m)) E H rfl rfl rfl rfl U85 rfl hP) fun a E=>have H:=H.frs [0,3,3,3] rfl;bd hm fun c x hm=>cG E rfl rfl rfl rfl rfl S1 (nB H x)<|?_
 rintro _ w ⟨u,rfl,H⟩ a E
 refine pr 1 E rfl fun a E=>nt<|aT (fun a w=>∃ n e,Env 19 a [(0,pt j 0),(16,.bool n)]∧Sep w (Blk j 251 [g,l,.int .i64 c.2.1,.string c.2.2.1,.string c.2.2.2.1,.int .i64 c.2.2.2.2.1,u]::Row 95 aF g q::Row 9 kS u c.2.2.2.2.2::Fo) e∧(∀ r,r ∈ rs→r ∈ e)∧oW c n=some r) ?_ ?_
 ·refine wp_region_lit<|pr 1 E rfl fun a E=>sv E rfl rfl rfl (Ar E Bk Bl rfl rfl rfl) fun a E=>pr 1 E rfl fun a E=>cs hm (fun b hm=>?_) fun b hm=>?_
  ·refine pk 1 E (kc 10 rfl b) rfl fun a E=>bd hm fun G f hm=>?_
   obtain ⟨I,J,o⟩:=H.rowformNE (i:=1) rfl f
   rw [N9 5 o f] at E
   exact pk 2 E (kc 10 rfl b) rfl fun a E=>aQ E (ws' (d:=10) E rfl rfl rfl rfl b) rfl rfl (mX (d:=aF) (i:=1) (k:=4) E H cK o rfl rfl rfl f rfl U2 rfl) fun a E=>pk 2 E (kc 10 rfl b) rfl fun a E=>nt<|have H:=H.drop 3;⟨_,_,E.to rfl,H,Y0,hm⟩
  ·exact pk 6 E (kc 10 rfl b) rfl fun a E=>nt<|have H:=H.drop 3;⟨_,_,E.to rfl,H,Y0,hm⟩
 ·clear E H hm
  rintro a w ⟨n,e,E,H,p,hm⟩
  unfold oW at hm
  refine wif E hm rfl (fun hm=>?_) fun hm=>?_
  ·refine wp_region_lit<|pr 1 E rfl fun a E=>bd hm fun K y hm=>xk E rfl rfl rfl rfl rfl J9 (lC H y) fun w H a E=>wpList_nil<|oJ E rfl<|have H:=H.nilRow 9 kS;have H:=H.drop 3;have H:=H.frs [0,2,2] rfl;?_
   cases hm
   exact ⟨_,rfl,H.reads p⟩
  ·refine wp_skip<|oJ E rfl<|?_
   cases hm
   exact ⟨_,rfl,H.reads p⟩

def zA(e:List aE)(f:Int)(g:ByteArray)(i:ByteArray)(j:Int)(c:List ByteArray)(d:bJ):Option (Int×ByteArray×ByteArray×Int×(List ByteArray)):=
  (jH e f g i j c d).bind fun b=>some (b.2.1,b.2.2.1,b.2.2.2.1,b.2.2.2.2.1,b.2.2.2.2.2)
theorem Bs{g:Nat}{c d e:Value}{j:List aE}{l m:Int}{n o:ByteArray}{f:List ByteArray}{b:bJ}(H:Sep w (Blk g 251 [c,e,.int .i64 l,.string n,.string o,.int .i64 m,d]::Row 95 aF c j::Row 9 kS d f::Fo) rs){r:Int×ByteArray×ByteArray×Int×(List ByteArray)}(hm:zA j l n o m f b=some r) :
    Calls Tryz.prog 200 [pt g 0,.agg (cH b).toArray].toArray w (Ret fun v w'=>∃ p,.tuple #[]=v∧Sep w' (Blk g 251 [c,e,.int .i64 r.1,.string r.2.1,.string r.2.2.1,.int .i64 r.2.2.2.1,p]::Row 95 aF c j::Row 9 kS p r.2.2.2.2::Fo) (rs)):=by
 unfold zA at hm
 refine ent Tryz.func200 rfl Tryz.ntmps200 rfl rfl fun a E=>sq<|bS E H (wn rfl) rfl rfl rfl rfl rfl fun q w a H E=>nt<|wp_region_lit<|pr 1 E rfl fun a E=>sv E rfl rfl rfl (cA (i:=0) (us:=(cH b)) E H rfl rfl rfl rfl U85 rfl hP) fun a E=>have H:=H.frs [0,3,3,3] rfl;bd hm fun s k hm=>?_
 refine cG E rfl rfl rfl rfl rfl S1 (nB H k)<|?_
 rintro _ w ⟨t,rfl,H⟩ a E
 refine wpList_nil<|oJ E rfl<|have H:=H.drop 3;?_
 cases hm
 exact ⟨_,rfl,H.reads Y0⟩

def yC(c:List aE)(g:Int)(i:ByteArray)(j:ByteArray)(k:Int)(d:List ByteArray)(e:bJ):Option (Int×ByteArray×ByteArray×Int×(List ByteArray)):=
  (jH c g i j k d e).bind fun b=>if (decide (0 ≤ b.1))=true then ((idx c b.1).bind fun f=>some (b.2.1,b.2.2.1,b.2.2.2.1,f.Version,b.2.2.2.2.2)) else (some (b.2.1,b.2.2.1,b.2.2.2.1,b.2.2.2.2.1,b.2.2.2.2.2))
theorem Ag{m:Nat}{f g j:Value}{n:List aE}{p q:Int}{s t:ByteArray}{l:List ByteArray}{c:bJ}(H:Sep w (Blk m 251 [f,j,.int .i64 p,.string s,.string t,.int .i64 q,g]::Row 95 aF f n::Row 9 kS g l::Fo) rs){r:Int×ByteArray×ByteArray×Int×(List ByteArray)}(hm:yC n p s t q l c=some r) :
    Calls Tryz.prog 198 [pt m 0,.agg (cH c).toArray].toArray w (Ret fun v w'=>∃ u,.tuple #[]=v∧Sep w' (Blk m 251 [f,j,.int .i64 r.1,.string r.2.1,.string r.2.2.1,.int .i64 r.2.2.2.1,u]::Row 95 aF f n::Row 9 kS u r.2.2.2.2::Fo) (rs)):=by
 unfold yC at hm
 refine ent Tryz.func198 rfl Tryz.ntmps198 rfl rfl fun a E=>sq<|bS E H (wn rfl) rfl rfl rfl rfl rfl fun x w a H E=>nx<|pr 1 E rfl fun a E=>sv E rfl rfl rfl (cA (i:=0) (us:=(cH c)) E H rfl rfl rfl rfl U85 rfl hP) fun a E=>have H:=H.frs [0,3,3,3] rfl;bd hm fun y o hm=>cG E rfl rfl rfl rfl rfl S1 (nB H o)<|?_
 rintro _ w ⟨z,rfl,H⟩ a E
 refine pr 1 E rfl fun a E=>nx<|pr 1 E rfl fun a E=>sv E rfl rfl rfl (Ar E Bk Bl rfl rfl rfl) fun a E=>nt<|wif E hm rfl (fun hm=>?_) fun hm=>?_
 ·refine wp_region_lit<|pr 2 E rfl fun a E=>bd hm fun A b hm=>?_
  obtain ⟨B,C,e⟩:=H.rowformNE (i:=1) rfl b
  rw [N9 5 e b] at E
  refine pr 2 E rfl fun a E=>sv E rfl rfl rfl (mX (d:=aF) (i:=1) (k:=2) E H cK e rfl rfl rfl b rfl U2 rfl) fun a E=>pr 3 E rfl fun a E=>aZ (i:=0) E H (wn rfl) rfl rfl rfl rfl rfl rfl sz2 rfl rfl fun w H=>wpList_nil<|oJ E rfl<|have H:=H.drop 3;?_
  cases hm
  exact ⟨_,rfl,H.reads Y0⟩
 ·refine wp_skip<|oJ E rfl<|have H:=H.drop 3;?_
  cases hm
  exact ⟨_,rfl,H.reads Y0⟩

def oX(rec_1:Int→(List ByteArray)→Option (List ByteArray))(b:Int)(c:(List ByteArray)):Option (List ByteArray):=
  rec_1 (IntKind.i64.wrap (b+1)) c
def jP(e:List aE)(d:Int×ByteArray×ByteArray×ByteArray×Int×Int×Bool):Nat→Int→(List ByteArray)→Option (List ByteArray)
  | 0,_,_=>none
  | i+1,b,c=>
    if (decide (b < (e.length:Int)))=true then ((idx e b).bind fun f=>(xF f d.2.2.1).bind fun j=>if j=true then ((xG f.Path).bind fun g=>(ck (c.length+([g]:List ByteArray).length ≤ LIM)).bind fun k=>oX (jP e d i) b (c ++ ([g]:List ByteArray))) else (oX (jP e d i) b c)) else (some (c))
def wT(b:List aE)(c:List ByteArray)(d:bJ):Option (List ByteArray):=
  (s1 d).bind fun e=>jP b e (((b.length:Int) - 0:Int).toNat+1) 0 c
theorem T5{k:Nat}{c J q s t u y:Value}{f:List aE}{K:List ByteArray}{B:bJ}(H:Sep w (Blk k 251 [c,q,s,t,u,y,J]::Row 95 aF c f::Row 9 kS J K::Fo) rs){r:(List ByteArray)}(hm:wT f K B=some r) :
    Calls Tryz.prog 201 [pt k 0,.agg (cH B).toArray].toArray w (Ret fun v w'=>∃ Q,.tuple #[]=v∧Sep w' (Blk k 251 [c,q,s,t,u,y,Q]::Row 95 aF c f::Row 9 kS Q r::Fo) (rs)):=by
 unfold wT at hm
 refine ent Tryz.func201 rfl Tryz.ntmps201 rfl rfl fun a E=>sq<|bS E H (wn rfl) rfl rfl rfl rfl rfl fun R w a H E=>nx<|sv E rfl rfl rfl (cA (i:=0) (us:=(cH B)) E H rfl rfl rfl rfl U85 rfl hP) fun a E=>bd hm fun b L hm=>cG E rfl rfl rfl rfl rfl Ir (P4 H L)<|?_
 rintro _ w ⟨z,rfl,H⟩ a E
 refine pr 1 E rfl fun a E=>nx<|pr 4 E rfl fun a E=>lb E H 2 rfl rfl rfl rfl rfl rfl rfl U22 rfl fun a E=>sv E rfl rfl rfl (iZ (i:=3) E H rfl rfl rfl U22) fun a E=>pr 1 E rfl fun a E=>nt<|wp_block<|bX (fun l a w=>∃ C j D m,Env 37 a [(0,pt k 0),(4,.func (.func 317) #[] #[pt z 0]),(13,c),(14,.int .i64 (f.length:Int)),(15,.int .i64 j)]∧Sep w (Blk k 251 [c,q,s,t,u,y,C]::Blk z 85 [.int .i64 b.1,.string b.2.1,.string b.2.2.1,.string b.2.2.2.1,.int .i64 b.2.2.2.2.1,.int .i64 b.2.2.2.2.2.1,.bool b.2.2.2.2.2.2]::Row 95 aF c f::Row 9 kS C D::Fo) m∧(∀ r,r ∈ rs→r ∈ m)∧jP f b l j D=some r) (((f.length:Int) - 0:Int).toNat+1) ?_ ?_
 ·exact have H:=H.drop 1;have H:=H.frs [3,3,2,3] rfl;X4 ⟨E.to rfl,H,Y0,hm⟩
 ·clear E H hm
  rintro l a w ⟨C,j,D,m,E,H,n,hm⟩
  cases l with
  | zero=>exact (bT hm rfl).elim
  | succ l=>
   unfold jP at hm
   refine sq<|pr 1 E rfl fun a E=>nt<|wp_seq<|wif E hm rfl (fun hm=>?_) fun hm=>?_
   ·refine wp_skip<|aC<|aT (fun a w=>∃ F G o,Env 37 a [(0,pt k 0),(4,.func (.func 317) #[] #[pt z 0]),(13,c),(14,.int .i64 (f.length:Int)),(15,.int .i64 j)]∧Sep w (Blk k 251 [c,q,s,t,u,y,F]::Blk z 85 [.int .i64 b.1,.string b.2.1,.string b.2.2.1,.string b.2.2.2.1,.int .i64 b.2.2.2.2.1,.int .i64 b.2.2.2.2.2.1,.bool b.2.2.2.2.2.2]::Row 95 aF c f::Row 9 kS F G::Fo) o∧(∀ r,r ∈ rs→r ∈ o)∧oX (jP f b l) j G=some r) ?_ ?_
    ·refine wp_block<|sq<|bd hm fun g p hm=>?_
     obtain ⟨S,T,I⟩:=H.rowformNE (i:=2) rfl p
     refine sv E rfl rfl rfl (cY (d:=aF) E I rfl rfl rfl rfl U22 iR p) fun a E=>sv E rfl rfl rfl (fZ (i:=2) E H cK I rfl rfl rfl p (us:=[.string g.Path,.string g.Data,.int .i64 g.Version,.int .i64 g.Turn,.int .i64 g.Owner]) rfl U95 rfl iR) fun a E=>al E H rfl rfl rfl rfl Lu fun U w a H E=>aZ (i:=0) E H (wn rfl) rfl rfl rfl rfl rfl rfl iR rfl rfl fun w H=>nx<|pr 1 E rfl fun a E=>sv E rfl rfl rfl (cA (i:=0) (us:=(iQ g)) E H rfl rfl rfl rfl U95 rfl iR) fun a E=>have H:=H.frs [4,4,3,3,4] rfl;bd hm fun V M hm=>?_
     refine aU E (wn rfl) rfl rfl (bP E rfl rfl rfl (It _)) (F5 H M)<|?_
     rintro _ w ⟨rfl,H⟩ a E
     refine nt<|wif E hm rfl (fun hm=>?_) fun hm=>?_
     ·refine dw [(0,0),(1,0),(2,0),(3,0),(4,0),(5,0),(6,0),(7,0),(8,1),(9,1),(10,1),(11,2),(12,2),(13,2),(14,2)] [1,2] [] H (by kernel_rfl) (fun _ _ _ h=>False.elim h.2) fun w W0 hI H=>fn 5 E rfl fun a E=>fb E rfl (wn rfl) rfl rfl rfl rfl mm1 rfl U33 rfl fun a E=>fn 1 E rfl fun a E=>fb E rfl (wn rfl) rfl rfl rfl rfl m0 rfl U9 rfl fun a E=>bZ rfl<|bd hm fun A N hm=>xk E rfl rfl rfl rfl rfl Iu (F6 H N) fun w H a E=>nt<|?_
      refine ⟨⟨_,_,H,(aB mm1 (aB mm2 (aL))),(aM)⟩,?_⟩
      refine bZ rfl<|pI (e:=9) (d:=kS) (cs:=[.string A]) (xs:=[A]) E H (wn rfl) rfl rfl rfl (E.evs rfl) (by kernel_rfl) rfl (fun ok hr=>(Rows.single (d:=kS) (cs:=[.string A]) (x:=A) rfl)) fun W w a H E=>nt<|?_
      refine ⟨⟨_,_,H,(aB mm1 (aB mm2 (aL))),(aM)⟩,?_⟩
      refine bZ rfl<|bk hm fun O hm=>dV (i:=4) E H (wn rfl) rfl rfl rfl rfl rfl rfl (jA m0) U33 Ia rfl O rfl fun X w a H E=>nt<|?_
      refine ⟨⟨_,_,H,(aB mm1 (aB mm2 (aL))),(aM)⟩,?_⟩
      refine bQ rfl<|pr 1 E rfl fun a E=>nt<|bQ rfl<|pr 1 E rfl fun a E=>nt<|bQ rfl<|pr 1 E rfl fun a E=>nt<|?_
      refine bQ rfl<|?_
      obtain ⟨q45,Y,rfl⟩:=H.rowform (i:=4) rfl
      refine aZ (i:=2) E H (wn rfl) rfl rfl rfl rfl rfl rfl Sk rfl rfl fun w H=>nt<|bR<|?_
      clear hI
      exact bY<|aC<|have H:=H.drop 1;have H:=H.frs [3,3,2,3] rfl;X3 ⟨E.to rfl,H,(Y1 n),hm⟩
     ·exact wp_skip<|bY<|aC<|have H:=H.drop 1;have H:=H.frs [3,3,2,3] rfl;X3 ⟨E.to rfl,H,n,hm⟩
    ·clear E H hm
     rintro a w ⟨F,G,o,E,H,P,hm⟩
     unfold oX at hm
     exact wp_region_lit<|pr 2 E rfl fun a E=>nt<|⟨l,Nat.lt_succ_self l,X4 ⟨E.to rfl,H,P,hm⟩⟩
   ·refine wp_exit<|bH<|bH<|dG<|oJ E rfl<|have H:=H.drop 1;?_
    cases hm
    exact ⟨_,rfl,H.reads n⟩

def wU(x1:Int):Option Int:=
  some (x1)
theorem T6{x1:Int}(H:Sep w (Fo) rs){r:Int}(hm:wU x1=some r) :
    Calls Tryz.prog 259 [.int .i64 x1].toArray w (Ret fun v w'=>.int .i64 r=v∧Sep w' (Fo) (rs)):=by
 unfold wU at hm
 refine ent Tryz.func259 rfl Tryz.ntmps259 rfl rfl fun a E=>sq<|pr 1 E rfl fun a E=>nx<|pr 2 E rfl fun a E=>nt<|wp_ret<|aY E rfl rfl<|?_
 cases hm
 exact ⟨rfl,H.reads Y0⟩

def nY(b:aI)(c:(List aI)):Option (Int×(List aI)):=
  some (b.Next,c)
def nZ(b:Int×Bool)(c:(List aI)):Option (Int×(List aI)):=
  (idx c b.1).bind fun f=>(wU f.Next).bind fun d=>(idx c b.1).bind fun e=>(idx (c.set b.1.toNat ({ e with Next:=d }:aI)) b.1).bind fun g=>if (g.Next == 0)=true then ((ck (0 ≤ b.1∧b.1 < (c.set b.1.toNat ({ e with Next:=d }:aI)).length∧IntKind.i64.wrap (b.1+1)=b.1+1)).bind fun i=>nY f ((c.set b.1.toNat ({ e with Next:=d }:aI)).eraseIdx b.1.toNat)) else (nY f (c.set b.1.toNat ({ e with Next:=d }:aI)))
def vA(c:List aI)(d:ByteArray):Option (Int×(List aI)):=
  (dJ c d).bind fun b=>if (!b.2)=true then ((ck (0 ≤ b.1∧b.1 ≤ c.length∧c.length ≤ 1000000)).bind fun e=>nZ b (c.take b.1.toNat ++ (⟨d,0⟩:aI)::c.drop b.1.toNat)) else (nZ b c)
theorem P5{t:Nat}{O m n o p q s:Value}{P:List aI}{b:ByteArray}(H:Sep w (Blk t 251 [m,O,n,o,p,q,s]::Row 77 aJ O P::Fo) rs){r:Int×(List aI)}(hm:vA P b=some r) :
    Calls Tryz.prog 258 [pt t 0,.string b,.func (.func 259) #[] #[]].toArray w (Ret fun v w'=>∃ Q,.int .i64 r.1=v∧Sep w' (Blk t 251 [m,Q,n,o,p,q,s]::Row 77 aJ Q r.2::Fo) (rs)):=by
 unfold vA at hm
 refine ent Tryz.func258 rfl Tryz.ntmps258 rfl rfl fun a E=>sq<|pr 1 E rfl fun a E=>nx<|pr 4 E rfl fun a E=>lb E H 0 rfl rfl rfl rfl rfl rfl rfl U23 rfl fun a E=>pr 1 E rfl fun a E=>have H:=H.frs [0,1] rfl;bd hm fun G J hm=>?_
 refine xk E rfl rfl rfl rfl rfl Ix (fJ H J) fun w H a E=>pr 5 E rfl fun a E=>nt<|aT (fun a w=>∃ u y c,Env 80 a [(0,pt t 0),(2,.func (.func 259) #[] #[]),(7,.int .i64 G.1)]∧Sep w (Blk t 251 [m,u,n,o,p,q,s]::Row 77 aJ u y::Fo) c∧(∀ r,r ∈ rs→r ∈ c)∧nZ G y=some r) ?_ ?_
 ·refine sq<|pr 2 E rfl fun a E=>nt<|wif E hm rfl (fun hm=>?_) fun hm=>?_
  ·refine wp_region_lit<|pr 5 E rfl fun a E=>lb E H 1 rfl rfl rfl rfl rfl rfl rfl U23 rfl fun a E=>pr 2 E rfl fun a E=>sv E rfl rfl rfl (cI E rfl (E.evs rfl) (v:=.agg #[.string b,.int .i64 0]) (by kernel_rfl)) fun a E=>fY (e:=77) (d:=aJ) (cs:=[.string b,.int .i64 0]) (xs:=[(⟨b,0⟩:aI)]) E H (wn rfl) rfl rfl rfl (E.evs rfl) (by kernel_rfl) rfl rfl (fun ok hr=>(Rows.single (d:=aJ) (cs:=[.string b,.int .i64 0]) (x:=(⟨b,0⟩:aI)) qL)) fun T w a H E=>bk hm fun K hm=>aU E (wn rfl) rfl rfl (cC E rfl rfl (Iy _)) (Tn.insert_a (ix:=1) (iu:=0) H rfl rfl (by decide) K) fun U w H a E=>pr 3 E rfl fun a E=>?_
   obtain ⟨q55,V,rfl⟩:=H.rowform (i:=1) rfl
   exact aZ (i:=2) E H (wn rfl) rfl rfl rfl rfl rfl rfl K1 rfl rfl fun w H=>nt<|have H:=H.drop 0;have H:=H.frs [0,1] rfl;X3 ⟨E.to rfl,H,Y0,hm⟩
  ·exact wp_skip<|aC<|have H:=H.frs [0,1] rfl;X3 ⟨E.to rfl,H,Y0,hm⟩
 ·clear E H hm
  rintro a w ⟨u,y,c,E,H,z,hm⟩
  unfold nZ at hm
  refine sq<|pr 4 E rfl fun a E=>lb E H 0 rfl rfl rfl rfl rfl rfl rfl U23 rfl fun a E=>pr 1 E rfl fun a E=>bd hm fun I f hm=>?_
  obtain ⟨W,X,A⟩:=H.rowformNE (i:=1) rfl f
  refine sv E rfl rfl rfl (cY (d:=aJ) E A rfl rfl rfl rfl U23 oK f) fun a E=>pr 1 E rfl fun a E=>sv E rfl rfl rfl (mX (d:=aJ) (i:=1) (k:=1) E H dI A rfl rfl rfl f rfl U2 rfl) fun a E=>pr 1 E rfl fun a E=>nt<|aT (fun a w=>∃ B C g,Env 80 a [(9,.int .i64 I.Next)]∧Sep w (Blk t 251 [m,B,n,o,p,q,s]::Row 77 aJ B C::Fo) g∧(∀ r,r ∈ rs→r ∈ g)∧nY I C=some r) ?_ ?_
  ·refine wp_seq<|dw [(0,0),(1,0),(2,0),(3,0),(4,0),(5,0),(6,0),(7,0),(8,1),(9,2),(10,2),(11,2)] [0] [] H (by kernel_rfl) (fun _ _ _ h=>False.elim h.2) fun w W0 hI H=>fn 4 E rfl fun a E=>fb E rfl (wn rfl) rfl rfl rfl rfl m0 rfl U23 rfl fun a E=>fn 3 E rfl fun a E=>bZ rfl<|bd hm fun R L hm=>aU E (wn rfl) rfl rfl (bP E rfl rfl rfl (Xb _)) (T6 H L)<|?_
   rintro _ w ⟨rfl,H⟩ a E
   refine nt<|?_
   refine ⟨⟨_,_,H,(aB m0 (aL)),(aM)⟩,?_⟩
   refine bQ rfl<|bd hm fun S j hm=>?_
   obtain ⟨Y,Z,D⟩:=H.rowformNE (i:=1) rfl j
   refine sv E rfl rfl rfl (cY (d:=aJ) E D rfl rfl rfl rfl U23 oK j) fun a E=>nt<|bQ rfl<|pr 1 E rfl fun a E=>nt<|bQ rfl<|r6 (d:=aJ) (i:=1) (k:=1) (z':=({ S with Next:=R }:aI)) E H dI (wn rfl) rfl D rfl rfl rfl rfl rfl rfl j rfl rfl sz2 fun w H=>nt<|bR<|?_
   clear hI
   refine aC<|sq<|pr 4 E rfl fun a E=>lb E H 0 rfl rfl rfl rfl rfl rfl rfl U23 rfl fun a E=>pr 1 E rfl fun a E=>bd hm fun b0 l hm=>?_
   obtain ⟨b1,b2,F⟩:=H.rowformNE (i:=1) rfl l
   refine sv E rfl rfl rfl (cY (d:=aJ) E F rfl rfl rfl rfl U23 oK l) fun a E=>pr 1 E rfl fun a E=>sv E rfl rfl rfl (mX (d:=aJ) (i:=1) (k:=1) E H dI F rfl rfl rfl l rfl U2 rfl) fun a E=>pr 1 E rfl fun a E=>nt<|wif E hm rfl (fun hm=>?_) fun hm=>?_
   ·refine wp_region_lit<|pr 5 E rfl fun a E=>lb E H 0 rfl rfl rfl rfl rfl rfl rfl U23 rfl fun a E=>pr 3 E rfl fun a E=>bk hm fun M hm=>aU E (wn rfl) rfl rfl (cC E rfl rfl (Iz _)) (Tn.delete_c (ix:=1) H rfl M) fun b3 w H a E=>pr 3 E rfl fun a E=>?_
    obtain ⟨q49,b4,rfl⟩:=H.rowform (i:=1) rfl
    exact aZ (i:=0) E H (wn rfl) rfl rfl rfl rfl rfl rfl K1 rfl rfl fun w H=>nt<|X3 ⟨E.to rfl,H,z,hm⟩
   ·exact wp_skip<|aC<|X3 ⟨E.to rfl,H,z,hm⟩
  ·clear E H hm
   rintro a w ⟨B,C,g,E,H,N,hm⟩
   unfold nY at hm
   refine sq<|pr 2 E rfl fun a E=>nt<|wp_ret<|aY E rfl rfl<|?_
   cases hm
   exact ⟨_,rfl,H.reads N⟩

def wV(x1:Int):Option Int:=
  some (IntKind.i64.wrap (x1+1))
theorem T7{x1:Int}(H:Sep w (Fo) rs){r:Int}(hm:wV x1=some r) :
    Calls Tryz.prog 263 [.int .i64 x1].toArray w (Ret fun v w'=>.int .i64 r=v∧Sep w' (Fo) (rs)):=by
 unfold wV at hm
 refine ent Tryz.func263 rfl Tryz.ntmps263 rfl rfl fun a E=>sq<|pr 1 E rfl fun a E=>nx<|pr 3 E rfl fun a E=>nt<|wp_ret<|aY E rfl rfl<|?_
 cases hm
 exact ⟨rfl,H.reads Y0⟩

def oA(b:aI)(c:(List aI)):Option (Int×(List aI)):=
  some (b.Next,c)
def oB(b:Int×Bool)(c:(List aI)):Option (Int×(List aI)):=
  (idx c b.1).bind fun f=>(wV f.Next).bind fun d=>(idx c b.1).bind fun e=>(idx (c.set b.1.toNat ({ e with Next:=d }:aI)) b.1).bind fun g=>if (g.Next == 0)=true then ((ck (0 ≤ b.1∧b.1 < (c.set b.1.toNat ({ e with Next:=d }:aI)).length∧IntKind.i64.wrap (b.1+1)=b.1+1)).bind fun i=>oA f ((c.set b.1.toNat ({ e with Next:=d }:aI)).eraseIdx b.1.toNat)) else (oA f (c.set b.1.toNat ({ e with Next:=d }:aI)))
def vB(c:List aI)(d:ByteArray):Option (Int×(List aI)):=
  (dJ c d).bind fun b=>if (!b.2)=true then ((ck (0 ≤ b.1∧b.1 ≤ c.length∧c.length ≤ 1000000)).bind fun e=>oB b (c.take b.1.toNat ++ (⟨d,0⟩:aI)::c.drop b.1.toNat)) else (oB b c)
theorem P6{t:Nat}{O m n o p q s:Value}{P:List aI}{b:ByteArray}(H:Sep w (Blk t 251 [m,O,n,o,p,q,s]::Row 77 aJ O P::Fo) rs){r:Int×(List aI)}(hm:vB P b=some r) :
    Calls Tryz.prog 258 [pt t 0,.string b,.func (.func 263) #[] #[]].toArray w (Ret fun v w'=>∃ Q,.int .i64 r.1=v∧Sep w' (Blk t 251 [m,Q,n,o,p,q,s]::Row 77 aJ Q r.2::Fo) (rs)):=by
 unfold vB at hm
 refine ent Tryz.func258 rfl Tryz.ntmps258 rfl rfl fun a E=>sq<|pr 1 E rfl fun a E=>nx<|pr 4 E rfl fun a E=>lb E H 0 rfl rfl rfl rfl rfl rfl rfl U23 rfl fun a E=>pr 1 E rfl fun a E=>have H:=H.frs [0,1] rfl;bd hm fun G J hm=>?_
 refine xk E rfl rfl rfl rfl rfl Ix (fJ H J) fun w H a E=>pr 5 E rfl fun a E=>nt<|aT (fun a w=>∃ u y c,Env 80 a [(0,pt t 0),(2,.func (.func 263) #[] #[]),(7,.int .i64 G.1)]∧Sep w (Blk t 251 [m,u,n,o,p,q,s]::Row 77 aJ u y::Fo) c∧(∀ r,r ∈ rs→r ∈ c)∧oB G y=some r) ?_ ?_
 ·refine sq<|pr 2 E rfl fun a E=>nt<|wif E hm rfl (fun hm=>?_) fun hm=>?_
  ·refine wp_region_lit<|pr 5 E rfl fun a E=>lb E H 1 rfl rfl rfl rfl rfl rfl rfl U23 rfl fun a E=>pr 2 E rfl fun a E=>sv E rfl rfl rfl (cI E rfl (E.evs rfl) (v:=.agg #[.string b,.int .i64 0]) (by kernel_rfl)) fun a E=>fY (e:=77) (d:=aJ) (cs:=[.string b,.int .i64 0]) (xs:=[(⟨b,0⟩:aI)]) E H (wn rfl) rfl rfl rfl (E.evs rfl) (by kernel_rfl) rfl rfl (fun ok hr=>(Rows.single (d:=aJ) (cs:=[.string b,.int .i64 0]) (x:=(⟨b,0⟩:aI)) qL)) fun T w a H E=>bk hm fun K hm=>aU E (wn rfl) rfl rfl (cC E rfl rfl (Iy _)) (Tn.insert_a (ix:=1) (iu:=0) H rfl rfl (by decide) K) fun U w H a E=>pr 3 E rfl fun a E=>?_
   obtain ⟨q55,V,rfl⟩:=H.rowform (i:=1) rfl
   exact aZ (i:=2) E H (wn rfl) rfl rfl rfl rfl rfl rfl K1 rfl rfl fun w H=>nt<|have H:=H.drop 0;have H:=H.frs [0,1] rfl;X3 ⟨E.to rfl,H,Y0,hm⟩
  ·exact wp_skip<|aC<|have H:=H.frs [0,1] rfl;X3 ⟨E.to rfl,H,Y0,hm⟩
 ·clear E H hm
  rintro a w ⟨u,y,c,E,H,z,hm⟩
  unfold oB at hm
  refine sq<|pr 4 E rfl fun a E=>lb E H 0 rfl rfl rfl rfl rfl rfl rfl U23 rfl fun a E=>pr 1 E rfl fun a E=>bd hm fun I f hm=>?_
  obtain ⟨W,X,A⟩:=H.rowformNE (i:=1) rfl f
  refine sv E rfl rfl rfl (cY (d:=aJ) E A rfl rfl rfl rfl U23 oK f) fun a E=>pr 1 E rfl fun a E=>sv E rfl rfl rfl (mX (d:=aJ) (i:=1) (k:=1) E H dI A rfl rfl rfl f rfl U2 rfl) fun a E=>pr 1 E rfl fun a E=>nt<|aT (fun a w=>∃ B C g,Env 80 a [(9,.int .i64 I.Next)]∧Sep w (Blk t 251 [m,B,n,o,p,q,s]::Row 77 aJ B C::Fo) g∧(∀ r,r ∈ rs→r ∈ g)∧oA I C=some r) ?_ ?_
  ·refine wp_seq<|dw [(0,0),(1,0),(2,0),(3,0),(4,0),(5,0),(6,0),(7,0),(8,1),(9,2),(10,2),(11,2)] [0] [] H (by kernel_rfl) (fun _ _ _ h=>False.elim h.2) fun w W0 hI H=>fn 4 E rfl fun a E=>fb E rfl (wn rfl) rfl rfl rfl rfl m0 rfl U23 rfl fun a E=>fn 3 E rfl fun a E=>bZ rfl<|bd hm fun R L hm=>aU E (wn rfl) rfl rfl (bP E rfl rfl rfl (Xe _)) (T7 H L)<|?_
   rintro _ w ⟨rfl,H⟩ a E
   refine nt<|?_
   refine ⟨⟨_,_,H,(aB m0 (aL)),(aM)⟩,?_⟩
   refine bQ rfl<|bd hm fun S j hm=>?_
   obtain ⟨Y,Z,D⟩:=H.rowformNE (i:=1) rfl j
   refine sv E rfl rfl rfl (cY (d:=aJ) E D rfl rfl rfl rfl U23 oK j) fun a E=>nt<|bQ rfl<|pr 1 E rfl fun a E=>nt<|bQ rfl<|r6 (d:=aJ) (i:=1) (k:=1) (z':=({ S with Next:=R }:aI)) E H dI (wn rfl) rfl D rfl rfl rfl rfl rfl rfl j rfl rfl sz2 fun w H=>nt<|bR<|?_
   clear hI
   refine aC<|sq<|pr 4 E rfl fun a E=>lb E H 0 rfl rfl rfl rfl rfl rfl rfl U23 rfl fun a E=>pr 1 E rfl fun a E=>bd hm fun b0 l hm=>?_
   obtain ⟨b1,b2,F⟩:=H.rowformNE (i:=1) rfl l
   refine sv E rfl rfl rfl (cY (d:=aJ) E F rfl rfl rfl rfl U23 oK l) fun a E=>pr 1 E rfl fun a E=>sv E rfl rfl rfl (mX (d:=aJ) (i:=1) (k:=1) E H dI F rfl rfl rfl l rfl U2 rfl) fun a E=>pr 1 E rfl fun a E=>nt<|wif E hm rfl (fun hm=>?_) fun hm=>?_
   ·refine wp_region_lit<|pr 5 E rfl fun a E=>lb E H 0 rfl rfl rfl rfl rfl rfl rfl U23 rfl fun a E=>pr 3 E rfl fun a E=>bk hm fun M hm=>aU E (wn rfl) rfl rfl (cC E rfl rfl (Iz _)) (Tn.delete_c (ix:=1) H rfl M) fun b3 w H a E=>pr 3 E rfl fun a E=>?_
    obtain ⟨q49,b4,rfl⟩:=H.rowform (i:=1) rfl
    exact aZ (i:=0) E H (wn rfl) rfl rfl rfl rfl rfl rfl K1 rfl rfl fun w H=>nt<|X3 ⟨E.to rfl,H,z,hm⟩
   ·exact wp_skip<|aC<|X3 ⟨E.to rfl,H,z,hm⟩
  ·clear E H hm
   rintro a w ⟨B,C,g,E,H,N,hm⟩
   unfold oA at hm
   refine sq<|pr 2 E rfl fun a E=>nt<|wp_ret<|aY E rfl rfl<|?_
   cases hm
   exact ⟨_,rfl,H.reads N⟩

def rS(d:ByteArray)(c:ByteArray)(e:Bool):Option (ByteArray×Bool):=
  if e=true then (some ((ByteArray.mk #[]),false)) else ((oT d (ByteArray.mk #[47])).bind fun b=>(ck (b.size+(ByteArray.mk #[47]).size ≤ 4611686018427387904)).bind fun f=>(ck ((b ++ (ByteArray.mk #[47])).size+c.size ≤ 4611686018427387904)).bind fun g=>some ((b ++ (ByteArray.mk #[47])) ++ c,true))
def r4(b:ByteArray)(c:ByteArray):Option (ByteArray×Bool):=
  (yW b).bind fun d=>if (!d.2)=true then (rS b c true) else ((wZ c).bind fun e=>if (!e)=true then (rS b c true) else (rS b c ((d.1.length:Int) == 6)))
theorem V5{f g:ByteArray}(H:Sep w (Fo) rs){r:ByteArray×Bool}(hm:r4 f g=some r) :
    Calls Tryz.prog 185 [.string f,.string g].toArray w (Ret fun v w'=>.tuple #[.string r.1,.bool r.2]=v∧Sep w' (Fo) (rs)):=by
 unfold r4 at hm
 refine ent Tryz.func185 rfl Tryz.ntmps185 rfl rfl fun a E=>sq<|pr 2 E rfl fun a E=>nx<|pr 1 E rfl fun a E=>bd hm fun s p hm=>cG E rfl rfl rfl rfl rfl Mm (O8 H p)<|?_
 rintro _ w ⟨t,rfl,H⟩ a E
 refine pr 5 E rfl fun a E=>nt<|wp_seq<|aT (fun a w=>∃ k e,Env 30 a [(0,.string f),(1,.string g),(24,.bool k)]∧Sep w (Fo) e∧(∀ r,r ∈ rs→r ∈ e)∧rS f g k=some r) ?_ ?_
 ·refine wp_region_lit<|pr 3 E rfl fun a E=>cs hm (fun b hm=>?_) fun b hm=>?_
  ·exact pk 9 E (kc 15 rfl b) rfl fun a E=>nt<|have H:=H.drop 0;⟨_,_,E.to rfl,H,Y0,hm⟩
  ·refine pk 1 E (kc 15 rfl b) rfl fun a E=>bd hm fun q l hm=>aU E (ws' (d:=15) E rfl rfl rfl rfl b) rfl rfl (cC E rfl rfl (Hz _)) (E7 H l)<|?_
   rintro _ w ⟨rfl,H⟩ a E
   refine pk 3 E (kc 15 rfl b) rfl fun a E=>cs hm (fun c hm=>?_) fun c hm=>?_
   ·exact pk 4 E (kc 20 rfl c) rfl fun a E=>nt<|have H:=H.drop 0;⟨_,_,E.to rfl,H,Y0,hm⟩
   ·exact pk 1 E (kc 20 rfl c) rfl fun a E=>aQ E (ws' (d:=20) E rfl rfl rfl rfl c) rfl rfl (iZ (i:=0) E H rfl rfl rfl U33) fun a E=>pk 2 E (kc 20 rfl c) rfl fun a E=>nt<|have H:=H.drop 0;⟨_,_,E.to rfl,H,Y0,hm⟩
 ·clear E H hm
  rintro a w ⟨k,e,E,H,j,hm⟩
  unfold rS at hm
  refine wif E hm rfl (fun hm=>?_) fun hm=>?_
  ·refine sq<|pr 2 E rfl fun a E=>nt<|wp_ret<|aP<|fX E rfl rfl rfl<|?_
   cases hm
   exact ⟨rfl,H.reads j⟩
  ·refine wp_skip<|aC<|sq<|pr 1 E rfl fun a E=>bd hm fun u m hm=>xk E rfl rfl rfl rfl rfl Mq (yY H m) fun w H a E=>bk hm fun n hm=>sv E rfl rfl rfl (Hj E rfl rfl rfl n) fun a E=>pr 1 E rfl fun a E=>?_
   refine bk hm fun o hm=>sv E rfl rfl rfl (Hj E rfl rfl rfl o) fun a E=>pr 2 E rfl fun a E=>nt<|wp_ret<|fX E rfl rfl rfl<|?_
   cases hm
   exact ⟨rfl,H.reads j⟩

def qT(b:Int)(c:ByteArray)(e:Bool):Option (ByteArray×Bool):=
  if e=true then (some ((ByteArray.mk #[]),false)) else ((ck (-9223372036854775808 ≤ IntKind.i64.wrap (10000+b)∧IntKind.i64.wrap (10000+b) ≤ 9223372036854775807)).bind fun g=>(ck (0 ≤ (1:Int)∧(1:Int) ≤ (ByteArray.mk (Lib.itoa (IntKind.i64.wrap (10000+b))).toArray).size)).bind fun i=>(ck (c.size+((ByteArray.mk (Lib.itoa (IntKind.i64.wrap (10000+b))).toArray).extract (1:Int).toNat (ByteArray.mk (Lib.itoa (IntKind.i64.wrap (10000+b))).toArray).size).size ≤ 4611686018427387904)).bind fun f=>(wZ (c ++ ((ByteArray.mk (Lib.itoa (IntKind.i64.wrap (10000+b))).toArray).extract (1:Int).toNat (ByteArray.mk (Lib.itoa (IntKind.i64.wrap (10000+b))).toArray).size))).bind fun d=>if (!d)=true then (some ((ByteArray.mk #[]),false)) else (some (c ++ ((ByteArray.mk (Lib.itoa (IntKind.i64.wrap (10000+b))).toArray).extract (1:Int).toNat (ByteArray.mk (Lib.itoa (IntKind.i64.wrap (10000+b))).toArray).size),true)))
def zB(c:ByteArray)(b:Int):Option (ByteArray×Bool):=
  if (decide (b < 0))=true then (qT b c true) else (qT b c (decide (b > 9999)))
theorem Bt{f:ByteArray}{d:Int}(H:Sep w (Fo) rs)(l:xU Tryz.prog ∈ rs){r:ByteArray×Bool}(hm:zB f d=some r) :
    Calls Tryz.prog 260 [.string f,.int .i64 d].toArray w (Ret fun v w'=>.tuple #[.string r.1,.bool r.2]=v∧Sep w' (Fo) (rs)):=by
 unfold zB at hm
 refine ent Tryz.func260 rfl Tryz.ntmps260 rfl rfl fun a E=>sq<|pr 2 E rfl fun a E=>nt<|wp_seq<|aT (fun a w=>∃ g e,Env 23 a [(0,.string f),(1,.int .i64 d),(12,.bool g)]∧Sep w (Fo) e∧(∀ r,r ∈ rs→r ∈ e)∧qT d f g=some r) ?_ ?_
 ·refine wp_region_lit<|pr 3 E rfl fun a E=>cs hm (fun b hm=>?_) fun b hm=>?_
  ·exact pk 3 E (kc 9 rfl b) rfl fun a E=>nt<|⟨_,_,E.to rfl,H,Y0,hm⟩
  ·exact pk 3 E (kc 9 rfl b) rfl fun a E=>nt<|⟨_,_,E.to rfl,H,Y0,hm⟩
 ·clear E H hm
  rintro a w ⟨g,e,E,H,c,hm⟩
  unfold qT at hm
  refine wif E hm rfl (fun hm=>?_) fun hm=>?_
  ·refine sq<|pr 2 E rfl fun a E=>nt<|wp_ret<|aP<|fX E rfl rfl rfl<|?_
   cases hm
   exact ⟨rfl,H.reads c⟩
  ·refine wp_skip<|aC<|sq<|pr 3 E rfl fun a E=>bk hm fun m hm=>cG E rfl rfl rfl rfl rfl Xd (Th H (c _ l) (IntKind.i64.wrap (10000+d)) m)<|?_
   rintro _ w ⟨rfl,H⟩ a E
   refine bk hm fun i hm=>sv E rfl rfl rfl (G3 E rfl rfl rfl U9 i) fun a E=>bk hm fun j hm=>sv E rfl rfl rfl (Hj E rfl rfl rfl j) fun a E=>pr 1 E rfl fun a E=>nt<|wp_seq<|sq<|pr 1 E rfl fun a E=>?_
   refine bd hm fun n k hm=>xk E rfl rfl rfl rfl rfl Hz (E7 H k) fun w H a E=>pr 1 E rfl fun a E=>nt<|wif E hm rfl (fun hm=>?_) fun hm=>?_
   ·refine sq<|pr 2 E rfl fun a E=>nt<|wp_ret<|aP<|fX E rfl rfl rfl<|?_
    cases hm
    exact ⟨rfl,H.reads c⟩
   ·refine wp_skip<|aC<|sq<|pr 3 E rfl fun a E=>nt<|wp_ret<|fX E rfl rfl rfl<|?_
    cases hm
    exact ⟨rfl,H.reads c⟩

def qU(b:Int×Bool)(c:List aE)(d:ByteArray)(e:bJ)(i:Int)(j:ByteArray)(k:Int)(f:List ByteArray)(g:(List aI)):Option ((List aE)×(List aI)×Int×ByteArray×ByteArray×Int×(List ByteArray)):=
  (ck (0 ≤ b.1∧b.1 ≤ c.length∧c.length ≤ 1000000)).bind fun l=>some (c.take b.1.toNat ++ (⟨d,e.Data,0,0,e.Owner⟩:aE)::c.drop b.1.toNat,g,i,d,j,k,f)
def qV(f:List aE)(b:bJ)(i:Int)(j:ByteArray)(k:Int)(g:List ByteArray)(l:ByteArray×Bool)(c:ByteArray)(d:(List aI)):Option ((List aE)×(List aI)×Int×ByteArray×ByteArray×Int×(List ByteArray)):=
  (oQ f c).bind fun e=>if e.2=true then ((hG 61).bind fun m=>some (f,d,m,(ByteArray.mk #[]),(ByteArray.mk #[]),0,[])) else (if b.Turns=true then ((vB d l.1).bind fun n=>qU e f c b i j k g n.2) else (qU e f c b i j k g d))
def zC(g:List aE)(i:List aI)(j:Int)(k:ByteArray)(l:Int)(e:List ByteArray)(b:bJ):Option ((List aE)×(List aI)×Int×ByteArray×ByteArray×Int×(List ByteArray)):=
  (qM b.Path).bind fun c=>if b.Turns=true then ((vA i c.1).bind fun d=>(xG b.Path).bind fun m=>(zB m d.1).bind fun f=>(r4 c.1 f.1).bind fun n=>if (!f.2)=true then ((hG 66).bind fun o=>some (g,d.2,o,(ByteArray.mk #[]),(ByteArray.mk #[]),0,[])) else (qV g b j k l e c n.1 d.2)) else (qV g b j k l e c b.Path i)
theorem Bu{j:Nat}{o S f u:Value}{p:List aE}{T:List aI}{q s:Int}{t:ByteArray}{g:List ByteArray}{b:bJ}(H:Sep w (Blk j 251 [o,S,.int .i64 q,u,.string t,.int .i64 s,f]::Row 95 aF o p::Row 77 aJ S T::Row 9 kS f g::Fo) rs)(F:xU Tryz.prog ∈ rs){r:(List aE)×(List aI)×Int×ByteArray×ByteArray×Int×(List ByteArray)}(hm:zC p T q t s g b=some r) :
    Calls Tryz.prog 194 [pt j 0,.agg (cH b).toArray].toArray w (Ret fun v w'=>∃ U V W,.tuple #[]=v∧Sep w' (Blk j 251 [U,V,.int .i64 r.2.2.1,.string r.2.2.2.1,.string r.2.2.2.2.1,.int .i64 r.2.2.2.2.2.1,W]::Row 95 aF U r.1::Row 77 aJ V r.2.1::Row 9 kS W r.2.2.2.2.2.2::Fo) (rs)):=by
 unfold zC at hm
 refine ent Tryz.func194 rfl Tryz.ntmps194 rfl rfl fun a E=>sq<|bS E H (wn rfl) rfl rfl rfl rfl rfl fun n w a H E=>nx<|pr 1 E rfl fun a E=>lb E H 0 rfl rfl rfl rfl rfl rfl rfl U9 rfl fun a E=>pr 1 E rfl fun a E=>nx<|pr 1 E rfl fun a E=>?_
 refine lb E H 0 rfl rfl rfl rfl rfl rfl rfl U9 rfl fun a E=>bd hm fun C G hm=>xk E rfl rfl rfl rfl rfl Dw (xJ H G) fun w H a E=>pr 5 E rfl fun a E=>nt<|aT (fun a w=>∃ y c z k,Env 80 a [(0,pt j 0),(3,pt n 0),(4,.string c),(5,.string C.1)]∧Sep w (Blk j 251 [o,y,.int .i64 q,u,.string t,.int .i64 s,f]::Blk n 85 (cH b)::Row 95 aF o p::Row 77 aJ y z::Row 9 kS f g::Fo) k∧(∀ r,r ∈ rs→r ∈ k)∧qV p b q t s g C c z=some r) ?_ ?_
 ·refine sq<|pr 1 E rfl fun a E=>lb E H 0 rfl rfl rfl rfl rfl rfl rfl U4 rfl fun a E=>nt<|wif E hm rfl (fun hm=>?_) fun hm=>?_
  ·refine sq<|pr 2 E rfl fun a E=>have H:=H.frs [4,3,2,4,4] rfl;bd hm fun X I hm=>cG E rfl rfl rfl rfl rfl Iw (P5 H I)<|?_
   rintro _ w ⟨Y,rfl,H⟩ a E
   refine pr 1 E rfl fun a E=>nx<|pr 1 E rfl fun a E=>lb E H 2 rfl rfl rfl rfl rfl rfl rfl U9 rfl fun a E=>bd hm fun Z J hm=>xk E rfl rfl rfl rfl rfl Iu (F6 H J) fun w H a E=>pr 1 E rfl fun a E=>bd hm fun b0 K hm=>xk E rfl rfl rfl rfl rfl Xc (Bt H F K) fun w H a E=>?_
   refine pr 5 E rfl fun a E=>nx<|pr 2 E rfl fun a E=>bd hm fun b1 L hm=>xk E rfl rfl rfl rfl rfl Mz (V5 H L) fun w H a E=>pr 4 E rfl fun a E=>nx<|pr 2 E rfl fun a E=>nt<|wif E hm rfl (fun hm=>?_) fun hm=>?_
   ·refine sq<|pr 1 E rfl fun a E=>bd hm fun b2 M hm=>xk E rfl rfl rfl rfl rfl J9 (lC H M) fun w H a E=>nt<|wp_ret<|aP<|Ak E rfl<|have H:=H.nilRow 9 kS;?_
    refine have H:=H.drs [3,4];have H:=H.frs [0,2,3,3] rfl;?_
    cases hm
    exact X3 ⟨rfl,H.reads Y0⟩
   ·exact wp_skip<|aC<|have H:=H.frs [4,2,4,4,4] rfl;X4 ⟨E.to rfl,H,Y0,hm⟩
  ·exact wp_skip<|aC<|have H:=H.frs [4,4,4,3,4] rfl;X4 ⟨E.to rfl,H,Y0,hm⟩
 ·clear E H hm
  rintro a w ⟨y,c,z,k,E,H,l,hm⟩
  unfold qV at hm
  refine sq<|pr 2 E rfl fun a E=>have H:=H.frs [4,4,3,4,4] rfl;bd hm fun D N hm=>xk E rfl rfl rfl rfl rfl Iv (wO H N) fun w H a E=>pr 5 E rfl fun a E=>nt<|wp_seq<|sq<|?_
  refine pr 1 E rfl fun a E=>nt<|wif E hm rfl (fun hm=>?_) fun hm=>?_
  ·refine sq<|pr 1 E rfl fun a E=>bd hm fun b3 O hm=>xk E rfl rfl rfl rfl rfl J9 (lC H O) fun w H a E=>nt<|wp_ret<|aP<|Ak E rfl<|have H:=H.nilRow 9 kS;?_
   refine have H:=H.drs [3,4];have H:=H.frs [0,3,3,3] rfl;?_
   cases hm
   exact X3 ⟨rfl,H.reads l⟩
  ·refine wp_skip<|aC<|aT (fun a w=>∃ A B m,Env 80 a [(0,pt j 0),(3,pt n 0),(4,.string c),(10,.int .i64 D.1)]∧Sep w (Blk j 251 [o,A,.int .i64 q,u,.string t,.int .i64 s,f]::Blk n 85 (cH b)::Row 95 aF o p::Row 77 aJ A B::Row 9 kS f g::Fo) m∧(∀ r,r ∈ rs→r ∈ m)∧qU D p c b q t s g B=some r) ?_ ?_
   ·refine sq<|pr 1 E rfl fun a E=>lb E H 2 rfl rfl rfl rfl rfl rfl rfl U4 rfl fun a E=>nt<|wif E hm rfl (fun hm=>?_) fun hm=>?_
    ·refine wp_region_lit<|pr 2 E rfl fun a E=>have H:=H.frs [4,3,3,4,4] rfl;bd hm fun b4 P hm=>cG E rfl rfl rfl rfl rfl Iw (P6 H P)<|?_
     rintro _ w ⟨b5,rfl,H⟩ a E
     exact nt<|have H:=H.frs [4,2,3,4,4] rfl;X3 ⟨E.to rfl,H,l,hm⟩
    ·exact wp_skip<|aC<|have H:=H.frs [4,4,3,4,4] rfl;X3 ⟨E.to rfl,H,l,hm⟩
   ·clear E H hm
    rintro a w ⟨A,B,m,E,H,Q,hm⟩
    unfold qU at hm
    refine wp_seq<|dw [(0,0),(1,0),(2,0),(3,0),(4,0),(5,0),(6,0),(7,0),(8,0),(9,0),(10,0),(11,0),(12,0),(13,1),(14,1),(15,2),(16,2),(17,2),(18,2)] [0,1] [] H (by kernel_rfl) (fun _ _ _ h=>False.elim h.2) fun w W0 hI H=>fn 5 E rfl fun a E=>fb E rfl (wn rfl) rfl rfl rfl rfl m0 rfl U22 rfl fun a E=>fn 3 E rfl fun a E=>fb E rfl (wn rfl) rfl rfl rfl rfl mm1 rfl U9 rfl fun a E=>fn 1 E rfl fun a E=>fb E rfl (wn rfl) rfl rfl rfl rfl mm1 rfl U2 rfl fun a E=>bW E rfl (wn rfl) rfl rfl (fun w hW=>(cI E rfl (E.evs rfl) (v:=.agg #[.string c,.string b.Data,.int .i64 0,.int .i64 0,.int .i64 b.Owner]) (by kernel_rfl))) fun a E=>?_
    refine bZ rfl<|fY (e:=95) (d:=aF) (cs:=[.string c,.string b.Data,.int .i64 0,.int .i64 0,.int .i64 b.Owner]) (xs:=[(⟨c,b.Data,0,0,b.Owner⟩:aE)]) E H (wn rfl) rfl rfl rfl (E.evs rfl) (by kernel_rfl) rfl rfl (fun ok hr=>(Rows.single (d:=aF) (cs:=[.string c,.string b.Data,.int .i64 0,.int .i64 0,.int .i64 b.Owner]) (x:=(⟨c,b.Data,0,0,b.Owner⟩:aE)) sZ)) fun b6 w a H E=>nt<|?_
    refine ⟨⟨_,_,H,(aB mm1 (aB mm2 (aL))),(aM)⟩,?_⟩
    refine bZ rfl<|bk hm fun R hm=>aU E (wn rfl) rfl rfl (cC E rfl rfl (Xf _)) (insert_a (ix:=3) (iu:=0) H rfl rfl (by decide) R) fun b7 w H a E=>nt<|?_
    refine ⟨⟨_,_,H,(aB mm1 (aB mm2 (aL))),(aM)⟩,?_⟩
    refine bQ rfl<|pr 1 E rfl fun a E=>nt<|bQ rfl<|pr 1 E rfl fun a E=>nt<|bQ rfl<|pr 1 E rfl fun a E=>nt<|?_
    refine bQ rfl<|?_
    obtain ⟨q35,b8,rfl⟩:=H.rowform (i:=3) rfl
    refine aZ (i:=1) E H (wn rfl) rfl rfl rfl rfl rfl rfl Cj rfl rfl fun w H=>nt<|bR<|?_
    clear hI
    refine aC<|wp_region_lit<|pr 5 E rfl fun a E=>aZ (i:=1) E H (wn rfl) rfl rfl rfl rfl rfl rfl sz9 rfl rfl fun w H=>wpList_nil<|oJ E rfl<|have H:=H.drs [0,1];?_
    cases hm
    exact X3 ⟨rfl,H.reads Q⟩

def yD(d:List aE)(g:Int)(i:ByteArray)(j:ByteArray)(k:Int)(e:List ByteArray)(f:bJ):Option (Int×ByteArray×ByteArray×Int×(List ByteArray)):=
  (jH d g i j k e f).bind fun b=>if (decide (0 ≤ b.1))=true then ((idx d b.1).bind fun c=>some (b.2.1,b.2.2.1,c.Data,c.Version,b.2.2.2.2.2)) else (some (b.2.1,b.2.2.1,b.2.2.2.1,b.2.2.2.2.1,b.2.2.2.2.2))
theorem Ah{m:Nat}{f g j:Value}{n:List aE}{p q:Int}{s t:ByteArray}{l:List ByteArray}{e:bJ}(H:Sep w (Blk m 251 [f,j,.int .i64 p,.string s,.string t,.int .i64 q,g]::Row 95 aF f n::Row 9 kS g l::Fo) rs){r:Int×ByteArray×ByteArray×Int×(List ByteArray)}(hm:yD n p s t q l e=some r) :
    Calls Tryz.prog 199 [pt m 0,.agg (cH e).toArray].toArray w (Ret fun v w'=>∃ u,.tuple #[]=v∧Sep w' (Blk m 251 [f,j,.int .i64 r.1,.string r.2.1,.string r.2.2.1,.int .i64 r.2.2.2.1,u]::Row 95 aF f n::Row 9 kS u r.2.2.2.2::Fo) (rs)):=by
 unfold yD at hm
 refine ent Tryz.func199 rfl Tryz.ntmps199 rfl rfl fun a E=>sq<|bS E H (wn rfl) rfl rfl rfl rfl rfl fun x w a H E=>nx<|pr 1 E rfl fun a E=>sv E rfl rfl rfl (cA (i:=0) (us:=(cH e)) E H rfl rfl rfl rfl U85 rfl hP) fun a E=>have H:=H.frs [0,3,3,3] rfl;bd hm fun y o hm=>cG E rfl rfl rfl rfl rfl S1 (nB H o)<|?_
 rintro _ w ⟨z,rfl,H⟩ a E
 refine pr 1 E rfl fun a E=>nx<|pr 1 E rfl fun a E=>sv E rfl rfl rfl (Ar E Bk Bl rfl rfl rfl) fun a E=>nt<|wif E hm rfl (fun hm=>?_) fun hm=>?_
 ·refine dw [(0,0),(1,0),(2,0),(3,0),(4,0),(5,0),(6,0),(7,0),(8,0),(9,0),(10,0),(11,0),(12,0),(13,1),(14,2),(15,2),(16,2),(17,2)] [1] [] H (by kernel_rfl) (fun _ _ _ h=>False.elim h.2) fun w W0 hI H=>fn 3 E rfl fun a E=>bd hm fun A b hm=>?_
  obtain ⟨B,C,c⟩:=H.rowformNE (i:=1) rfl b
  rw [N9 5 c b] at E
  refine fn 2 E rfl fun a E=>bW E rfl (wn rfl) rfl rfl (fun w hW=>W3 (d:=aF) (k:=1) E cK c b m0 rfl rfl rfl U9 rfl hW) fun a E=>?_
  refine fn 3 E rfl fun a E=>bW E rfl (wn rfl) rfl rfl (fun w hW=>W3 (d:=aF) (k:=2) E cK c b m0 rfl rfl rfl U2 rfl hW) fun a E=>?_
  refine fn 3 E rfl fun a E=>bZ rfl<|aZ (i:=0) E H (wn rfl) rfl rfl rfl rfl rfl rfl sz9 rfl rfl fun w H=>nt<|?_
  refine ⟨⟨_,_,H,(aB mm1 (aL)),(aM)⟩,?_⟩
  refine bQ rfl<|pr 1 E rfl fun a E=>nt<|bQ rfl<|pr 1 E rfl fun a E=>nt<|bQ rfl<|pr 1 E rfl fun a E=>nt<|?_
  refine bQ rfl<|aZ (i:=0) E H (wn rfl) rfl rfl rfl rfl rfl rfl sz2 rfl rfl fun w H=>nt<|bR<|?_
  clear hI
  refine oJ E rfl<|have H:=H.drop 3;?_
  cases hm
  exact ⟨_,rfl,H.reads Y0⟩
 ·refine wp_skip<|oJ E rfl<|have H:=H.drop 3;?_
  cases hm
  exact ⟨_,rfl,H.reads Y0⟩

def vC(d:List aE)(g:Int)(i:ByteArray)(j:ByteArray)(k:Int)(f:List ByteArray)(e:bJ):Option ((List aE)×Int×ByteArray×ByteArray×Int×(List ByteArray)):=
  (jH d g i j k f e).bind fun b=>if (decide (0 ≤ b.1))=true then ((oQ d e.Path).bind fun c=>(ck (0 ≤ c.1∧c.1 < d.length∧IntKind.i64.wrap (c.1+1)=c.1+1)).bind fun l=>some (d.eraseIdx c.1.toNat,b.2.1,b.2.2.1,b.2.2.2.1,b.2.2.2.2.1,b.2.2.2.2.2)) else (some (d,b.2.1,b.2.2.1,b.2.2.2.1,b.2.2.2.2.1,b.2.2.2.2.2))
theorem P7{f:Nat}{l c d:Value}{m:List aE}{n o:Int}{p q:ByteArray}{e:List ByteArray}{b:bJ}(H:Sep w (Blk f 251 [l,d,.int .i64 n,.string p,.string q,.int .i64 o,c]::Row 95 aF l m::Row 9 kS c e::Fo) rs){r:(List aE)×Int×ByteArray×ByteArray×Int×(List ByteArray)}(hm:vC m n p q o e b=some r) :
    Calls Tryz.prog 195 [pt f 0,.agg (cH b).toArray].toArray w (Ret fun v w'=>∃ s t,.tuple #[]=v∧Sep w' (Blk f 251 [s,d,.int .i64 r.2.1,.string r.2.2.1,.string r.2.2.2.1,.int .i64 r.2.2.2.2.1,t]::Row 95 aF s r.1::Row 9 kS t r.2.2.2.2.2::Fo) (rs)):=by
 unfold vC at hm
 refine ent Tryz.func195 rfl Tryz.ntmps195 rfl rfl fun a E=>sq<|bS E H (wn rfl) rfl rfl rfl rfl rfl fun u w a H E=>nx<|pr 1 E rfl fun a E=>sv E rfl rfl rfl (cA (i:=0) (us:=(cH b)) E H rfl rfl rfl rfl U85 rfl hP) fun a E=>have H:=H.frs [0,3,3,3] rfl;bd hm fun x g hm=>cG E rfl rfl rfl rfl rfl S1 (nB H g)<|?_
 rintro _ w ⟨y,rfl,H⟩ a E
 refine sv E rfl rfl rfl (Ar E Bk Bl rfl rfl rfl) fun a E=>nt<|wif E hm rfl (fun hm=>?_) fun hm=>?_
 ·refine sq<|pr 2 E rfl fun a E=>lb E H 3 rfl rfl rfl rfl rfl rfl rfl U9 rfl fun a E=>bd hm fun z j hm=>xk E rfl rfl rfl rfl rfl Iv (wO H j) fun w H a E=>pr 5 E rfl fun a E=>nt<|wp_region_lit<|pr 5 E rfl fun a E=>?_
  refine lb E H 0 rfl rfl rfl rfl rfl rfl rfl U22 rfl fun a E=>pr 3 E rfl fun a E=>bk hm fun k hm=>aU E (wn rfl) rfl rfl (cC E rfl rfl (Wz _)) (delete_c (ix:=1) H rfl k) fun A w H a E=>pr 3 E rfl fun a E=>?_
  obtain ⟨q23,B,rfl⟩:=H.rowform (i:=1) rfl
  refine aZ (i:=0) E H (wn rfl) rfl rfl rfl rfl rfl rfl Cj rfl rfl fun w H=>wpList_nil<|oJ E rfl<|have H:=H.drop 3;?_
  cases hm
  exact ⟨_,_,rfl,H.reads Y0⟩
 ·refine wp_skip<|oJ E rfl<|have H:=H.drop 3;?_
  cases hm
  exact ⟨_,_,rfl,H.reads Y0⟩

def hY(x1:bB)(g:(List aE))(i:(List aI))(b:Int)(c:ByteArray)(d:ByteArray)(e:Int)(f:(List ByteArray)):Option (bB×cL):=
  if (b != 0)=true then (some (x1,(⟨b,c,d,e,f⟩:cL))) else (some ((⟨g,i⟩:bB),(⟨b,c,d,e,f⟩:cL)))
def zD(x1:bB)(b:bJ)(m:Bool):Option (bB×cL):=
  if m=true then (some ((⟨[],[]⟩:bB),(⟨1,(ByteArray.mk #[]),(ByteArray.mk #[]),0,[]⟩:cL))) else ((ck (x1.Nodes.length ≤ LIM)).bind fun o=>(ck (x1.Turns.length ≤ LIM)).bind fun p=>if (b.Kind == 1)=true then ((wS x1.Nodes 0 (ByteArray.mk #[]) (ByteArray.mk #[]) 0 [] b).bind fun g=>hY x1 x1.Nodes x1.Turns g.1 g.2.1 g.2.2.1 g.2.2.2.1 g.2.2.2.2) else (if (b.Kind == 2)=true then ((zC x1.Nodes x1.Turns 0 (ByteArray.mk #[]) 0 [] b).bind fun c=>hY x1 c.1 c.2.1 c.2.2.1 c.2.2.2.1 c.2.2.2.2.1 c.2.2.2.2.2.1 c.2.2.2.2.2.2) else (if (b.Kind == 3)=true then ((vC x1.Nodes 0 (ByteArray.mk #[]) (ByteArray.mk #[]) 0 [] b).bind fun d=>hY x1 d.1 x1.Turns d.2.1 d.2.2.1 d.2.2.2.1 d.2.2.2.2.1 d.2.2.2.2.2) else (if (b.Kind == 4)=true then ((wR x1.Nodes x1.Turns 0 (ByteArray.mk #[]) (ByteArray.mk #[]) 0 [] b).bind fun e=>hY x1 x1.Nodes e.1 e.2.1 e.2.2.1 e.2.2.2.1 e.2.2.2.2.1 e.2.2.2.2.2) else (if (b.Kind == 5)=true then ((wP x1.Nodes 0 (ByteArray.mk #[]) (ByteArray.mk #[]) 0 [] b).bind fun f=>hY x1 f.1 x1.Turns f.2.1 f.2.2.1 f.2.2.2.1 f.2.2.2.2.1 f.2.2.2.2.2) else (if (b.Kind == 6)=true then ((yC x1.Nodes 0 (ByteArray.mk #[]) (ByteArray.mk #[]) 0 [] b).bind fun i=>hY x1 x1.Nodes x1.Turns i.1 i.2.1 i.2.2.1 i.2.2.2.1 i.2.2.2.2) else (if (b.Kind == 7)=true then ((yD x1.Nodes 0 (ByteArray.mk #[]) (ByteArray.mk #[]) 0 [] b).bind fun j=>hY x1 x1.Nodes x1.Turns j.1 j.2.1 j.2.2.1 j.2.2.2.1 j.2.2.2.2) else (if (b.Kind == 8)=true then ((zA x1.Nodes 0 (ByteArray.mk #[]) (ByteArray.mk #[]) 0 [] b).bind fun k=>hY x1 x1.Nodes x1.Turns k.1 k.2.1 k.2.2.1 k.2.2.2.1 k.2.2.2.2) else (if (b.Kind == 9)=true then ((wT x1.Nodes [] b).bind fun n=>hY x1 x1.Nodes x1.Turns 0 (ByteArray.mk #[]) (ByteArray.mk #[]) 0 n) else (if (b.Kind == 10)=true then ((wQ x1.Nodes [] b).bind fun l=>hY x1 l.1 x1.Turns 0 (ByteArray.mk #[]) (ByteArray.mk #[]) 0 l.2) else none))))))))))
def P8(x1:bB)(b:bJ):Option (bB×cL):=
  (pM x1).bind fun c=>if (!c)=true then (zD x1 b true) else ((y2 b).bind fun d=>zD x1 b (!d))
theorem Ko{x1:bB}{p q:Value}{c:bJ}(H:Sep w (Fo) rs)(u:rSl aF p x1.Nodes ∈ rs)(x:rSl aJ q x1.Turns ∈ rs)(c0:xU Tryz.prog ∈ rs){r:bB×cL}(hm:P8 x1 c=some r) :
    Calls Tryz.prog 138 [.agg #[p,q],.agg (cH c).toArray].toArray w (Ret fun v w'=>∃ c1 c2 c3,.tuple #[.agg #[c1,c2],.agg (O1 r.2 c3).toArray]=v∧Sep w' (Fo) (rSl aF c1 r.1.Nodes::rSl aJ c2 r.1.Turns::rSl kS c3 r.2.Names::rs)):=by
 unfold P8 at hm
 refine ent Tryz.func138 rfl Tryz.ntmps138 rfl rfl fun a E=>sq<|bS E H (wn rfl) rfl rfl rfl rfl rfl fun R w a H E=>bS E H (wn rfl) rfl rfl rfl rfl rfl fun c4 w a H E=>al E H rfl rfl rfl rfl jN fun y w a H E=>al E H rfl rfl rfl rfl Sg fun z w a H E=>nx<|sv E rfl rfl rfl (cI E rfl (E.evs rfl) (v:=.agg #[.nilFunc,.func (.func 193) #[] #[],.func (.func 194) #[] #[],.func (.func 195) #[] #[],.func (.func 196) #[] #[],.func (.func 197) #[] #[],.func (.func 198) #[] #[],.func (.func 199) #[] #[],.func (.func 200) #[] #[],.func (.func 201) #[] #[],.func (.func 202) #[] #[]]) (by kernel_rfl)) fun a E=>al E H rfl rfl rfl rfl Wh fun S w a H E=>?_
 refine aZ (i:=0) E H (wn rfl) rfl rfl rfl rfl rfl rfl Wi rfl rfl fun w H=>nt<|wp_seq<|aT (fun a w=>∃ F s,Env 54 a [(2,pt R 0),(3,pt c4 0),(4,pt y 0),(5,pt z 0),(6,pt S 0),(16,.bool F)]∧Sep w (Blk R 25 [p,q]::Blk c4 85 (cH c)::Blk y 25 [.slice none 0 0,.slice none 0 0]::Blk z 81 O2::Blk S 249 [.nilFunc,.func (.func 193) #[] #[],.func (.func 194) #[] #[],.func (.func 195) #[] #[],.func (.func 196) #[] #[],.func (.func 197) #[] #[],.func (.func 198) #[] #[],.func (.func 199) #[] #[],.func (.func 200) #[] #[],.func (.func 201) #[] #[],.func (.func 202) #[] #[]]::Fo) s∧(∀ r,r ∈ rs→r ∈ s)∧zD x1 c F=some r) ?_ ?_
 ·refine wp_region_lit<|sv E rfl rfl rfl (cA (i:=4) (us:=[p,q]) E H rfl rfl rfl rfl U25 rfl dA) fun a E=>bd hm fun c9 W hm=>xk E rfl rfl rfl rfl rfl Hw (yX H u x W) fun w H a E=>pr 2 E rfl fun a E=>cs hm (fun f hm=>?_) fun f hm=>?_
  ·exact pk 4 E (kc 12 rfl f) rfl fun a E=>nt<|have H:=H.frs [0,1,2,3,4] rfl;⟨_,_,E.to rfl,H,Y0,hm⟩
  ·refine aQ E (ws' (d:=12) E rfl rfl rfl rfl f) rfl rfl (cA (i:=3) (us:=(cH c)) E H rfl rfl rfl rfl U85 rfl hP) fun a E=>bd hm fun d0 X hm=>aU E (ws' (d:=12) E rfl rfl rfl rfl f) rfl rfl (cC E rfl rfl (Rj _)) (Bq H X)<|?_
   rintro _ w ⟨rfl,H⟩ a E
   exact pk 2 E (kc 12 rfl f) rfl fun a E=>nt<|have H:=H.frs [0,1,2,3,4] rfl;⟨_,_,E.to rfl,H,Y0,hm⟩
 ·clear E H hm
  rintro a w ⟨F,s,E,H,b,hm⟩
  unfold zD at hm
  refine wif E hm rfl (fun hm=>?_) fun hm=>?_
  ·refine sq<|sv E rfl rfl rfl (cI E rfl (E.evs rfl) (v:=.agg #[.slice none 0 0,.slice none 0 0]) (by kernel_rfl)) fun a E=>sv E rfl rfl rfl (cI E rfl (E.evs rfl) (v:=.agg #[.int .i64 1,.string (ByteArray.mk #[]),.string (ByteArray.mk #[]),.int .i64 0,.slice none 0 0]) (by kernel_rfl)) fun a E=>aZ (i:=2) E H (wn rfl) rfl rfl rfl rfl rfl rfl dA rfl rfl fun w H=>aZ (i:=3) E H (wn rfl) rfl rfl rfl rfl rfl rfl zU rfl rfl fun w H=>nt<|wp_ret<|aP<|rJ E rfl (cV (i:=2) (us:=[.slice none 0 0,.slice none 0 0]) H rfl rfl rfl U25 rfl dA) (cV (i:=3) (us:=[.int .i64 1,.string (ByteArray.mk #[]),.string (ByteArray.mk #[]),.int .i64 0,.slice none 0 0]) H rfl rfl rfl U81 rfl zU)<|?_
   refine have H:=H.nilSl aF;have H:=H.nilSl aJ;have H:=H.nilSl kS;have H:=H.drs [0,0,0,0,0];?_
   cases hm
   exact X3 ⟨rfl,H.reads (aA mm2 (aA mm1 (aA m0 (fun r hr=>(t3 (b r hr))))))⟩
  ·refine wp_skip<|aC<|wp_seq<|dw [(0,0),(1,0),(3,0),(4,0),(2,1),(5,1),(6,0),(7,0),(8,1),(9,2)] [0] [] H (by kernel_rfl) (fun _ _ _ h=>False.elim h.2) fun w W0 hI H=>fn 1 E rfl fun a E=>fb E rfl (wn rfl) rfl rfl rfl rfl m0 rfl U22 rfl fun a E=>fn 1 E rfl fun a E=>fb E rfl (wn rfl) rfl rfl rfl rfl m0 rfl U23 rfl fun a E=>bZ rfl<|?_
   refine bk hm fun Y hm=>aU E (wn rfl) rfl rfl (cC E rfl rfl (Sh _)) (nE H (b _ u) Y) fun d1 w H a E=>nt<|?_
   refine ⟨⟨_,_,H,(aB mm1 (aL)),(aM)⟩,?_⟩
   refine bZ rfl<|bk hm fun Z hm=>aU E (wn rfl) rfl rfl (cC E rfl rfl (Si _)) (nF H (b _ x) Z) fun d2 w H a E=>nt<|?_
   refine ⟨⟨_,_,H,(aB mm2 (aL)),(aM)⟩,?_⟩
   obtain ⟨q22,T,rfl⟩:=H.rowform (i:=1) rfl
   obtain ⟨q24,U,rfl⟩:=H.rowform (i:=0) rfl
   refine bW E rfl (wn rfl) rfl rfl (fun w hW=>(cI E rfl (E.evs rfl) (v:=.agg #[(.slice q22 x1.Nodes.length T),(.slice q24 x1.Turns.length U)]) (by kernel_rfl))) fun a E=>?_
   refine bW E rfl (wn rfl) rfl rfl (fun w hW=>(cI E rfl (E.evs rfl) (v:=.agg #[(.slice q22 x1.Nodes.length T),(.slice q24 x1.Turns.length U),.int .i64 0,.string (ByteArray.mk #[]),.string (ByteArray.mk #[]),.int .i64 0,.slice none 0 0]) (by kernel_rfl))) fun a E=>?_
   refine bZ rfl<|bS E H (wn rfl) rfl rfl rfl rfl rfl fun V w a H E=>nt<|?_
   refine ⟨⟨_,_,H,(aB mm3 (aL)),(aM)⟩,?_⟩
   refine bQ rfl<|pr 1 E rfl fun a E=>nt<|bR<|?_
   clear hI
   refine aC<|wp_seq<|aT (fun a w=>∃ A B n C D g k l m o t,Env 54 a [(2,pt R 0),(4,pt y 0),(5,pt z 0),(7,pt V 0)]∧Sep w (Blk R 25 [p,q]::Blk y 25 [.slice none 0 0,.slice none 0 0]::Blk z 81 O2::Blk V 251 [A,B,.int .i64 g,.string k,.string l,.int .i64 m,n]::Row 95 aF A C::Row 77 aJ B D::Row 9 kS n o::Fo) t∧(∀ r,r ∈ rs→r ∈ t)∧hY x1 C D g k l m o=some r) ?_ ?_
   ·refine dw [(0,0),(1,0),(2,0),(3,0),(4,0),(5,0),(6,1)] [4,7] [] H (by kernel_rfl) (fun _ _ _ h=>False.elim h.2) fun w W0 hI H=>fn 1 E rfl fun a E=>fb E rfl (wn rfl) rfl rfl rfl rfl m0 rfl U3 rfl fun a E=>cs hm (fun G hm=>?_) fun G hm=>?_
    ·refine bW E rfl (wn rfl) rfl rfl (fun w hW=>nU (j:=1) E rfl rfl rfl G rfl E3 q6) fun a E=>?_
     refine fb E rfl (wn rfl) rfl rfl rfl rfl mm1 rfl E4 rfl fun a E=>fn 1 E rfl fun a E=>fbn E (cH c) rfl (wn rfl) rfl rfl rfl rfl m0 rfl U85 rfl hP fun a E=>bZ rfl<|have H:=H.nilRow 9 kS;have H:=H.frs [8,8,8,8,8,7,6,8,8] rfl;bd hm fun d3 b0 hm=>aU E (wn rfl) rfl rfl (bP E rfl rfl rfl (Xg _)) (T4 H b0)<|?_
     rintro _ w ⟨d4,rfl,H⟩ a E
     refine nt<|?_
     refine ⟨⟨_,_,H,(aB mm5 (aB (t2 mm6) (aL))),(aM)⟩,?_⟩
     refine bR<|?_
     clear hI
     exact aC<|have H:=H.drs [5,7];have H:=H.frs [2,3,3,3,6,6,6] rfl;X11 ⟨E.to rfl,H,b,hm⟩
    ·refine cs hm (fun I hm=>?_) fun I hm=>?_
     ·refine bW E rfl (wn rfl) rfl rfl (fun w hW=>nU (j:=2) E rfl rfl rfl I rfl E3 q6) fun a E=>?_
      refine fb E rfl (wn rfl) rfl rfl rfl rfl mm1 rfl E4 rfl fun a E=>fn 1 E rfl fun a E=>fbn E (cH c) rfl (wn rfl) rfl rfl rfl rfl m0 rfl U85 rfl hP fun a E=>bZ rfl<|have H:=H.nilRow 9 kS;have H:=H.frs [8,8,8,8,8,5,7,8,8] rfl;bd hm fun d5 b1 hm=>aU E (wn rfl) rfl rfl (bP E rfl rfl rfl (Xa _)) (Bu H (b _ c0) b1)<|?_
      rintro _ w ⟨d6,d7,d8,rfl,H⟩ a E
      refine nt<|?_
      refine ⟨⟨_,_,H,(aB mm5 (aB (t2 mm6) (aL))),(aM)⟩,?_⟩
      refine bR<|?_
      clear hI
      exact aC<|have H:=H.drs [5,7];have H:=H.frs [3,3,3,3,6,6,6] rfl;X11 ⟨E.to rfl,H,b,hm⟩
     ·refine cs hm (fun J hm=>?_) fun J hm=>?_
      ·refine bW E rfl (wn rfl) rfl rfl (fun w hW=>nU (j:=3) E rfl rfl rfl J rfl E3 q6) fun a E=>?_
       refine fb E rfl (wn rfl) rfl rfl rfl rfl mm1 rfl E4 rfl fun a E=>fn 1 E rfl fun a E=>fbn E (cH c) rfl (wn rfl) rfl rfl rfl rfl m0 rfl U85 rfl hP fun a E=>bZ rfl<|have H:=H.nilRow 9 kS;have H:=H.frs [8,8,8,8,8,7,6,8,8] rfl;bd hm fun d9 b2 hm=>aU E (wn rfl) rfl rfl (bP E rfl rfl rfl (Wy _)) (P7 H b2)<|?_
       rintro _ w ⟨e0,e1,rfl,H⟩ a E
       refine nt<|?_
       refine ⟨⟨_,_,H,(aB mm5 (aB (t2 mm6) (aL))),(aM)⟩,?_⟩
       refine bR<|?_
       clear hI
       exact aC<|have H:=H.drs [5,7];have H:=H.frs [2,3,3,3,6,6,6] rfl;X11 ⟨E.to rfl,H,b,hm⟩
      ·refine cs hm (fun K hm=>?_) fun K hm=>?_
       ·refine bW E rfl (wn rfl) rfl rfl (fun w hW=>nU (j:=4) E rfl rfl rfl K rfl E3 q6) fun a E=>?_
        refine fb E rfl (wn rfl) rfl rfl rfl rfl mm1 rfl E4 rfl fun a E=>fn 1 E rfl fun a E=>fbn E (cH c) rfl (wn rfl) rfl rfl rfl rfl m0 rfl U85 rfl hP fun a E=>bZ rfl<|have H:=H.nilRow 9 kS;have H:=H.frs [8,8,8,8,8,5,7,8,8] rfl;bd hm fun e2 b3 hm=>aU E (wn rfl) rfl rfl (bP E rfl rfl rfl (Ww _)) (T3 H b3)<|?_
        rintro _ w ⟨e3,e4,rfl,H⟩ a E
        refine nt<|?_
        refine ⟨⟨_,_,H,(aB mm5 (aB (t2 mm6) (aL))),(aM)⟩,?_⟩
        refine bR<|?_
        clear hI
        exact aC<|have H:=H.drs [5,7];have H:=H.frs [3,3,3,3,6,6,6] rfl;X11 ⟨E.to rfl,H,b,hm⟩
       ·refine cs hm (fun L hm=>?_) fun L hm=>?_
        ·refine bW E rfl (wn rfl) rfl rfl (fun w hW=>nU (j:=5) E rfl rfl rfl L rfl E3 q6) fun a E=>?_
         refine fb E rfl (wn rfl) rfl rfl rfl rfl mm1 rfl E4 rfl fun a E=>fn 1 E rfl fun a E=>fbn E (cH c) rfl (wn rfl) rfl rfl rfl rfl m0 rfl U85 rfl hP fun a E=>bZ rfl<|have H:=H.nilRow 9 kS;have H:=H.frs [8,8,8,8,8,7,6,8,8] rfl;bd hm fun e5 b4 hm=>aU E (wn rfl) rfl rfl (bP E rfl rfl rfl (Wv _)) (T1 H b4)<|?_
         rintro _ w ⟨e6,rfl,H⟩ a E
         refine nt<|?_
         refine ⟨⟨_,_,H,(aB mm5 (aB (t2 mm6) (aL))),(aM)⟩,?_⟩
         refine bR<|?_
         clear hI
         exact aC<|have H:=H.drs [5,7];have H:=H.frs [2,3,3,3,6,6,6] rfl;X11 ⟨E.to rfl,H,b,hm⟩
        ·refine cs hm (fun M hm=>?_) fun M hm=>?_
         ·refine bW E rfl (wn rfl) rfl rfl (fun w hW=>nU (j:=6) E rfl rfl rfl M rfl E3 q6) fun a E=>?_
          refine fb E rfl (wn rfl) rfl rfl rfl rfl mm1 rfl E4 rfl fun a E=>fn 1 E rfl fun a E=>fbn E (cH c) rfl (wn rfl) rfl rfl rfl rfl m0 rfl U85 rfl hP fun a E=>bZ rfl<|have H:=H.nilRow 9 kS;have H:=H.frs [8,8,8,8,8,7,6,8,8] rfl;bd hm fun e7 b5 hm=>aU E (wn rfl) rfl rfl (bP E rfl rfl rfl (Wu _)) (Ag H b5)<|?_
          rintro _ w ⟨e8,rfl,H⟩ a E
          refine nt<|?_
          refine ⟨⟨_,_,H,(aB mm5 (aB (t2 mm6) (aL))),(aM)⟩,?_⟩
          refine bR<|?_
          clear hI
          exact aC<|have H:=H.drs [5,7];have H:=H.frs [2,3,3,3,6,6,6] rfl;X11 ⟨E.to rfl,H,b,hm⟩
         ·refine cs hm (fun N hm=>?_) fun N hm=>?_
          ·refine bW E rfl (wn rfl) rfl rfl (fun w hW=>nU (j:=7) E rfl rfl rfl N rfl E3 q6) fun a E=>?_
           refine fb E rfl (wn rfl) rfl rfl rfl rfl mm1 rfl E4 rfl fun a E=>fn 1 E rfl fun a E=>fbn E (cH c) rfl (wn rfl) rfl rfl rfl rfl m0 rfl U85 rfl hP fun a E=>bZ rfl<|have H:=H.nilRow 9 kS;have H:=H.frs [8,8,8,8,8,7,6,8,8] rfl;bd hm fun e9 b6 hm=>aU E (wn rfl) rfl rfl (bP E rfl rfl rfl (Ws _)) (Ah H b6)<|?_
           rintro _ w ⟨f0,rfl,H⟩ a E
           refine nt<|?_
           refine ⟨⟨_,_,H,(aB mm5 (aB (t2 mm6) (aL))),(aM)⟩,?_⟩
           refine bR<|?_
           clear hI
           exact aC<|have H:=H.drs [5,7];have H:=H.frs [2,3,3,3,6,6,6] rfl;X11 ⟨E.to rfl,H,b,hm⟩
          ·refine cs hm (fun O hm=>?_) fun O hm=>?_
           ·refine bW E rfl (wn rfl) rfl rfl (fun w hW=>nU (j:=8) E rfl rfl rfl O rfl E3 q6) fun a E=>?_
            refine fb E rfl (wn rfl) rfl rfl rfl rfl mm1 rfl E4 rfl fun a E=>fn 1 E rfl fun a E=>fbn E (cH c) rfl (wn rfl) rfl rfl rfl rfl m0 rfl U85 rfl hP fun a E=>bZ rfl<|have H:=H.nilRow 9 kS;have H:=H.frs [8,8,8,8,8,7,6,8,8] rfl;bd hm fun f1 b7 hm=>aU E (wn rfl) rfl rfl (bP E rfl rfl rfl (Wp _)) (Bs H b7)<|?_
            rintro _ w ⟨f2,rfl,H⟩ a E
            refine nt<|?_
            refine ⟨⟨_,_,H,(aB mm5 (aB (t2 mm6) (aL))),(aM)⟩,?_⟩
            refine bR<|?_
            clear hI
            exact aC<|have H:=H.drs [5,7];have H:=H.frs [2,3,3,3,6,6,6] rfl;X11 ⟨E.to rfl,H,b,hm⟩
           ·refine cs hm (fun P hm=>?_) fun P hm=>?_
            ·refine bW E rfl (wn rfl) rfl rfl (fun w hW=>nU (j:=9) E rfl rfl rfl P rfl E3 q6) fun a E=>?_
             refine fb E rfl (wn rfl) rfl rfl rfl rfl mm1 rfl E4 rfl fun a E=>fn 1 E rfl fun a E=>fbn E (cH c) rfl (wn rfl) rfl rfl rfl rfl m0 rfl U85 rfl hP fun a E=>bZ rfl<|have H:=H.nilRow 9 kS;have H:=H.frs [8,8,8,8,8,7,6,8,8] rfl;bd hm fun f3 b8 hm=>aU E (wn rfl) rfl rfl (bP E rfl rfl rfl (Wo _)) (T5 H b8)<|?_
             rintro _ w ⟨f4,rfl,H⟩ a E
             refine nt<|?_
             refine ⟨⟨_,_,H,(aB mm5 (aB (t2 mm6) (aL))),(aM)⟩,?_⟩
             refine bR<|?_
             clear hI
             exact aC<|have H:=H.drs [5,7];have H:=H.frs [2,3,3,3,6,6,6] rfl;X11 ⟨E.to rfl,H,b,hm⟩
            ·refine cs hm (fun Q hm=>?_) fun Q hm=>?_
             ·refine bW E rfl (wn rfl) rfl rfl (fun w hW=>nU (j:=10) E rfl rfl rfl Q rfl E3 q6) fun a E=>?_
              refine fb E rfl (wn rfl) rfl rfl rfl rfl mm1 rfl E4 rfl fun a E=>fn 1 E rfl fun a E=>fbn E (cH c) rfl (wn rfl) rfl rfl rfl rfl m0 rfl U85 rfl hP fun a E=>bZ rfl<|have H:=H.nilRow 9 kS;have H:=H.frs [8,8,8,8,8,7,6,8,8] rfl;bd hm fun f5 b9 hm=>aU E (wn rfl) rfl rfl (bP E rfl rfl rfl (Wj _)) (T2 H b9)<|?_
              rintro _ w ⟨f6,f7,rfl,H⟩ a E
              refine nt<|?_
              refine ⟨⟨_,_,H,(aB mm5 (aB (t2 mm6) (aL))),(aM)⟩,?_⟩
              refine bR<|?_
              clear hI
              exact aC<|have H:=H.drs [5,7];have H:=H.frs [2,3,3,3,6,6,6] rfl;X11 ⟨E.to rfl,H,b,hm⟩
             ·exact (bT hm rfl).elim
   ·clear E H hm
    rintro a w ⟨A,B,n,C,D,g,k,l,m,o,t,E,H,e,hm⟩
    unfold hY at hm
    refine sq<|pr 4 E rfl fun a E=>lb E H 3 rfl rfl rfl rfl rfl rfl rfl U41 rfl fun a E=>pr 1 E rfl fun a E=>nt<|wif E hm rfl (fun hm=>?_) fun hm=>?_
    ·refine wp_seq<|dw [(0,0),(1,0),(2,0),(3,0),(4,0),(5,1),(6,2)] [0,3] [] H (by kernel_rfl) (fun _ _ _ h=>False.elim h.2) fun w W0 hI H=>fbn E [p,q] rfl (wn rfl) rfl rfl rfl rfl m0 rfl U25 rfl dA fun a E=>fn 3 E rfl fun a E=>fbn E [.int .i64 g,.string k,.string l,.int .i64 m,n] rfl (wn rfl) rfl rfl rfl rfl mm1 rfl U81 rfl zU fun a E=>bZ rfl<|aZ (i:=1) E H (wn rfl) rfl rfl rfl rfl rfl rfl dA rfl (jK H (e _ u) (e _ x)) fun w H=>nt<|?_
     refine ⟨⟨_,_,H,(aB m0 (aB mm3 (aL))),(aM)⟩,?_⟩
     refine bQ rfl<|?_
     obtain ⟨q39,c5,rfl⟩:=H.rowform (i:=6) rfl
     refine aZ (i:=2) E H (wn rfl) rfl rfl rfl rfl rfl rfl zU rfl rfl fun w H=>nt<|bR<|?_
     clear hI
     refine aC<|wp_ret<|aP<|rJ E rfl (cV (i:=1) (us:=[p,q]) H rfl rfl rfl U25 rfl dA) (cV (i:=2) (us:=[.int .i64 g,.string k,.string l,.int .i64 m,(.slice q39 o.length c5)]) H rfl rfl rfl U81 rfl zU)<|have H:=H.thaw (i:=6) rfl;have H:=H.drs [0,0,0,0,0,0];?_
     cases hm
     exact X3 ⟨rfl,H.reads (aA (t1 (e _ u)) (aA (t1 (e _ x)) (aA m0 (fun r hr=>(t1 (e r hr))))))⟩
    ·refine wp_skip<|aC<|wp_seq<|dw [(0,0),(1,0),(2,0),(3,0),(4,0),(5,0),(6,0),(7,0),(8,1),(9,2)] [3] [] H (by kernel_rfl) (fun _ _ _ h=>False.elim h.2) fun w W0 hI H=>fn 3 E rfl fun a E=>fbn E [A,B] rfl (wn rfl) rfl rfl rfl rfl m0 rfl U25 rfl dA fun a E=>fn 3 E rfl fun a E=>fbn E [.int .i64 g,.string k,.string l,.int .i64 m,n] rfl (wn rfl) rfl rfl rfl rfl m0 rfl U81 rfl zU fun a E=>bZ rfl<|?_
     obtain ⟨q41,c6,rfl⟩:=H.rowform (i:=4) rfl
     obtain ⟨q43,c7,rfl⟩:=H.rowform (i:=5) rfl
     refine aZ (i:=1) E H (wn rfl) rfl rfl rfl rfl rfl rfl dA rfl rfl fun w H=>nt<|?_
     refine ⟨⟨_,_,H,(aB mm3 (aL)),(aM)⟩,?_⟩
     refine bQ rfl<|?_
     obtain ⟨q45,c8,rfl⟩:=H.rowform (i:=6) rfl
     refine aZ (i:=2) E H (wn rfl) rfl rfl rfl rfl rfl rfl zU rfl rfl fun w H=>nt<|bR<|?_
     clear hI
     refine aC<|wp_ret<|rJ E rfl (cV (i:=1) (us:=[(.slice q41 C.length c6),(.slice q43 D.length c7)]) H rfl rfl rfl U25 rfl dA) (cV (i:=2) (us:=[.int .i64 g,.string k,.string l,.int .i64 m,(.slice q45 o.length c8)]) H rfl rfl rfl U81 rfl zU)<|have H:=H.thaw (i:=4) rfl;have H:=H.thaw (i:=4) rfl;have H:=H.thaw (i:=4) rfl;have H:=H.drs [0,0,0,0];?_
     cases hm
     exact X3 ⟨rfl,H.reads (aA mm2 (aA mm1 (aA m0 (fun r hr=>(t3 (e r hr))))))⟩

def wB(g:List cF)(x1:bB):Nat→(List cL)→Int→(List aE)→(List aI)→Option (bB×(List cL)×Int×Int)
  | 0,_,_,_,_=>none
  | j+1,d,c,e,f=>
    if (decide (c < (g.length:Int)))=true then ((idx g c).bind fun i=>(P8 (⟨e,f⟩:bB) i.Part).bind fun b=>if (b.2.Err != 0)=true then (some (x1,[],b.2.Err,c)) else ((ck (d.length+([b.2]:List cL).length ≤ LIM)).bind fun k=>wB g x1 j (d ++ ([b.2]:List cL)) (IntKind.i64.wrap (c+1)) b.1.Nodes b.1.Turns)) else (some ((⟨e,f⟩:bB),d,0,0))
def r5(x1:bB)(b:List cF):Option (bB×(List cL)×Int×Int):=
  wB b x1 (((b.length:Int) - 0:Int).toNat+1) [] 0 x1.Nodes x1.Turns
theorem F7{x1:bB}{q s I:Value}{u:List cF}(H:Sep w (Fo) rs)(m:rSl aF q x1.Nodes ∈ rs)(n:rSl aJ s x1.Turns ∈ rs)(B:rSl cE I u ∈ rs)(M:xU Tryz.prog ∈ rs){r:bB×(List cL)×Int×Int}(hm:r5 x1 u=some r) :
    Calls Tryz.prog 72 [.agg #[q,s],I].toArray w (Ret fun v w'=>∃ N O P,.tuple #[.agg #[N,O],P,.int .i64 r.2.2.1,.int .i64 r.2.2.2]=v∧Sep w' (Row 81 bE P r.2.1::Fo) (rSl aF N r.1.Nodes::rSl aJ O r.1.Turns::rs)):=by
 unfold r5 at hm
 refine ent Tryz.func72 rfl Tryz.ntmps72 rfl rfl fun a E=>sq<|bS E H (wn rfl) rfl rfl rfl rfl rfl fun C w a H E=>al E H rfl rfl rfl rfl jN fun D w a H E=>pr 3 E rfl fun a E=>nx<|sv E rfl rfl rfl (cA (i:=1) (us:=[q,s]) E H rfl rfl rfl rfl U25 rfl dA) fun a E=>al E H rfl rfl rfl rfl jN fun F w a H E=>aZ (i:=0) E H (wn rfl) rfl rfl rfl rfl rfl rfl dA rfl (jK H m n) fun w H=>?_
 refine nx<|pr 1 E rfl fun a E=>nt<|wp_seq<|sq<|pr 1 E rfl fun a E=>sv E rfl rfl rfl (cR E H rfl rfl B U26) fun a E=>pr 1 E rfl fun a E=>nt<|?_
 refine wp_block<|bX (fun t a w=>∃ y g j z A o p f,Env 44 a [(2,pt C 0),(4,pt D 0),(8,pt F 0),(9,y),(15,I),(16,.int .i64 (u.length:Int)),(17,.int .i64 A)]∧Sep w (Blk C 25 [q,s]::Blk D 25 [.slice none 0 0,.slice none 0 0]::Blk F 25 [g,j]::Row 81 bE y z::Fo) f∧(∀ r,r ∈ rs→r ∈ f)∧rSl aF g o ∈ f∧rSl aJ j p ∈ f∧wB u x1 t z A o p=some r) (((u.length:Int) - 0:Int).toNat+1) ?_ ?_
 ·exact have H:=H.nilRow 81 bE;have H:=H.frs [0,1,2,3] rfl;X8 ⟨E.to rfl,H,Y0,m,n,hm⟩
 ·clear E H hm
  rintro t a w ⟨y,g,j,z,A,o,p,f,E,H,c,k,l,hm⟩
  cases t with
  | zero=>exact (bT hm rfl).elim
  | succ t=>
   unfold wB at hm
   refine sq<|pr 1 E rfl fun a E=>nt<|wp_seq<|wif E hm rfl (fun hm=>?_) fun hm=>?_
   ·refine wp_skip<|aC<|wp_seq<|wp_block<|sq<|pr 1 E rfl fun a E=>bd hm fun Q J hm=>dE E H (wn rfl) rfl rfl rfl rfl rfl (c _ B) U26 s8 J fun q26 a H E=>ldf sJ E H rfl rfl rfl rfl rfl m0 U87 rfl s8 fun a E=>?_
    refine al E H rfl rfl rfl rfl Ig fun U w a H E=>pr 1 E rfl fun a E=>aZ (i:=0) E H (wn rfl) rfl rfl rfl rfl rfl rfl s8 rfl rfl fun w H=>nx<|sv E rfl rfl rfl (cA (i:=3) (us:=[g,j]) E H rfl rfl rfl rfl U25 rfl dA) fun a E=>pr 1 E rfl fun a E=>sv E rfl rfl rfl (cA (i:=0) (us:=(cH Q.Part)) E H rfl rfl rfl rfl U85 rfl hP) fun a E=>bd hm fun b K hm=>cG E rfl rfl rfl rfl rfl Wg (Ko (x1:=(⟨o,p⟩:bB)) H (t1 k) (t1 l) (t1 (c _ M)) K)<|?_
    rintro _ w ⟨R,S,T,rfl,H⟩ a E
    refine pr 3 E rfl fun a E=>al E H rfl rfl rfl rfl jN fun V w a H E=>al E H rfl rfl rfl rfl Sg fun W w a H E=>aZ (i:=1) E H (wn rfl) rfl rfl rfl rfl rfl rfl dA rfl (jK H m0 mm1) fun w H=>aZ (i:=0) E H (wn rfl) rfl rfl rfl rfl rfl rfl zU rfl (Cf H mm2) fun w H=>nt<|wp_seq<|sq<|pr 1 E rfl fun a E=>?_
    refine lb E H 0 rfl rfl rfl rfl rfl rfl rfl U41 rfl fun a E=>pr 1 E rfl fun a E=>nt<|wif E hm rfl (fun hm=>?_) fun hm=>?_
    ·refine wp_seq<|dw [(0,0),(1,0),(2,0),(3,0),(4,1),(5,1),(6,1),(7,2)] [0,3] [] H (by kernel_rfl) (fun _ _ _ h=>False.elim h.2) fun w W0 hI H=>fbn E [q,s] rfl (wn rfl) rfl rfl rfl rfl mm1 rfl U25 rfl dA fun a E=>fn 1 E rfl fun a E=>fb E rfl (wn rfl) rfl rfl rfl rfl m0 rfl U41 rfl fun a E=>fn 1 E rfl fun a E=>bZ rfl<|aZ (i:=4) E H (wn rfl) rfl rfl rfl rfl rfl rfl dA rfl (jK H (t4 (c _ m)) (t4 (c _ n))) fun w H=>nt<|?_
     refine ⟨⟨_,_,H,(aB m0 (aB mm3 (aL))),(aM)⟩,?_⟩
     refine bZ rfl<|pr 1 E rfl fun a E=>nt<|?_
     refine ⟨⟨_,_,H,(aB m0 (aB mm3 (aL))),(aM)⟩,?_⟩
     refine bZ rfl<|pr 1 E rfl fun a E=>nt<|?_
     refine ⟨⟨_,_,H,(aB m0 (aB mm3 (aL))),(aM)⟩,?_⟩
     refine bQ rfl<|pr 1 E rfl fun a E=>nt<|bR<|?_
     clear hI
     refine aC<|wp_ret<|aP<|bV<|aP<|aP<|bV<|aP<|Ml E rfl (cV (i:=4) (us:=[q,s]) H rfl rfl rfl U25 rfl dA) (rvT rfl) (rvT rfl) (rvT rfl)<|?_
     refine have H:=H.nilRow 81 bE;have H:=H.drs [1,1,1,1,1,1,1];?_
     cases hm
     exact X3 ⟨rfl,H.reads (aA (t4 (c _ m)) (aA (t4 (c _ n)) (fun r hr=>(t4 (c r hr)))))⟩
    ·refine wp_skip<|aC<|sq<|sv E rfl rfl rfl (cA (i:=1) (us:=[R,S]) E H rfl rfl rfl rfl U25 rfl dA) fun a E=>aZ (i:=5) E H (wn rfl) rfl rfl rfl rfl rfl rfl dA rfl (jK H m0 mm1) fun w H=>nt<|wp_region_lit<|pr 1 E rfl fun a E=>sv E rfl rfl rfl (cA (i:=0) (us:=(O1 b.2 T)) E H rfl rfl rfl rfl U81 rfl zU) fun a E=>?_
     obtain ⟨q35,G,rfl⟩:=H.slform mm2
     refine pI (e:=81) (d:=bE) (cs:=[.int .i64 b.2.Err,.string b.2.Path,.string b.2.Data,.int .i64 b.2.Version,(.slice q35 b.2.Names.length G)]) (xs:=[b.2]) E H (wn rfl) rfl rfl rfl (E.evs rfl) (by kernel_rfl) rfl (fun ok hr=>(Rows.single (d:=bE) (cs:=[.int .i64 b.2.Err,.string b.2.Path,.string b.2.Data,.int .i64 b.2.Version,(.slice q35 b.2.Names.length G)]) (x:=b.2) (Bb (hr _ mm2)))) fun X w a H E=>bk hm fun L hm=>dV (i:=6) E H (wn rfl) rfl rfl rfl rfl rfl rfl (jA m0) U40 Xh rfl L rfl fun Y w a H E=>pr 1 E rfl fun a E=>wpList_nil<|bY<|aC<|wp_region_lit<|pr 2 E rfl fun a E=>?_
     exact nt<|have H:=H.drs [0,0,0];⟨t,Nat.lt_succ_self t,X8 ⟨E.to rfl,H,(Y5 c),mm1,mm2,hm⟩⟩
   ·refine wp_exit<|bH<|bH<|dG<|aC<|sq<|sv E rfl rfl rfl (cA (i:=2) (us:=[g,j]) E H rfl rfl rfl rfl U25 rfl dA) fun a E=>pr 1 E rfl fun a E=>aZ (i:=1) E H (wn rfl) rfl rfl rfl rfl rfl rfl dA rfl (jK H k l) fun w H=>?_
    refine pr 3 E rfl fun a E=>nt<|wp_ret<|Ml E rfl (cV (i:=1) (us:=[g,j]) H rfl rfl rfl U25 rfl dA) (rvT rfl) (rvT rfl) (rvT rfl)<|have H:=H.drs [0,0,0];?_
    cases hm
    exact X3 ⟨rfl,H.reads (aA k (aA l (c)))⟩

def rN(x1:Int):Option Bool:=
  some (x1 != x1)
theorem x5{x1:Int}(H:Sep w (Fo) rs){r:Bool}(hm:rN x1=some r) :
    Calls Tryz.prog 284 [.int .i64 x1].toArray w (Ret fun v w'=>.bool r=v∧Sep w' (Fo) (rs)):=by
 unfold rN at hm
 refine ent Tryz.func284 rfl Tryz.ntmps284 rfl rfl fun a E=>sq<|pr 1 E rfl fun a E=>nx<|pr 4 E rfl fun a E=>nt<|wp_ret<|aY E rfl rfl<|?_
 cases hm
 exact ⟨rfl,H.reads Y0⟩

def tV(x1:Int)(b:Int):Option Int:=
  (rN x1).bind fun d=>(rN b).bind fun c=>if d=true then (if c=true then (some (0)) else (some ((-1)))) else (if c=true then (some (1)) else (if (decide (x1 < b))=true then (some ((-1))) else (if (decide (x1 > b))=true then (some (1)) else (some (0)))))
theorem M8{x1 b:Int}(H:Sep w (Fo) rs){r:Int}(hm:tV x1 b=some r) :
    Calls Tryz.prog 232 [.int .i64 x1,.int .i64 b].toArray w (Ret fun v w'=>.int .i64 r=v∧Sep w' (Fo) (rs)):=by
 unfold tV at hm
 refine ent Tryz.func232 rfl Tryz.ntmps232 rfl rfl fun a E=>sq<|pr 1 E rfl fun a E=>nx<|pr 1 E rfl fun a E=>bd hm fun e c hm=>xk E rfl rfl rfl rfl rfl Ms (x5 H c) fun w H a E=>pr 1 E rfl fun a E=>nx<|?_
 refine pr 1 E rfl fun a E=>bd hm fun f d hm=>xk E rfl rfl rfl rfl rfl Ms (x5 H d) fun w H a E=>pr 1 E rfl fun a E=>nt<|wp_seq<|sq<|pr 1 E rfl fun a E=>nt<|wif E hm rfl (fun hm=>?_) fun hm=>?_
 ·refine wp_seq<|sq<|pr 1 E rfl fun a E=>nt<|wif E hm rfl (fun hm=>?_) fun hm=>?_
  ·refine sq<|pr 1 E rfl fun a E=>nt<|wp_ret<|aP<|aP<|aY E rfl rfl<|?_
   cases hm
   exact ⟨rfl,H.reads Y0⟩
  ·refine wp_skip<|aC<|sq<|pr 1 E rfl fun a E=>nt<|wp_ret<|aP<|aY E rfl rfl<|?_
   cases hm
   exact ⟨rfl,H.reads Y0⟩
 ·refine wp_skip<|aC<|wp_seq<|sq<|pr 1 E rfl fun a E=>nt<|wif E hm rfl (fun hm=>?_) fun hm=>?_
  ·refine sq<|pr 1 E rfl fun a E=>nt<|wp_ret<|aP<|aY E rfl rfl<|?_
   cases hm
   exact ⟨rfl,H.reads Y0⟩
  ·refine wp_skip<|aC<|wp_seq<|sq<|pr 3 E rfl fun a E=>nt<|wif E hm rfl (fun hm=>?_) fun hm=>?_
   ·refine sq<|pr 1 E rfl fun a E=>nt<|wp_ret<|aP<|aY E rfl rfl<|?_
    cases hm
    exact ⟨rfl,H.reads Y0⟩
   ·refine wp_skip<|aC<|wp_seq<|sq<|pr 3 E rfl fun a E=>nt<|wif E hm rfl (fun hm=>?_) fun hm=>?_
    ·refine sq<|pr 1 E rfl fun a E=>nt<|wp_ret<|aP<|aY E rfl rfl<|?_
     cases hm
     exact ⟨rfl,H.reads Y0⟩
    ·refine wp_skip<|aC<|sq<|pr 1 E rfl fun a E=>nt<|wp_ret<|aY E rfl rfl<|?_
     cases hm
     exact ⟨rfl,H.reads Y0⟩

def wC(x1:aD)(x3:Int):Option Int:=
  (tV x1.Num x3).bind fun b=>some (b)
theorem y3{x1:aD}{c:Value}{x3:Int}(H:Sep w (Fo) rs){r:Int}(hm:wC x1 x3=some r) :
    Calls Tryz.prog 164 [.agg (kT x1 c).toArray,.int .i64 x3].toArray w (Ret fun v w'=>.int .i64 r=v∧Sep w' (Fo) (rs)):=by
 unfold wC at hm
 refine ent Tryz.func164 rfl Tryz.ntmps164 rfl rfl fun a E=>sq<|bS E H (wn rfl) rfl rfl rfl rfl rfl fun d w a H E=>pr 1 E rfl fun a E=>nx<|pr 1 E rfl fun a E=>lb E H 0 rfl rfl rfl rfl rfl rfl rfl U2 rfl fun a E=>pr 1 E rfl fun a E=>bd hm fun e b hm=>?_
 refine xk E rfl rfl rfl rfl rfl Vv (M8 H b) fun w H a E=>pr 1 E rfl fun a E=>nt<|wp_ret<|aY E rfl rfl<|have H:=H.drop 0;?_
 cases hm
 exact ⟨rfl,H.reads Y0⟩

def cT(c:List aD)(x3:Int):Nat→Int→Int→Option (Int×Bool)
  | 0,_,_=>none
  | e+1,b,d=>
    if (decide (b < d))=true then ((idx c (IntKind.i64.wrap (pH .u64 (IntKind.u64.wrap (IntKind.i64.wrap (b+d))) 1))).bind fun j=>(wC j x3).bind fun f=>if (decide (f < 0))=true then (cT c x3 e (IntKind.i64.wrap ((IntKind.i64.wrap (pH .u64 (IntKind.u64.wrap (IntKind.i64.wrap (b+d))) 1))+1)) d) else (cT c x3 e b (IntKind.i64.wrap (pH .u64 (IntKind.u64.wrap (IntKind.i64.wrap (b+d))) 1)))) else (if (decide (b < (c.length:Int)))=true then ((idx c b).bind fun g=>(wC g x3).bind fun i=>some (b,i == 0)) else (some (b,false)))
def eB(b:List aD)(x3:Int):Option (Int×Bool):=
  cT b x3 (((b.length:Int) - 0:Int).toNat+1) 0 (b.length:Int)
theorem mT{j:Value}{e:List aD}{x3:Int}(H:Sep w (Row 215 aO j e::Fo) rs){r:Int×Bool}(hm:eB e x3=some r) :
    Calls Tryz.prog 163 [j,.int .i64 x3,.func (.func 164) #[] #[]].toArray w (Ret fun v w'=>.tuple #[.int .i64 r.1,.bool r.2]=v∧Sep w' (Row 215 aO j e::Fo) (rs)):=by
 unfold eB at hm
 refine ent Tryz.func163 rfl Tryz.ntmps163 rfl rfl fun a E=>sq<|pr 2 E rfl fun a E=>nx<|pr 1 E rfl fun a E=>sv E rfl rfl rfl (iZ (i:=0) E H rfl rfl rfl U71) fun a E=>pr 1 E rfl fun a E=>nx<|pr 3 E rfl fun a E=>?_
 refine nt<|wp_seq<|wp_block<|bX (fun c a w=>∃ u x l,Env 49 a [(0,j),(1,.int .i64 x3),(2,.func (.func 164) #[] #[]),(8,.int .i64 (e.length:Int)),(9,.int .i64 u),(10,.int .i64 x)]∧Sep w (Row 215 aO j e::Fo) l∧(∀ r,r ∈ rs→r ∈ l)∧cT e x3 c u x=some r) (((e.length:Int) - 0:Int).toNat+1) ?_ ?_
 ·exact X3 ⟨E.to rfl,H,Y0,hm⟩
 ·clear E H hm
  rintro c a w ⟨u,x,l,E,H,g,hm⟩
  cases c with
  | zero=>exact (bT hm rfl).elim
  | succ c=>
   unfold cT at hm
   refine wp_seq<|sq<|pr 3 E rfl fun a E=>nt<|wif E hm rfl (fun hm=>?_) fun hm=>?_
   ·refine wp_skip<|aC<|wp_block<|sq<|pr 4 E rfl fun a E=>sv E rfl rfl rfl (J4 E rfl rfl rfl (by decide)) fun a E=>pr 2 E rfl fun a E=>nx<|pr 3 E rfl fun a E=>?_
    refine bd hm fun A m hm=>?_
    obtain ⟨B,C,n⟩:=H.rowformNE (i:=0) rfl m
    refine sv E rfl rfl rfl (cY (d:=aO) E n rfl rfl rfl rfl U71 rL m) fun a E=>Aw (i:=0) (k:=0) (s:=3) E H n (wn rfl) rfl rfl rfl rfl rfl m rfl Ch rfl rL fun D a H E=>?_
    obtain ⟨_,hcs⟩:=H.rd (.head _)
    obtain ⟨p,rfl,-⟩:=dF hcs
    clear hcs
    refine have H:=H.derive1 m0 (rSl aV p A.Events) (fun ok h=>gA h);?_
    replace E:Env 49 a ((28,.agg (kT A p).toArray)::_):=E
    refine pr 1 E rfl fun a E=>bd hm fun F y hm=>aU E (wn rfl) rfl rfl (bP E rfl rfl rfl (Dz _)) (y3 H y)<|?_
    rintro _ w ⟨rfl,H⟩ a E
    refine pr 1 E rfl fun a E=>nt<|wif E hm rfl (fun hm=>?_) fun hm=>?_
    ·exact wp_region_lit<|pr 3 E rfl fun a E=>wpList_nil<|bY<|aC<|⟨c,Nat.lt_succ_self c,X3 ⟨E.to rfl,H,(Y2 g),hm⟩⟩
    ·exact wp_region_lit<|pr 2 E rfl fun a E=>wpList_nil<|bY<|aC<|⟨c,Nat.lt_succ_self c,X3 ⟨E.to rfl,H,(Y2 g),hm⟩⟩
   ·refine wp_exit<|bH<|bH<|dG<|aC<|sq<|pr 5 E rfl fun a E=>cs hm (fun b hm=>?_) fun b hm=>?_
    ·refine pk 3 E (kc 39 rfl b) rfl fun a E=>bd hm fun q f hm=>?_
     obtain ⟨G,I,o⟩:=H.rowformNE (i:=0) rfl f
     refine aQ E (ws' (d:=39) E rfl rfl rfl rfl b) rfl rfl (cY (d:=aO) E o rfl rfl rfl rfl U71 rL f) fun a E=>Aw (i:=0) (k:=0) (s:=3) E H o (ws' (d:=39) E rfl rfl rfl rfl b) rfl rfl rfl rfl rfl f rfl Ch rfl rL fun J a H E=>?_
     obtain ⟨_,hcs⟩:=H.rd (.head _)
     obtain ⟨t,rfl,-⟩:=dF hcs
     clear hcs
     refine have H:=H.derive1 m0 (rSl aV t q.Events) (fun ok h=>gA h);?_
     replace E:Env 49 a ((44,.agg (kT q t).toArray)::_):=E
     refine pk 1 E (kc 39 rfl b) rfl fun a E=>bd hm fun K z hm=>aU E (ws' (d:=39) E rfl rfl rfl rfl b) rfl rfl (bP E rfl rfl rfl (Dz _)) (y3 H z)<|?_
     rintro _ w ⟨rfl,H⟩ a E
     refine pk 4 E (kc 39 rfl b) rfl fun a E=>nt<|wp_ret<|fX E rfl rfl rfl<|?_
     cases hm
     exact ⟨rfl,H.reads (Y2 g)⟩
    ·refine pk 11 E (kc 39 rfl b) rfl fun a E=>nt<|wp_ret<|fX E rfl rfl rfl<|?_
     cases hm
     exact ⟨rfl,H.reads g⟩

def uI(c:aK)(d:aD)(b:(List aD)):Option (Bool×(List aD)):=
  if c.Deep=true then (some (decide ((d.Events.length:Int) < 7),b)) else (some (false,b))
def uJ(c:aK)(b:aD)(d:Int)(e:ByteArray)(f:List aD)(g:Int)(i:Bool):Option (Bool×(List aD)):=
  if i=true then ((ck ((({ b with Count:=IntKind.i64.wrap (b.Count+1) }:aD).Events).length ≤ LIM)).bind fun j=>(ck ((({ b with Count:=IntKind.i64.wrap (b.Count+1) }:aD).Events).length+([(⟨IntKind.i64.wrap (b.Count+1),d,e,c.Num⟩:bK)]:List bK).length ≤ LIM)).bind fun k=>uI c b ((f.set g.toNat ({ b with Count:=IntKind.i64.wrap (b.Count+1) }:aD)).set g.toNat ({ ({ b with Count:=IntKind.i64.wrap (b.Count+1) }:aD) with Events:=(({ b with Count:=IntKind.i64.wrap (b.Count+1) }:aD).Events) ++ ([(⟨IntKind.i64.wrap (b.Count+1),d,e,c.Num⟩:bK)]:List bK) }:aD))) else (uI c b f)
def uK(c:aK)(b:aD)(f:List aD)(g:Int)(d:Int)(e:ByteArray):Option (Bool×(List aD)):=
  if (decide ((b.Events.length:Int) < 8))=true then (uJ c b d e f g (decide (b.Count < 281474976710656))) else (uJ c b d e f g false)
def B2(d:List aD)(e:Int)(c:aD)(b:aK)(f:Int)(g:ByteArray):Option (Bool×(List aD)):=
  if ((c.Events.length:Int) == 7)=true then (uK b c d e 4 b.Path) else (uK b c d e f g)
theorem Ga{m:Value}{F V X:Nat}{t:List aD}{s G:Int}{b:aD}{c:aK}{I:ByteArray}(j:idx t s=some b)(l:m= .slice (some ⟨F,0,none⟩) V X)(H:Sep w (Row 215 aO m t::Fo) rs){r:Bool×(List aD)}(hm:B2 t s b c G I=some r) :
    Calls Tryz.prog 297 [.pointer (some ⟨F,s.toNat * 3,none⟩),.agg (dL c).toArray,.int .i64 G,.string I].toArray w (Ret fun v w'=>.bool r.1=v∧Sep w' (Row 215 aO m r.2::Fo) (rs)):=by
 unfold B2 at hm
 refine ent Tryz.func297 rfl Tryz.ntmps297 rfl rfl fun a E=>sq<|bS E H (wn rfl) rfl rfl rfl rfl rfl fun o w a H E=>pr 1 E rfl fun a E=>nx<|pr 3 E rfl fun a E=>yI (i:=1) (k:=2) E H l (wn rfl) rfl rfl rfl rfl rfl j rfl U44 rfl fun Y a H E=>?_
 obtain ⟨_,hcs⟩:=H.rd (.head _)
 obtain ⟨N,rfl,-⟩:=dF hcs
 clear hcs
 refine have H:=H.derive1 m0 (rSl aV N b.Events) (fun ok h=>gA h);?_
 replace E:Env 65 a ((14,N)::_):=E
 refine sv E rfl rfl rfl (cR E H rfl rfl m0 U44) fun a E=>pr 1 E rfl fun a E=>nt<|wp_seq<|dw [(0,0),(1,0),(2,0),(3,0),(4,0),(5,0),(6,0),(7,0),(8,0),(9,0),(10,1),(11,2)] [0,1] [] H (by kernel_rfl) (fun _ _ _ h=>False.elim h.2) fun w W0 hI H=>fn 3 E rfl fun a E=>bW E rfl (wn rfl) rfl rfl (fun w hW=>Jy (d:=aO) (k:=1) (u:=.int .i64 b.Count) E l j mm1 (fun w ok cs h=>by obtain ⟨m,rfl,-⟩:=dF h;rfl) rfl rfl U2 rfl hW) fun a E=>?_
 refine fn 4 E rfl fun a E=>fb E rfl (wn rfl) rfl rfl rfl rfl m0 rfl U2 rfl fun a E=>bW E rfl (wn rfl) rfl rfl (fun w hW=>(cI E rfl (E.evs rfl) (v:=.agg #[.int .i64 (IntKind.i64.wrap (b.Count+1)),.int .i64 G,.string I,.int .i64 c.Num]) (by kernel_rfl))) fun a E=>?_
 refine bZ rfl<|al E H rfl rfl rfl rfl Ij fun p w a H E=>nt<|?_
 refine ⟨⟨_,_,H,(aB mm1 (aB mm2 (aL))),(aM)⟩,?_⟩
 refine bQ rfl<|aZ (i:=0) E H (wn rfl) rfl rfl rfl rfl rfl rfl rM rfl rfl fun w H=>nt<|bR<|?_
 clear hI
 refine aC<|aT (fun a w=>∃ f g y,Env 65 a [(0,.pointer (some ⟨F,s.toNat * 3,none⟩)),(5,pt o 0),(9,.int .i64 (b.Events.length:Int)),(10,pt p 0)]∧Sep w (Row 215 aO m t::Blk o 35 (dL c)::Blk p 223 [.int .i64 (IntKind.i64.wrap (b.Count+1)),.int .i64 f,.string g,.int .i64 c.Num]::Fo) y∧(∀ r,r ∈ rs→r ∈ y)∧uK c b t s f g=some r) ?_ ?_
 ·refine sq<|pr 2 E rfl fun a E=>nt<|wif E hm rfl (fun hm=>?_) fun hm=>?_
  ·refine dw [(0,0),(1,0),(2,0),(3,1),(4,2),(5,2)] [1] [] H (by kernel_rfl) (fun _ _ _ h=>False.elim h.2) fun w W0 hI H=>fn 1 E rfl fun a E=>fb E rfl (wn rfl) rfl rfl rfl rfl m0 rfl U9 rfl fun a E=>fn 1 E rfl fun a E=>bZ rfl<|aZ (i:=0) E H (wn rfl) rfl rfl rfl rfl rfl rfl sz3 rfl rfl fun w H=>nt<|?_
   refine ⟨⟨_,_,H,(aB mm1 (aL)),(aM)⟩,?_⟩
   refine bQ rfl<|pr 1 E rfl fun a E=>nt<|bQ rfl<|aZ (i:=0) E H (wn rfl) rfl rfl rfl rfl rfl rfl sz9 rfl rfl fun w H=>nt<|bR<|?_
   clear hI
   exact aC<|have H:=H.frs [0,1,2] rfl;X3 ⟨E.to rfl,H,(Y2 Y0),hm⟩
  ·exact wp_skip<|aC<|have H:=H.frs [0,1,2] rfl;X3 ⟨E.to rfl,H,(Y2 Y0),hm⟩
 ·clear E H hm
  rintro a w ⟨f,g,y,E,H,J,hm⟩
  unfold uK at hm
  refine aT (fun a w=>∃ K z,Env 65 a [(5,pt o 0),(9,.int .i64 (b.Events.length:Int))]∧Sep w (Blk o 35 (dL c)::Row 215 aO m K::Fo) z∧(∀ r,r ∈ rs→r ∈ z)∧uI c b K=some r) ?_ ?_
  ·refine aT (fun a w=>∃ L A,Env 65 a [(0,.pointer (some ⟨F,s.toNat * 3,none⟩)),(5,pt o 0),(9,.int .i64 (b.Events.length:Int)),(10,pt p 0),(40,.bool L)]∧Sep w (Row 215 aO m t::Blk o 35 (dL c)::Blk p 223 [.int .i64 (IntKind.i64.wrap (b.Count+1)),.int .i64 f,.string g,.int .i64 c.Num]::Fo) A∧(∀ r,r ∈ rs→r ∈ A)∧uJ c b f g t s L=some r) ?_ ?_
   ·refine wp_region_lit<|pr 3 E rfl fun a E=>cs hm (fun n hm=>?_) fun n hm=>?_
    ·refine pk 3 E (kc 34 rfl n) rfl fun a E=>yI (i:=0) (k:=1) E H l (ws' (d:=34) E rfl rfl rfl rfl n) rfl rfl rfl rfl rfl j rfl U2 rfl fun Z a H E=>?_
     obtain ⟨_,hcs⟩:=H.rd (.head _)
     obtain ⟨Q,rfl,-⟩:=dF hcs
     clear hcs
     refine have H:=H.derive1 m0 (rSl aV Q b.Events) (fun ok h=>gA h);?_
     replace E:Env 65 a ((38,.int .i64 b.Count)::_):=E
     exact pk 2 E (kc 34 rfl n) rfl fun a E=>nt<|⟨_,_,E.to rfl,H,(Y2 J),hm⟩
    ·exact pk 6 E (kc 34 rfl n) rfl fun a E=>nt<|⟨_,_,E.to rfl,H,J,hm⟩
   ·clear E H hm
    rintro a w ⟨L,A,E,H,q,hm⟩
    unfold uJ at hm
    refine wif E hm rfl (fun hm=>?_) fun hm=>?_
    ·refine sq<|pr 3 E rfl fun a E=>yI (i:=0) (k:=1) E H l (wn rfl) rfl rfl rfl rfl rfl j rfl U2 rfl fun b0 a H E=>?_
     obtain ⟨_,hcs⟩:=H.rd (.head _)
     obtain ⟨R,rfl,-⟩:=dF hcs
     clear hcs
     refine have H:=H.derive1 m0 (rSl aV R b.Events) (fun ok h=>gA h);?_
     replace E:Env 65 a ((44,.int .i64 b.Count)::_):=E
     refine pr 3 E rfl fun a E=>yP (i:=0) (k:=1) (us:=[.int .i64 (IntKind.i64.wrap (b.Count+1))]) (y':=({ b with Count:=IntKind.i64.wrap (b.Count+1) }:aD)) E H l (wn rfl) rfl rfl rfl rfl rfl rfl j rfl sz2 rfl (fun ok cs hr h=>by obtain ⟨m,rfl,g1⟩:=dF h;exact jB (x:=({ b with Count:=IntKind.i64.wrap (b.Count+1) }:aD)) g1) fun w H=>nt<|bk hm fun B hm=>bk hm fun C hm=>?_
     have hI:dP [Blk p 223 [.int .i64 (IntKind.i64.wrap (b.Count+1)),.int .i64 f,.string g,.int .i64 c.Num]] [] { w with drawn:=w.drawn+1 }:=⟨_,_,H.kept (Kp.drawn _ w _),(aB mm2 (aL)),(aM)⟩
     refine jY _ (.go 0 0 (.go 1 0 (.go 2 0 (.go 3 0 (.go 6 0 (.alt 4 (.alt 5 (.go 7 1 (.go 8 1 (.go 9 2 (.go 10 2 (.go 11 2 .nil))))) 7 (.go 5 1 (.go 8 1 (.go 9 2 (.go 10 2 (.go 11 2 .nil)))))) 7 (.go 4 1 (.go 5 1 (.go 8 1 (.go 9 2 (.go 10 2 (.go 11 2 .nil)))))))))))) [9,10,11] kG (by kernel_rfl) (fun _ _ _ h=>False.elim h.2) hI<|have H:=H.kept (Kp.drawn _ w (w.drawn+1));?_
     generalize ({ w with drawn:=w.drawn+1 }:World)=w at H hI ⊢
     replace hI:∃ W,dP [Blk p 223 [.int .i64 (IntKind.i64.wrap (b.Count+1)),.int .i64 f,.string g,.int .i64 c.Num]] [] W:=⟨_,hI⟩
     obtain ⟨W0,hI⟩:=hI
     refine aW E rfl (wn rfl) rfl rfl (fun w hW=>(bD E rfl rfl)) fun a E=>aW E rfl (wn rfl) rfl rfl (fun w hW=>(bD E rfl rfl)) fun a E=>aW E rfl (wn rfl) rfl rfl (fun w hW=>(sF E rfl rfl)) fun a E=>aW E rfl (wn rfl) rfl rfl (fun w hW=>iY E rfl rfl (v:=.pointer (some ⟨F,s.toNat * 3+2,none⟩)) (Hg _ _)) fun a E=>aW E rfl (wn rfl) rfl rfl (fun w hW=>eZ E rfl rfl (yN (us:=[.int .i64 (IntKind.i64.wrap (b.Count+1)),.int .i64 f,.string g,.int .i64 c.Num]) m0 rfl Ci rfl rM w hW)) fun a E=>?_
     refine kM rfl rfl ?_ ?_
     ·refine yI (i:=0) (k:=2) E H l (wn rfl) rfl rfl rfl rfl rfl (sI j) rfl U44 rfl fun b1 a H E=>?_
      obtain ⟨_,hcs⟩:=H.rd (.head _)
      obtain ⟨O,rfl,-⟩:=dF hcs
      clear hcs
      refine have H:=H.derive1 m0 (rSl aV O (({ b with Count:=IntKind.i64.wrap (b.Count+1) }:aD).Events)) (fun ok h=>gA h);?_
      replace E:Env 65 a ((52,O)::_):=E
      refine nt<|?_
      refine ⟨⟨_,_,H,(aB mm2 (aL)),(aM)⟩,?_⟩
      refine kM rfl rfl ?_ ?_
      ·refine aU E (wn rfl) rfl rfl (cC E rfl rfl (Bg _)) (dZ H m0 B) fun b2 w H a E=>nt<|?_
       refine ⟨⟨_,_,H,(aB mm3 (aL)),(aM)⟩,?_⟩
       refine cJ rfl<|pI (e:=223) (d:=aV) (cs:=[.int .i64 (IntKind.i64.wrap (b.Count+1)),.int .i64 f,.string g,.int .i64 c.Num]) (xs:=[(⟨IntKind.i64.wrap (b.Count+1),f,g,c.Num⟩:bK)]) E H (wn rfl) rfl rfl rfl (E.evs rfl) (by kernel_rfl) rfl (fun ok hr=>(Rows.single (d:=aV) (cs:=[.int .i64 (IntKind.i64.wrap (b.Count+1)),.int .i64 f,.string g,.int .i64 c.Num]) (x:=(⟨IntKind.i64.wrap (b.Count+1),f,g,c.Num⟩:bK)) vL)) fun b3 w a H E=>nt<|?_
       refine ⟨⟨_,_,H,(aB mm3 (aL)),(aM)⟩,?_⟩
       refine cJ rfl<|dV (i:=0) E H (wn rfl) rfl rfl rfl rfl rfl rfl (jA m0) U44 Bh rfl C rfl fun b4 w a H E=>nt<|?_
       refine ⟨⟨_,_,H,(aB mm3 (aL)),(aM)⟩,?_⟩
       refine cP rfl<|pr 1 E rfl fun a E=>nt<|cP rfl<|pr 1 E rfl fun a E=>nt<|cP rfl<|?_
       obtain ⟨q70,S,rfl⟩:=H.rowform (i:=0) rfl
       refine have H:=H.thaw (i:=0) rfl;yP (i:=0) (k:=2) (us:=[(.slice q70 ((({ b with Count:=IntKind.i64.wrap (b.Count+1) }:aD).Events) ++ ([(⟨IntKind.i64.wrap (b.Count+1),f,g,c.Num⟩:bK)]:List bK)).length S)]) (y':=({ ({ b with Count:=IntKind.i64.wrap (b.Count+1) }:aD) with Events:=(({ b with Count:=IntKind.i64.wrap (b.Count+1) }:aD).Events) ++ ([(⟨IntKind.i64.wrap (b.Count+1),f,g,c.Num⟩:bK)]:List bK) }:aD)) E H l (wn rfl) rfl rfl rfl rfl rfl rfl (sI j) rfl Il rfl (fun ok cs hr h=>by obtain ⟨m,rfl,g1⟩:=dF h;exact jB (x:=({ ({ b with Count:=IntKind.i64.wrap (b.Count+1) }:aD) with Events:=(({ b with Count:=IntKind.i64.wrap (b.Count+1) }:aD).Events) ++ ([(⟨IntKind.i64.wrap (b.Count+1),f,g,c.Num⟩:bK)]:List bK) }:aD)) (hr _ m0)) fun w H=>nt<|dW<|?_
       clear hI
       exact aC<|have H:=H.drop 2;have H:=H.frs [0,1] rfl;⟨_,_,E.to rfl,H,(Y6 q),hm⟩
      ·refine pI (e:=223) (d:=aV) (cs:=[.int .i64 (IntKind.i64.wrap (b.Count+1)),.int .i64 f,.string g,.int .i64 c.Num]) (xs:=[(⟨IntKind.i64.wrap (b.Count+1),f,g,c.Num⟩:bK)]) E H (wn rfl) rfl rfl rfl (E.evs rfl) (by kernel_rfl) rfl (fun ok hr=>(Rows.single (d:=aV) (cs:=[.int .i64 (IntKind.i64.wrap (b.Count+1)),.int .i64 f,.string g,.int .i64 c.Num]) (x:=(⟨IntKind.i64.wrap (b.Count+1),f,g,c.Num⟩:bK)) vL)) fun b5 w a H E=>nt<|?_
       refine ⟨⟨_,_,H,(aB mm2 (aL)),(aM)⟩,?_⟩
       refine cJ rfl<|aU E (wn rfl) rfl rfl (cC E rfl rfl (Bg _)) (dZ H mm1 B) fun b6 w H a E=>nt<|?_
       refine ⟨⟨_,_,H,(aB mm3 (aL)),(aM)⟩,?_⟩
       refine cJ rfl<|dV (i:=0) E H (wn rfl) rfl rfl rfl rfl rfl rfl (jA m0) U44 Bh rfl C rfl fun b7 w a H E=>nt<|?_
       refine ⟨⟨_,_,H,(aB mm3 (aL)),(aM)⟩,?_⟩
       refine cP rfl<|pr 1 E rfl fun a E=>nt<|cP rfl<|pr 1 E rfl fun a E=>nt<|cP rfl<|?_
       obtain ⟨q79,T,rfl⟩:=H.rowform (i:=0) rfl
       refine have H:=H.thaw (i:=0) rfl;yP (i:=0) (k:=2) (us:=[(.slice q79 ((({ b with Count:=IntKind.i64.wrap (b.Count+1) }:aD).Events) ++ ([(⟨IntKind.i64.wrap (b.Count+1),f,g,c.Num⟩:bK)]:List bK)).length T)]) (y':=({ ({ b with Count:=IntKind.i64.wrap (b.Count+1) }:aD) with Events:=(({ b with Count:=IntKind.i64.wrap (b.Count+1) }:aD).Events) ++ ([(⟨IntKind.i64.wrap (b.Count+1),f,g,c.Num⟩:bK)]:List bK) }:aD)) E H l (wn rfl) rfl rfl rfl rfl rfl rfl (sI j) rfl Il rfl (fun ok cs hr h=>by obtain ⟨m,rfl,g1⟩:=dF h;exact jB (x:=({ ({ b with Count:=IntKind.i64.wrap (b.Count+1) }:aD) with Events:=(({ b with Count:=IntKind.i64.wrap (b.Count+1) }:aD).Events) ++ ([(⟨IntKind.i64.wrap (b.Count+1),f,g,c.Num⟩:bK)]:List bK) }:aD)) (hr _ m0)) fun w H=>nt<|dW<|?_
       clear hI
       exact aC<|have H:=H.drop 2;have H:=H.frs [0,1] rfl;⟨_,_,E.to rfl,H,(Y6 q),hm⟩
     ·refine pI (e:=223) (d:=aV) (cs:=[.int .i64 (IntKind.i64.wrap (b.Count+1)),.int .i64 f,.string g,.int .i64 c.Num]) (xs:=[(⟨IntKind.i64.wrap (b.Count+1),f,g,c.Num⟩:bK)]) E H (wn rfl) rfl rfl rfl (E.evs rfl) (by kernel_rfl) rfl (fun ok hr=>(Rows.single (d:=aV) (cs:=[.int .i64 (IntKind.i64.wrap (b.Count+1)),.int .i64 f,.string g,.int .i64 c.Num]) (x:=(⟨IntKind.i64.wrap (b.Count+1),f,g,c.Num⟩:bK)) vL)) fun b8 w a H E=>nt<|?_
      refine ⟨⟨_,_,H,(aB mm2 (aL)),(aM)⟩,?_⟩
      refine cJ rfl<|yI (i:=0) (k:=2) E H l (wn rfl) rfl rfl rfl rfl rfl (sI j) rfl U44 rfl fun b9 a H E=>?_
      obtain ⟨_,hcs⟩:=H.rd (.head _)
      obtain ⟨P,rfl,-⟩:=dF hcs
      clear hcs
      refine have H:=H.derive1 m0 (rSl aV P (({ b with Count:=IntKind.i64.wrap (b.Count+1) }:aD).Events)) (fun ok h=>gA h);?_
      replace E:Env 65 a ((52,P)::_):=E
      refine nt<|?_
      refine ⟨⟨_,_,H,(aB mm2 (aL)),(aM)⟩,?_⟩
      refine cJ rfl<|aU E (wn rfl) rfl rfl (cC E rfl rfl (Bg _)) (dZ H m0 B) fun c0 w H a E=>nt<|?_
      refine ⟨⟨_,_,H,(aB mm3 (aL)),(aM)⟩,?_⟩
      refine cJ rfl<|dV (i:=0) E H (wn rfl) rfl rfl rfl rfl rfl rfl (jA mm2) U44 Bh rfl C rfl fun c1 w a H E=>nt<|?_
      refine ⟨⟨_,_,H,(aB mm3 (aL)),(aM)⟩,?_⟩
      refine cP rfl<|pr 1 E rfl fun a E=>nt<|cP rfl<|pr 1 E rfl fun a E=>nt<|cP rfl<|?_
      obtain ⟨q90,U,rfl⟩:=H.rowform (i:=0) rfl
      refine have H:=H.thaw (i:=0) rfl;yP (i:=0) (k:=2) (us:=[(.slice q90 ((({ b with Count:=IntKind.i64.wrap (b.Count+1) }:aD).Events) ++ ([(⟨IntKind.i64.wrap (b.Count+1),f,g,c.Num⟩:bK)]:List bK)).length U)]) (y':=({ ({ b with Count:=IntKind.i64.wrap (b.Count+1) }:aD) with Events:=(({ b with Count:=IntKind.i64.wrap (b.Count+1) }:aD).Events) ++ ([(⟨IntKind.i64.wrap (b.Count+1),f,g,c.Num⟩:bK)]:List bK) }:aD)) E H l (wn rfl) rfl rfl rfl rfl rfl rfl (sI j) rfl Il rfl (fun ok cs hr h=>by obtain ⟨m,rfl,g1⟩:=dF h;exact jB (x:=({ ({ b with Count:=IntKind.i64.wrap (b.Count+1) }:aD) with Events:=(({ b with Count:=IntKind.i64.wrap (b.Count+1) }:aD).Events) ++ ([(⟨IntKind.i64.wrap (b.Count+1),f,g,c.Num⟩:bK)]:List bK) }:aD)) (hr _ m0)) fun w H=>nt<|dW<|?_
      clear hI
      exact aC<|have H:=H.drop 2;have H:=H.frs [0,1] rfl;⟨_,_,E.to rfl,H,(Y6 q),hm⟩
    ·exact wp_skip<|aC<|have H:=H.drop 2;have H:=H.frs [0,1] rfl;⟨_,_,E.to rfl,H,q,hm⟩
  ·clear E H hm
   rintro a w ⟨K,z,E,H,M,hm⟩
   unfold uI at hm
   refine sq<|pr 1 E rfl fun a E=>lb E H 0 rfl rfl rfl rfl rfl rfl rfl U4 rfl fun a E=>pr 1 E rfl fun a E=>cs hm (fun D hm=>?_) fun D hm=>?_
   ·refine pk 4 E (kc 61 rfl D) rfl fun a E=>nt<|wp_ret<|aY E rfl rfl<|have H:=H.drop 0;?_
    cases hm
    exact ⟨rfl,H.reads M⟩
   ·refine pk 4 E (kc 61 rfl D) rfl fun a E=>nt<|wp_ret<|aY E rfl rfl<|have H:=H.drop 0;?_
    cases hm
    exact ⟨rfl,H.reads M⟩

def rO(b:Int×Bool)(x1:aK)(e:Int)(g:ByteArray)(c:(List aD)):Option (Bool×(List aD)):=
  (idx c b.1).bind fun f=>(B2 c b.1 f x1 e g).bind fun d=>some (!d.1,d.2)
def oR(x1:aK)(d:Int)(e:ByteArray)(c:List aD)(f:Bool):Option (Bool×(List aD)):=
  if f=true then (some (false,c)) else ((eB c x1.Session).bind fun b=>if (!b.2)=true then ((ck (0 ≤ b.1∧b.1 ≤ c.length∧c.length ≤ 1000000)).bind fun g=>rO b x1 d e (c.take b.1.toNat ++ (⟨x1.Session,0,[]⟩:aD)::c.drop b.1.toNat)) else (rO b x1 d e c))
def wD(x1:aK)(b:ByteArray)(d:List aD)(c:Int):Option (Bool×(List aD)):=
  if (!(sEq x1.Path b))=true then (if (!x1.Deep)=true then (oR x1 c b d true) else ((s0 b x1.Path).bind fun e=>oR x1 c b d (!e))) else (oR x1 c b d false)
theorem I4{x1:aK}{g j k:Nat}{l:ByteArray}{A q:Value}{B:List aD}{f:Int}(H:Sep w (Blk g 9 [.string l]::Blk j 73 [q,A]::Row 215 aO A B::Blk k 3 [.int .i64 f]::Fo) rs){r:Bool×(List aD)}(hm:wD x1 l B f=some r) :
    Calls Tryz.prog 296 [.agg (dL x1).toArray,pt g 0,pt j 0,pt k 0].toArray w (Ret fun v w'=>∃ K,.bool r.1=v∧Sep w' (Blk g 9 [.string l]::Blk j 73 [q,K]::Blk k 3 [.int .i64 f]::Row 215 aO K r.2::Fo) (rs)):=by
 unfold wD at hm
 refine ent Tryz.func296 rfl Tryz.ntmps296 rfl rfl fun a E=>sq<|bS E H (wn rfl) rfl rfl rfl rfl rfl fun s w a H E=>pr 1 E rfl fun a E=>nt<|wp_seq<|aT (fun a w=>∃ t m,Env 52 a [(1,pt g 0),(2,pt j 0),(3,pt k 0),(4,pt s 0),(23,.bool t)]∧Sep w (Blk g 9 [.string l]::Blk j 73 [q,A]::Blk k 3 [.int .i64 f]::Blk s 35 (dL x1)::Row 215 aO A B::Fo) m∧(∀ r,r ∈ rs→r ∈ m)∧oR x1 f l B t=some r) ?_ ?_
 ·refine wp_region_lit<|pr 1 E rfl fun a E=>lb E H 0 rfl rfl rfl rfl rfl rfl rfl U9 rfl fun a E=>lb E H 1 rfl rfl rfl rfl rfl rfl rfl U9 rfl fun a E=>pr 2 E rfl fun a E=>cs hm (fun b hm=>?_) fun b hm=>?_
  ·refine pk 1 E (kc 12 rfl b) rfl fun a E=>aQ E (ws' (d:=12) E rfl rfl rfl rfl b) rfl rfl (cD (i:=0) E H rfl rfl rfl rfl U4 rfl) fun a E=>pk 2 E (kc 12 rfl b) rfl fun a E=>cs hm (fun c hm=>?_) fun c hm=>?_
   ·exact pk 7 E (kc' (kc 16 rfl c) 12 rfl b) rfl fun a E=>nt<|have H:=H.frs [3,1,4,4,4] rfl;⟨_,_,E.to rfl,H,Y0,hm⟩
   ·refine aQ E (ws' (d:=16) E rfl rfl rfl rfl c) rfl rfl (cD (i:=1) E H rfl rfl rfl rfl U9 rfl) fun a E=>pk 1 E (kc 16 rfl c) rfl fun a E=>aQ E (ws' (d:=16) E rfl rfl rfl rfl c) rfl rfl (cD (i:=0) E H rfl rfl rfl rfl U9 rfl) fun a E=>bd hm fun L D hm=>aU E (ws' (d:=16) E rfl rfl rfl rfl c) rfl rfl (cC E rfl rfl (Lq _)) (P2 H D)<|?_
    rintro _ w ⟨rfl,H⟩ a E
    exact pk 3 E (kc' (kc 16 rfl c) 12 rfl b) rfl fun a E=>nt<|have H:=H.frs [3,1,4,4,4] rfl;⟨_,_,E.to rfl,H,Y0,hm⟩
  ·exact pk 11 E (kc 12 rfl b) rfl fun a E=>nt<|have H:=H.frs [3,1,4,4,4] rfl;⟨_,_,E.to rfl,H,Y0,hm⟩
 ·clear E H hm
  rintro a w ⟨t,m,E,H,n,hm⟩
  unfold oR at hm
  refine wif E hm rfl (fun hm=>?_) fun hm=>?_
  ·refine sq<|pr 1 E rfl fun a E=>nt<|wp_ret<|aP<|aY E rfl rfl<|have H:=H.drop 3;?_
   cases hm
   exact ⟨_,rfl,H.reads n⟩
  ·refine wp_skip<|aC<|sq<|pr 1 E rfl fun a E=>lb E H 1 rfl rfl rfl rfl rfl rfl rfl U71 rfl fun a E=>pr 1 E rfl fun a E=>lb E H 3 rfl rfl rfl rfl rfl rfl rfl U2 rfl fun a E=>have H:=H.frs [3,3,3,3,4] rfl;bd hm fun C F hm=>?_
   refine xk E rfl rfl rfl rfl rfl Ik (mT H F) fun w H a E=>pr 5 E rfl fun a E=>nt<|aT (fun a w=>∃ u y o,Env 52 a [(1,pt g 0),(2,pt j 0),(3,pt k 0),(4,pt s 0),(6,.int .i64 C.1)]∧Sep w (Blk g 9 [.string l]::Blk j 73 [q,u]::Blk k 3 [.int .i64 f]::Blk s 35 (dL x1)::Row 215 aO u y::Fo) o∧(∀ r,r ∈ rs→r ∈ o)∧rO C x1 f l y=some r) ?_ ?_
   ·refine sq<|pr 2 E rfl fun a E=>nt<|wif E hm rfl (fun hm=>?_) fun hm=>?_
    ·refine wp_region_lit<|pr 1 E rfl fun a E=>lb E H 2 rfl rfl rfl rfl rfl rfl rfl U71 rfl fun a E=>pr 2 E rfl fun a E=>lb E H 4 rfl rfl rfl rfl rfl rfl rfl U2 rfl fun a E=>sv E rfl rfl rfl (cI E rfl (E.evs rfl) (v:=.agg #[.int .i64 x1.Session,.int .i64 0,.slice none 0 0]) (by kernel_rfl)) fun a E=>fY (e:=215) (d:=aO) (cs:=[.int .i64 x1.Session,.int .i64 0,.slice none 0 0]) (xs:=[(⟨x1.Session,0,[]⟩:aD)]) E H (wn rfl) rfl rfl rfl (E.evs rfl) (by kernel_rfl) rfl rfl (fun ok hr=>(Rows.single (d:=aO) (cs:=[.int .i64 x1.Session,.int .i64 0,.slice none 0 0]) (x:=(⟨x1.Session,0,[]⟩:aD)) (jB (Sl.nil _ _ _)))) fun M w a H E=>bk hm fun G hm=>aU E (wn rfl) rfl rfl (cC E rfl rfl (Ip _)) (Se.insert_a (ix:=1) (iu:=0) H rfl rfl (by decide) G) fun N w H a E=>?_
     refine pr 1 E rfl fun a E=>?_
     obtain ⟨q33,O,rfl⟩:=H.rowform (i:=1) rfl
     exact aZ (i:=3) E H (wn rfl) rfl rfl rfl rfl rfl rfl Ft rfl rfl fun w H=>nt<|have H:=H.drop 0;have H:=H.frs [0,4,4,4,4] rfl;X3 ⟨E.to rfl,H,n,hm⟩
    ·exact wp_skip<|aC<|have H:=H.frs [0,4,4,4,4] rfl;X3 ⟨E.to rfl,H,n,hm⟩
   ·clear E H hm
    rintro a w ⟨u,y,o,E,H,I,hm⟩
    unfold rO at hm
    refine wp_seq<|dw [(0,0),(1,0),(2,0),(3,0),(4,0),(5,0),(6,0),(7,1),(8,0),(9,2)] [0,1,2,3] [] H (by kernel_rfl) (fun _ _ _ h=>False.elim h.2) fun w W0 hI H=>fn 1 E rfl fun a E=>fb E rfl (wn rfl) rfl rfl rfl rfl mm1 rfl U71 rfl fun a E=>fn 1 E rfl fun a E=>bd hm fun P p hm=>?_
    obtain ⟨Q,R,z⟩:=H.rowformNE (i:=4) rfl p
    refine bW E rfl (wn rfl) rfl rfl (fun w hW=>cY (d:=aO) E z rfl rfl rfl rfl U71 rL p) fun a E=>?_
    refine fbn E (dL x1) rfl (wn rfl) rfl rfl rfl rfl mm3 rfl U35 rfl pK fun a E=>fb E rfl (wn rfl) rfl rfl rfl rfl mm2 rfl U3 rfl fun a E=>fb E rfl (wn rfl) rfl rfl rfl rfl m0 rfl U9 rfl fun a E=>bZ rfl<|have H:=H.frs [3,3,3,3,4] rfl;bd hm fun S J hm=>xk E rfl rfl rfl rfl rfl Xl (Ga p z H J) fun w H a E=>nt<|?_
    refine ⟨⟨_,_,H,(aB mm1 (aB mm2 (aB mm3 (aB mm4 (aL))))),(aM)⟩,?_⟩
    refine fn 1 E rfl fun a E=>bQ rfl<|pr 1 E rfl fun a E=>nt<|bR<|?_
    clear hI
    refine aC<|wp_ret<|aY E rfl rfl<|have H:=H.drop 4;have H:=H.frs [0,3,3,3] rfl;?_
    cases hm
    exact ⟨_,rfl,H.reads I⟩

def eH(f:List aK)(g:ByteArray)(d:Int):Nat→Int→(List aD)→Option (Int×(List aD))
  | 0,_,_=>none
  | j+1,b,e=>
    if (decide (b < (f.length:Int)))=true then ((idx f b).bind fun i=>(wD i g e d).bind fun c=>if c.1=true then (some (b,c.2)) else (eH f g d j (IntKind.i64.wrap (b+1)) c.2)) else (some ((-1),e))
def hJ(b:List aK)(d:ByteArray)(e:List aD)(c:Int):Option (Int×(List aD)):=
  eH b d c (((b.length:Int) - 0:Int).toNat+1) 0 e
theorem sM{m z n:Value}{e:List aK}{o p b:Nat}{q:ByteArray}{A:List aD}{c:Int}(H:Sep w (Row 35 aX m e::Blk o 9 [.string q]::Blk p 73 [n,z]::Row 215 aO z A::Blk b 3 [.int .i64 c]::Fo) rs){r:Int×(List aD)}(hm:hJ e q A c=some r) :
    Calls Tryz.prog 230 [m,.func (.func 296) #[] #[pt o 0,pt p 0,pt b 0]].toArray w (Ret fun v w'=>∃ B,.int .i64 r.1=v∧Sep w' (Blk o 9 [.string q]::Blk p 73 [n,B]::Blk b 3 [.int .i64 c]::Row 35 aX m e::Row 215 aO B r.2::Fo) (rs)):=by
 unfold hJ at hm
 refine ent Tryz.func230 rfl Tryz.ntmps230 rfl rfl fun a E=>sq<|pr 1 E rfl fun a E=>nt<|wp_seq<|sq<|pr 1 E rfl fun a E=>sv E rfl rfl rfl (iZ (i:=0) E H rfl rfl rfl U70) fun a E=>pr 1 E rfl fun a E=>?_
 refine nt<|wp_block<|bX (fun l a w=>∃ s t u f,Env 19 a [(0,m),(1,.func (.func 296) #[] #[pt o 0,pt p 0,pt b 0]),(7,.int .i64 (e.length:Int)),(8,.int .i64 t)]∧Sep w (Row 35 aX m e::Blk o 9 [.string q]::Blk p 73 [n,s]::Blk b 3 [.int .i64 c]::Row 215 aO s u::Fo) f∧(∀ r,r ∈ rs→r ∈ f)∧eH e q c l t u=some r) (((e.length:Int) - 0:Int).toNat+1) ?_ ?_
 ·exact have H:=H.frs [3,4,4,4,4] rfl;X4 ⟨E.to rfl,H,Y0,hm⟩
 ·clear E H hm
  rintro l a w ⟨s,t,u,f,E,H,g,hm⟩
  cases l with
  | zero=>exact (bT hm rfl).elim
  | succ l=>
   unfold eH at hm
   refine sq<|pr 1 E rfl fun a E=>nt<|wp_seq<|wif E hm rfl (fun hm=>?_) fun hm=>?_
   ·refine wp_skip<|aC<|wp_seq<|wp_block<|sq<|pr 2 E rfl fun a E=>nx<|pr 3 E rfl fun a E=>bd hm fun k j hm=>?_
    obtain ⟨C,D,x⟩:=H.rowformNE (i:=0) rfl j
    refine sv E rfl rfl rfl (cY (d:=aX) E x rfl rfl rfl rfl U70 pK j) fun a E=>sv E rfl rfl rfl (fZ (i:=0) E H hB x rfl rfl rfl j (us:=[.int .i64 k.Session,.int .i64 k.Num,.string k.Path,.bool k.Deep]) rfl U35 rfl pK) fun a E=>have H:=H.frs [0,3,4,4,4] rfl;bd hm fun F y hm=>aU E (wn rfl) rfl rfl (bP E rfl rfl rfl (Na _)) (I4 H y)<|?_
    rintro _ w ⟨G,rfl,H⟩ a E
    refine nt<|wif E hm rfl (fun hm=>?_) fun hm=>?_
    ·refine sq<|pr 2 E rfl fun a E=>nt<|wp_ret<|bV<|aP<|aP<|bV<|aP<|?_
     refine aY E rfl rfl<|have H:=H.frs [3,4,4,4,4] rfl;?_
     cases hm
     exact ⟨_,rfl,H.reads g⟩
    ·exact wp_skip<|bY<|aC<|wp_region_lit<|pr 2 E rfl fun a E=>nt<|have H:=H.frs [3,3,3,3,4] rfl;⟨l,Nat.lt_succ_self l,X4 ⟨E.to rfl,H,g,hm⟩⟩
   ·refine wp_exit<|bH<|bH<|dG<|aC<|sq<|pr 1 E rfl fun a E=>nt<|wp_ret<|?_
    refine aY E rfl rfl<|have H:=H.frs [4,1,4,4,4] rfl;?_
    cases hm
    exact ⟨_,rfl,H.reads g⟩

def eK(rec_1:(List aK)→Int→Int→(List aD)→Option ((List aK)×(List aD)))(b:Int)(c:(List aK))(d:Int)(e:(List aD)):Option ((List aK)×(List aD)):=
  rec_1 c d (IntKind.i64.wrap (b+1)) e
def dN(j:ByteArray)(e:Int):Nat→(List aK)→Int→Int→(List aD)→Option ((List aK)×(List aD))
  | 0,_,_,_,_=>none
  | k+1,c,b,d,g=>
    if (decide (d < (c.length:Int)))=true then ((idx c d).bind fun i=>(wD i j g e).bind fun f=>if (!f.1)=true then ((idx c b).bind fun l=>eK (dN j e k) d (c.set b.toNat i) (IntKind.i64.wrap (b+1)) f.2) else (eK (dN j e k) d c b f.2)) else ((ck (0 ≤ b∧b ≤ c.length)).bind fun m=>(ck (0 ≤ b∧b ≤ (c.take b.toNat ++ List.replicate (c.length - b.toNat) (⟨0,0,⟨#[]⟩,false⟩:aK)).length)).bind fun n=>some ((c.take b.toNat ++ List.replicate (c.length - b.toNat) (⟨0,0,⟨#[]⟩,false⟩:aK)).take b.toNat,g))
def hZ(c:List aK)(e:ByteArray)(f:List aD)(d:Int):Option ((List aK)×(List aD)):=
  (hJ c e f d).bind fun b=>if (b.1 == (-1))=true then (some (c,b.2)) else (dN e d (((c.length:Int) - (IntKind.i64.wrap (b.1+1)):Int).toNat+1) c b.1 (IntKind.i64.wrap (b.1+1)) b.2)
theorem tH{t O s:Value}{J:List aK}{g j c:Nat}{k:ByteArray}{P:List aD}{e:Int}(H:Sep w (Row 35 aX t J::Blk g 9 [.string k]::Blk j 73 [s,O]::Row 215 aO O P::Blk c 3 [.int .i64 e]::Fo) rs){r:(List aK)×(List aD)}(hm:hZ J k P e=some r) :
    Calls Tryz.prog 295 [t,.func (.func 296) #[] #[pt g 0,pt j 0,pt c 0]].toArray w (Ret fun v w'=>∃ Q R,Q=v∧Sep w' (Row 35 aX Q r.1::Blk g 9 [.string k]::Blk j 73 [s,R]::Blk c 3 [.int .i64 e]::Row 215 aO R r.2::Fo) (rs)):=by
 unfold hZ at hm
 refine ent Tryz.func295 rfl Tryz.ntmps295 rfl rfl fun a E=>sq<|pr 1 E rfl fun a E=>nx<|pr 2 E rfl fun a E=>bd hm fun S K hm=>cG E rfl rfl rfl rfl rfl Ii (sM H K)<|?_
 rintro _ w ⟨T,rfl,H⟩ a E
 refine pr 1 E rfl fun a E=>nt<|wp_seq<|sq<|pr 2 E rfl fun a E=>nt<|wif E hm rfl (fun hm=>?_) fun hm=>?_
 ·refine sq<|pr 2 E rfl fun a E=>nt<|wp_ret<|aP<|aY E rfl rfl<|have H:=H.frs [4,3,3,3,4] rfl;?_
  cases hm
  exact ⟨_,_,rfl,H.reads Y0⟩
 ·refine wp_skip<|aC<|wp_seq<|sq<|pr 3 E rfl fun a E=>nt<|wp_block<|bX (fun l a w=>∃ u x y f z m,Env 42 a [(0,t),(1,.func (.func 296) #[] #[pt g 0,pt j 0,pt c 0]),(5,.int .i64 y),(6,.int .i64 f)]∧Sep w (Row 35 aX t x::Blk g 9 [.string k]::Blk j 73 [s,u]::Blk c 3 [.int .i64 e]::Row 215 aO u z::Fo) m∧(∀ r,r ∈ rs→r ∈ m)∧dN k e l x y f z=some r) (((J.length:Int) - (IntKind.i64.wrap (S.1+1)):Int).toNat+1) ?_ ?_
  ·exact have H:=H.frs [4,3,3,3,4] rfl;X6 ⟨E.to rfl,H,Y0,hm⟩
  ·clear E H hm
   rintro l a w ⟨u,x,y,f,z,m,E,H,n,hm⟩
   cases l with
   | zero=>exact (bT hm rfl).elim
   | succ l=>
    unfold dN at hm
    refine wp_seq<|sq<|pr 2 E rfl fun a E=>sv E rfl rfl rfl (iZ (i:=0) E H rfl rfl rfl U70) fun a E=>pr 1 E rfl fun a E=>nt<|wif E hm rfl (fun hm=>?_) fun hm=>?_
    ·refine wp_skip<|aC<|aT (fun a w=>∃ A B C D o,Env 42 a [(0,t),(1,.func (.func 296) #[] #[pt g 0,pt j 0,pt c 0]),(5,.int .i64 C),(6,.int .i64 f)]∧Sep w (Row 35 aX t B::Blk g 9 [.string k]::Blk j 73 [s,A]::Blk c 3 [.int .i64 e]::Row 215 aO A D::Fo) o∧(∀ r,r ∈ rs→r ∈ o)∧eK (dN k e l) f B C D=some r) ?_ ?_
     ·refine wp_block<|sq<|pr 2 E rfl fun a E=>bd hm fun b p hm=>?_
      obtain ⟨U,V,F⟩:=H.rowformNE (i:=0) rfl p
      refine sv E rfl rfl rfl (cY (d:=aX) E F rfl rfl rfl rfl U70 pK p) fun a E=>sv E rfl rfl rfl (fZ (i:=0) E H hB F rfl rfl rfl p (us:=[.int .i64 b.Session,.int .i64 b.Num,.string b.Path,.bool b.Deep]) rfl U35 rfl pK) fun a E=>al E H rfl rfl rfl rfl Rv fun W w a H E=>aZ (i:=0) E H (wn rfl) rfl rfl rfl rfl rfl rfl pK rfl rfl fun w H=>nx<|pr 1 E rfl fun a E=>sv E rfl rfl rfl (cA (i:=0) (us:=(dL b)) E H rfl rfl rfl rfl U35 rfl pK) fun a E=>have H:=H.frs [1,1,4,5,5,5] rfl;bd hm fun X L hm=>?_
      refine aU E (wn rfl) rfl rfl (bP E rfl rfl rfl (Na _)) (I4 H L)<|?_
      rintro _ w ⟨Y,rfl,H⟩ a E
      refine pr 1 E rfl fun a E=>nt<|wif E hm rfl (fun hm=>?_) fun hm=>?_
      ·refine sq<|pr 2 E rfl fun a E=>sv E rfl rfl rfl (cA (i:=4) (us:=(dL b)) E H rfl rfl rfl rfl U35 rfl pK) fun a E=>bd hm fun Z q hm=>?_
       obtain ⟨b0,b1,G⟩:=H.rowformNE (i:=5) rfl q
       refine sv E rfl rfl rfl (cY (d:=aX) E G rfl rfl rfl rfl U70 pK q) fun a E=>yO (d:=aX) (i:=5) (us:=[.int .i64 b.Session,.int .i64 b.Num,.string b.Path,.bool b.Deep]) (z':=b) E H hB (wn rfl) rfl G rfl rfl rfl rfl rfl rfl rfl q pK fun w H=>nt<|wp_region_lit<|pr 3 E rfl fun a E=>wpList_nil<|bY<|aC<|have H:=H.drop 4;?_
       exact have H:=H.frs [3,3,3,3,4] rfl;X5 ⟨E.to rfl,H,n,hm⟩
      ·exact wp_skip<|bY<|aC<|have H:=H.drop 4;have H:=H.frs [3,3,3,3,4] rfl;X5 ⟨E.to rfl,H,n,hm⟩
     ·clear E H hm
      rintro a w ⟨A,B,C,D,o,E,H,M,hm⟩
      unfold eK at hm
      exact wp_region_lit<|pr 3 E rfl fun a E=>nt<|⟨l,Nat.lt_succ_self l,X6 ⟨E.to rfl,H,M,hm⟩⟩
    ·refine wp_exit<|bH<|bH<|dG<|aC<|sq<|pr 2 E rfl fun a E=>bk hm fun I hm=>sv E rfl rfl rfl (J6 (d:=aX) (i:=0) E H rfl rfl rfl rfl U70 pK I) fun a E=>?_
     refine q4 (i:=0) (z0:=(⟨0,0,⟨#[]⟩,false⟩:aK)) E H hB (wn rfl) rfl rfl rfl U70 Xm rfl rfl rfl I fun w H=>nx<|pr 2 E rfl fun a E=>bk hm fun N hm=>C8 (i:=0) E H hB (wn rfl) rfl rfl rfl rfl rfl rfl U70 pK N fun b2 a H E=>pr 1 E rfl fun a E=>nt<|wp_ret<|aY E rfl rfl<|?_
     cases hm
     exact ⟨_,_,rfl,H.reads n⟩

def pD(x1:Int):Option Bool:=
  if (decide (x1 ≥ 1))=true then (some (decide (x1 ≤ 281474976710656))) else (some (false))
theorem wE{x1:Int}(H:Sep w (Fo) rs){r:Bool}(hm:pD x1=some r) :
    Calls Tryz.prog 229 [.int .i64 x1].toArray w (Ret fun v w'=>.bool r=v∧Sep w' (Fo) (rs)):=by
 unfold pD at hm
 refine ent Tryz.func229 rfl Tryz.ntmps229 rfl rfl fun a E=>sq<|pr 1 E rfl fun a E=>nx<|pr 3 E rfl fun a E=>cs hm (fun b hm=>?_) fun b hm=>?_
 ·refine pk 4 E (kc 5 rfl b) rfl fun a E=>nt<|wp_ret<|aY E rfl rfl<|?_
  cases hm
  exact ⟨rfl,H.reads Y0⟩
 ·refine pk 4 E (kc 5 rfl b) rfl fun a E=>nt<|wp_ret<|aY E rfl rfl<|?_
  cases hm
  exact ⟨rfl,H.reads Y0⟩

def gX(rec_1:Int→Option Bool)(c:Int)(b:Bool):Option Bool:=
  if b=true then (some (false)) else (rec_1 (IntKind.i64.wrap (c+1)))
def fL(x1:aD):Nat→Int→Option Bool
  | 0,_=>none
  | d+1,c=>
    if (decide (c < (x1.Events.length:Int)))=true then ((idx x1.Events c).bind fun b=>if (b.Num != (IntKind.i64.wrap ((IntKind.i64.wrap ((IntKind.i64.wrap (x1.Count - (x1.Events.length:Int)))+1))+c)))=true then (gX (fL x1 d) c true) else (if (decide (b.Num < 1))=true then (gX (fL x1 d) c true) else (if (decide (b.Kind < 1))=true then (gX (fL x1 d) c true) else (if (decide (b.Kind > 4))=true then (gX (fL x1 d) c true) else ((fA b.Path).bind fun e=>if (!e)=true then (gX (fL x1 d) c true) else ((pD b.Watch).bind fun f=>gX (fL x1 d) c (!f))))))) else (some (true))
def lH(x1:aD)(b:Bool):Option Bool:=
  if b=true then (some (false)) else (fL x1 (((x1.Events.length:Int) - 0:Int).toNat+1) 0)
def zE(x1:aD):Option Bool:=
  (pD x1.Num).bind fun b=>if (!b)=true then (lH x1 true) else (if (decide (x1.Count < 0))=true then (lH x1 true) else (if (decide (x1.Count > 281474976710656))=true then (lH x1 true) else (lH x1 (decide ((x1.Events.length:Int) > 8)))))
theorem Bv{x1:aD}{s:Value}(H:Sep w (Fo) rs)(p:rSl aV s x1.Events ∈ rs){r:Bool}(hm:zE x1=some r) :
    Calls Tryz.prog 228 [.agg (kT x1 s).toArray].toArray w (Ret fun v w'=>.bool r=v∧Sep w' (Fo) (rs)):=by
 unfold zE at hm
 refine ent Tryz.func228 rfl Tryz.ntmps228 rfl rfl fun a E=>sq<|bS E H (wn rfl) rfl rfl rfl rfl rfl fun G w a H E=>pr 1 E rfl fun a E=>nt<|wp_seq<|aT (fun a w=>∃ A t,Env 75 a [(1,pt G 0),(25,.bool A)]∧Sep w (Blk G 215 (kT x1 s)::Fo) t∧(∀ r,r ∈ rs→r ∈ t)∧lH x1 A=some r) ?_ ?_
 ·refine wp_region_lit<|pr 1 E rfl fun a E=>lb E H 0 rfl rfl rfl rfl rfl rfl rfl U2 rfl fun a E=>bd hm fun I B hm=>xk E rfl rfl rfl rfl rfl Dy (wE H B) fun w H a E=>pr 2 E rfl fun a E=>cs hm (fun g hm=>?_) fun g hm=>?_
  ·exact pk 15 E (kc 10 rfl g) rfl fun a E=>nt<|⟨_,_,E.to rfl,H,Y0,hm⟩
  ·refine pk 1 E (kc 10 rfl g) rfl fun a E=>aQ E (ws' (d:=10) E rfl rfl rfl rfl g) rfl rfl (cD (i:=0) E H rfl rfl rfl rfl U2 rfl) fun a E=>pk 3 E (kc 10 rfl g) rfl fun a E=>cs hm (fun j hm=>?_) fun j hm=>?_
   ·exact pk 10 E (kc 15 rfl j) rfl fun a E=>nt<|⟨_,_,E.to rfl,H,Y0,hm⟩
   ·refine pk 1 E (kc 15 rfl j) rfl fun a E=>aQ E (ws' (d:=15) E rfl rfl rfl rfl j) rfl rfl (cD (i:=0) E H rfl rfl rfl rfl U2 rfl) fun a E=>pk 3 E (kc 15 rfl j) rfl fun a E=>cs hm (fun c hm=>?_) fun c hm=>?_
    ·exact pk 5 E (kc 20 rfl c) rfl fun a E=>nt<|⟨_,_,E.to rfl,H,Y0,hm⟩
    ·exact pk 1 E (kc 20 rfl c) rfl fun a E=>aQ E (ws' (d:=20) E rfl rfl rfl rfl c) rfl rfl (cD (i:=0) E H rfl rfl rfl rfl U44 rfl) fun a E=>aQ E (ws' (d:=20) E rfl rfl rfl rfl c) rfl rfl (cR E H rfl rfl p U44) fun a E=>pk 2 E (kc 20 rfl c) rfl fun a E=>nt<|⟨_,_,E.to rfl,H,Y0,hm⟩
 ·clear E H hm
  rintro a w ⟨A,t,E,H,q,hm⟩
  unfold lH at hm
  refine wif E hm rfl (fun hm=>?_) fun hm=>?_
  ·refine sq<|pr 1 E rfl fun a E=>nt<|wp_ret<|aP<|aY E rfl rfl<|have H:=H.drop 0;?_
   cases hm
   exact ⟨rfl,H.reads q⟩
  ·refine wp_skip<|aC<|sq<|pr 1 E rfl fun a E=>lb E H 0 rfl rfl rfl rfl rfl rfl rfl U2 rfl fun a E=>pr 1 E rfl fun a E=>lb E H 0 rfl rfl rfl rfl rfl rfl rfl U44 rfl fun a E=>sv E rfl rfl rfl (cR E H rfl rfl (q _ p) U44) fun a E=>pr 3 E rfl fun a E=>?_
   refine nt<|wp_seq<|sq<|pr 1 E rfl fun a E=>lb E H 0 rfl rfl rfl rfl rfl rfl rfl U44 rfl fun a E=>sv E rfl rfl rfl (cR E H rfl rfl (q _ p) U44) fun a E=>pr 1 E rfl fun a E=>nt<|wp_block<|bX (fun n a w=>∃ u x,Env 75 a [(3,.int .i64 (IntKind.i64.wrap ((IntKind.i64.wrap (x1.Count - (x1.Events.length:Int)))+1))),(34,s),(35,.int .i64 (x1.Events.length:Int)),(36,.int .i64 u)]∧Sep w (Fo) x∧(∀ r,r ∈ rs→r ∈ x)∧fL x1 n u=some r) (((x1.Events.length:Int) - 0:Int).toNat+1) ?_ ?_
   ·exact have H:=H.drop 0;⟨_,_,E.to rfl,H,q,hm⟩
   ·clear E H hm
    rintro n a w ⟨u,x,E,H,b,hm⟩
    cases n with
    | zero=>exact (bT hm rfl).elim
    | succ n=>
     unfold fL at hm
     refine sq<|pr 1 E rfl fun a E=>nt<|wp_seq<|wif E hm rfl (fun hm=>?_) fun hm=>?_
     ·refine wp_skip<|aC<|wp_seq<|wp_block<|sq<|pr 1 E rfl fun a E=>bd hm fun J C hm=>dE E H (wn rfl) rfl rfl rfl rfl rfl (b _ p) U44 rM C fun q13 a H E=>ldf mZ E H rfl rfl rfl rfl rfl m0 Ci rfl rM fun a E=>?_
      refine al E H rfl rfl rfl rfl Ij fun K w a H E=>pr 1 E rfl fun a E=>aZ (i:=0) E H (wn rfl) rfl rfl rfl rfl rfl rfl rM rfl rfl fun w H=>nt<|aT (fun a w=>∃ y o,Env 75 a [(3,.int .i64 (IntKind.i64.wrap ((IntKind.i64.wrap (x1.Count - (x1.Events.length:Int)))+1))),(34,s),(35,.int .i64 (x1.Events.length:Int)),(36,.int .i64 u),(73,.bool y)]∧Sep w (Fo) o∧(∀ r,r ∈ rs→r ∈ o)∧gX (fL x1 n) u y=some r) ?_ ?_
      ·refine wp_region_lit<|pr 1 E rfl fun a E=>lb E H 0 rfl rfl rfl rfl rfl rfl rfl U2 rfl fun a E=>pr 5 E rfl fun a E=>cs hm (fun k hm=>?_) fun k hm=>?_
       ·exact pk 26 E (kc 47 rfl k) rfl fun a E=>nt<|have H:=H.drop 0;⟨_,_,E.to rfl,H,(Y1 b),hm⟩
       ·refine pk 1 E (kc 47 rfl k) rfl fun a E=>aQ E (ws' (d:=47) E rfl rfl rfl rfl k) rfl rfl (cD (i:=0) E H rfl rfl rfl rfl U2 rfl) fun a E=>pk 3 E (kc 47 rfl k) rfl fun a E=>cs hm (fun l hm=>?_) fun l hm=>?_
        ·exact pk 21 E (kc 52 rfl l) rfl fun a E=>nt<|have H:=H.drop 0;⟨_,_,E.to rfl,H,(Y1 b),hm⟩
        ·refine pk 1 E (kc 52 rfl l) rfl fun a E=>aQ E (ws' (d:=52) E rfl rfl rfl rfl l) rfl rfl (cD (i:=0) E H rfl rfl rfl rfl U3 rfl) fun a E=>pk 3 E (kc 52 rfl l) rfl fun a E=>cs hm (fun m hm=>?_) fun m hm=>?_
         ·exact pk 16 E (kc 57 rfl m) rfl fun a E=>nt<|have H:=H.drop 0;⟨_,_,E.to rfl,H,(Y1 b),hm⟩
         ·refine pk 1 E (kc 57 rfl m) rfl fun a E=>aQ E (ws' (d:=57) E rfl rfl rfl rfl m) rfl rfl (cD (i:=0) E H rfl rfl rfl rfl U3 rfl) fun a E=>pk 3 E (kc 57 rfl m) rfl fun a E=>cs hm (fun e hm=>?_) fun e hm=>?_
          ·exact pk 11 E (kc 62 rfl e) rfl fun a E=>nt<|have H:=H.drop 0;⟨_,_,E.to rfl,H,(Y1 b),hm⟩
          ·refine pk 1 E (kc 62 rfl e) rfl fun a E=>aQ E (ws' (d:=62) E rfl rfl rfl rfl e) rfl rfl (cD (i:=0) E H rfl rfl rfl rfl U9 rfl) fun a E=>bd hm fun L D hm=>aU E (ws' (d:=62) E rfl rfl rfl rfl e) rfl rfl (cC E rfl rfl (yU _)) (gC H D)<|?_
           rintro _ w ⟨rfl,H⟩ a E
           refine pk 3 E (kc 62 rfl e) rfl fun a E=>cs hm (fun f hm=>?_) fun f hm=>?_
           ·exact pk 5 E (kc 68 rfl f) rfl fun a E=>nt<|have H:=H.drop 0;⟨_,_,E.to rfl,H,(Y1 b),hm⟩
           ·refine pk 1 E (kc 68 rfl f) rfl fun a E=>aQ E (ws' (d:=68) E rfl rfl rfl rfl f) rfl rfl (cD (i:=0) E H rfl rfl rfl rfl U2 rfl) fun a E=>bd hm fun M F hm=>aU E (ws' (d:=68) E rfl rfl rfl rfl f) rfl rfl (cC E rfl rfl (Dy _)) (wE H F)<|?_
            rintro _ w ⟨rfl,H⟩ a E
            exact pk 2 E (kc 68 rfl f) rfl fun a E=>nt<|have H:=H.drop 0;⟨_,_,E.to rfl,H,(Y1 b),hm⟩
      ·clear E H hm
       rintro a w ⟨y,o,E,H,z,hm⟩
       unfold gX at hm
       refine wif E hm rfl (fun hm=>?_) fun hm=>?_
       ·refine sq<|pr 1 E rfl fun a E=>nt<|wp_ret<|bV<|aP<|aP<|bV<|aP<|?_
        refine aY E rfl rfl<|?_
        cases hm
        exact ⟨rfl,H.reads z⟩
       ·exact wp_skip<|bY<|aC<|wp_region_lit<|pr 2 E rfl fun a E=>nt<|⟨n,Nat.lt_succ_self n,_,_,E.to rfl,H,z,hm⟩
     ·refine wp_exit<|bH<|bH<|dG<|aC<|sq<|pr 1 E rfl fun a E=>nt<|wp_ret<|?_
      refine aY E rfl rfl<|?_
      cases hm
      exact ⟨rfl,H.reads b⟩

def oY(x1:aD):Option Bool:=
  (zE x1).bind fun b=>some (!b)
theorem y4{x1:aD}{b:Value}{c:Nat}(H:Sep w (Blk c 277 [.func (.func 228) #[] #[]]::Fo) rs)(d:rSl aV b x1.Events ∈ rs){r:Bool}(hm:oY x1=some r) :
    Calls Tryz.prog 283 [.agg (kT x1 b).toArray,pt c 0].toArray w (Ret fun v w'=>.bool r=v∧Sep w' (Blk c 277 [.func (.func 228) #[] #[]]::Fo) (rs)):=by
 unfold oY at hm
 refine ent Tryz.func283 rfl Tryz.ntmps283 rfl rfl fun a E=>sq<|bS E H (wn rfl) rfl rfl rfl rfl rfl fun f w a H E=>pr 1 E rfl fun a E=>nx<|lb E H 1 rfl rfl rfl rfl rfl rfl rfl Zk rfl fun a E=>sv E rfl rfl rfl (cA (i:=0) (us:=(kT x1 b)) E H rfl rfl rfl rfl Ch rfl rL) fun a E=>bd hm fun g e hm=>aU E (wn rfl) rfl rfl (bP E rfl rfl rfl (Vu _)) (Bv H d e)<|?_
 rintro _ w ⟨rfl,H⟩ a E
 refine pr 2 E rfl fun a E=>nt<|wp_ret<|aY E rfl rfl<|have H:=H.drop 0;?_
 cases hm
 exact ⟨rfl,H.reads Y0⟩

def eD(c:List aD):Nat→Int→Option Int
  | 0,_=>none
  | e+1,b=>
    if (decide (b < (c.length:Int)))=true then ((idx c b).bind fun f=>(oY f).bind fun d=>if d=true then (some (b)) else (eD c e (IntKind.i64.wrap (b+1)))) else (some ((-1)))
def gO(b:List aD):Option Int:=
  eD b (((b.length:Int) - 0:Int).toNat+1) 0
theorem rT{i:Value}{d:List aD}{e:Nat}(H:Sep w (Blk e 277 [.func (.func 228) #[] #[]]::Fo) rs)(g:rSl aO i d ∈ rs){r:Int}(hm:gO d=some r) :
    Calls Tryz.prog 322 [i,.func (.func 283) #[] #[pt e 0]].toArray w (Ret fun v w'=>.int .i64 r=v∧Sep w' (Blk e 277 [.func (.func 228) #[] #[]]::Fo) (rs)):=by
 unfold gO at hm
 refine ent Tryz.func322 rfl Tryz.ntmps322 rfl rfl fun a E=>sq<|pr 1 E rfl fun a E=>nt<|wp_seq<|sq<|pr 1 E rfl fun a E=>sv E rfl rfl rfl (cR E H rfl rfl g U71) fun a E=>pr 1 E rfl fun a E=>?_
 refine nt<|wp_block<|bX (fun c a w=>∃ j f,Env 19 a [(0,i),(1,.func (.func 283) #[] #[pt e 0]),(7,.int .i64 (d.length:Int)),(8,.int .i64 j)]∧Sep w (Blk e 277 [.func (.func 228) #[] #[]]::Fo) f∧(∀ r,r ∈ rs→r ∈ f)∧eD d c j=some r) (((d.length:Int) - 0:Int).toNat+1) ?_ ?_
 ·exact ⟨_,_,E.to rfl,H,Y0,hm⟩
 ·clear E H hm
  rintro c a w ⟨j,f,E,H,b,hm⟩
  cases c with
  | zero=>exact (bT hm rfl).elim
  | succ c=>
   unfold eD at hm
   refine sq<|pr 1 E rfl fun a E=>nt<|wp_seq<|wif E hm rfl (fun hm=>?_) fun hm=>?_
   ·refine wp_skip<|aC<|wp_seq<|wp_block<|sq<|pr 2 E rfl fun a E=>nx<|pr 3 E rfl fun a E=>bd hm fun p l hm=>?_
    refine dE E H (wn rfl) rfl rfl rfl rfl rfl (b _ g) U71 rL l fun q10 a H E=>N5 E H (wn rfl) rfl rfl rfl rfl m0 Ch rfl rL fun m a H E=>?_
    obtain ⟨n,rfl,h⟩:=s6 H;clear H;have H:=h
    refine bd hm fun o k hm=>aU E (wn rfl) rfl rfl (bP E rfl rfl rfl (Vt _)) (y4 H m0 k)<|?_
    rintro _ w ⟨rfl,H⟩ a E
    refine nt<|wif E hm rfl (fun hm=>?_) fun hm=>?_
    ·refine sq<|pr 2 E rfl fun a E=>nt<|wp_ret<|bV<|aP<|aP<|bV<|aP<|?_
     refine aY E rfl rfl<|?_
     cases hm
     exact ⟨rfl,H.reads (Y3 b)⟩
    ·exact wp_skip<|bY<|aC<|wp_region_lit<|pr 2 E rfl fun a E=>nt<|⟨c,Nat.lt_succ_self c,_,_,E.to rfl,H,(Y3 b),hm⟩
   ·refine wp_exit<|bH<|bH<|dG<|aC<|sq<|pr 1 E rfl fun a E=>nt<|wp_ret<|?_
    refine aY E rfl rfl<|?_
    cases hm
    exact ⟨rfl,H.reads b⟩

def gF(b:List aD):Option Bool:=
  (gO b).bind fun c=>some (decide (c ≥ 0))
theorem qW{c:Value}{d:List aD}{b:Nat}(H:Sep w (Blk b 277 [.func (.func 228) #[] #[]]::Fo) rs)(e:rSl aO c d ∈ rs){r:Bool}(hm:gF d=some r) :
    Calls Tryz.prog 282 [c,.func (.func 283) #[] #[pt b 0]].toArray w (Ret fun v w'=>.bool r=v∧Sep w' (Blk b 277 [.func (.func 228) #[] #[]]::Fo) (rs)):=by
 unfold gF at hm
 refine ent Tryz.func282 rfl Tryz.ntmps282 rfl rfl fun a E=>sq<|pr 1 E rfl fun a E=>nx<|pr 2 E rfl fun a E=>bd hm fun g f hm=>xk E rfl rfl rfl rfl rfl Vs (rT H e f) fun w H a E=>pr 2 E rfl fun a E=>nt<|?_
 refine wp_ret<|aY E rfl rfl<|?_
 cases hm
 exact ⟨rfl,H.reads Y0⟩

def qD(b:List aD):Option Bool:=
  (gF b).bind fun c=>some (!c)
theorem C4{b:Value}{c:List aD}(H:Sep w (Fo) rs)(d:rSl aO b c ∈ rs){r:Bool}(hm:qD c=some r) :
    Calls Tryz.prog 227 [b,.func (.func 228) #[] #[]].toArray w (Ret fun v w'=>.bool r=v∧Sep w' (Fo) (rs)):=by
 unfold qD at hm
 refine ent Tryz.func227 rfl Tryz.ntmps227 rfl rfl fun a E=>sq<|bS E H (wn rfl) rfl rfl rfl rfl rfl fun f w a H E=>pr 1 E rfl fun a E=>nx<|pr 1 E rfl fun a E=>sv E rfl rfl rfl (iP E rfl rfl rfl) fun a E=>bd hm fun g e hm=>xk E rfl rfl rfl rfl rfl Vr (qW H d e) fun w H a E=>?_
 refine pr 2 E rfl fun a E=>nt<|wp_ret<|aY E rfl rfl<|have H:=H.drop 0;?_
 cases hm
 exact ⟨rfl,H.reads Y0⟩

def xP(x1:aK):Option Bool:=
  (pD x1.Session).bind fun b=>if b=true then ((pD x1.Num).bind fun c=>if c=true then ((fA x1.Path).bind fun d=>some (d)) else (some (false))) else (some (false))
theorem M2{x1:aK}(H:Sep w (Fo) rs){r:Bool}(hm:xP x1=some r) :
    Calls Tryz.prog 161 [.agg (dL x1).toArray].toArray w (Ret fun v w'=>.bool r=v∧Sep w' (Fo) (rs)):=by
 unfold xP at hm
 refine ent Tryz.func161 rfl Tryz.ntmps161 rfl rfl fun a E=>sq<|bS E H (wn rfl) rfl rfl rfl rfl rfl fun j w a H E=>pr 1 E rfl fun a E=>nx<|pr 1 E rfl fun a E=>lb E H 0 rfl rfl rfl rfl rfl rfl rfl U2 rfl fun a E=>bd hm fun k f hm=>xk E rfl rfl rfl rfl rfl Dy (wE H f) fun w H a E=>?_
 refine pr 1 E rfl fun a E=>cs hm (fun b hm=>?_) fun b hm=>?_
 ·refine pk 1 E (kc 6 rfl b) rfl fun a E=>aQ E (ws' (d:=6) E rfl rfl rfl rfl b) rfl rfl (cD (i:=0) E H rfl rfl rfl rfl U2 rfl) fun a E=>bd hm fun l g hm=>aU E (ws' (d:=6) E rfl rfl rfl rfl b) rfl rfl (cC E rfl rfl (Dy _)) (wE H g)<|?_
  rintro _ w ⟨rfl,H⟩ a E
  refine pk 2 E (kc 6 rfl b) rfl fun a E=>cs hm (fun c hm=>?_) fun c hm=>?_
  ·refine pk 1 E (kc 11 rfl c) rfl fun a E=>aQ E (ws' (d:=11) E rfl rfl rfl rfl c) rfl rfl (cD (i:=0) E H rfl rfl rfl rfl U9 rfl) fun a E=>bd hm fun m e hm=>aU E (ws' (d:=11) E rfl rfl rfl rfl c) rfl rfl (cC E rfl rfl (yU _)) (gC H e)<|?_
   rintro _ w ⟨rfl,H⟩ a E
   refine pk 2 E (kc 11 rfl c) rfl fun a E=>nt<|wp_ret<|aY E rfl rfl<|have H:=H.drop 0;?_
   cases hm
   exact ⟨rfl,H.reads Y0⟩
  ·refine pk 5 E (kc 11 rfl c) rfl fun a E=>nt<|wp_ret<|aY E rfl rfl<|have H:=H.drop 0;?_
   cases hm
   exact ⟨rfl,H.reads Y0⟩
 ·refine pk 10 E (kc 6 rfl b) rfl fun a E=>nt<|wp_ret<|aY E rfl rfl<|have H:=H.drop 0;?_
  cases hm
  exact ⟨rfl,H.reads Y0⟩

def qE(x1:aK):Option Bool:=
  (xP x1).bind fun b=>some (!b)
theorem C5{x1:aK}{b:Nat}(H:Sep w (Blk b 211 [.func (.func 161) #[] #[]]::Fo) rs){r:Bool}(hm:qE x1=some r) :
    Calls Tryz.prog 281 [.agg (dL x1).toArray,pt b 0].toArray w (Ret fun v w'=>.bool r=v∧Sep w' (Blk b 211 [.func (.func 161) #[] #[]]::Fo) (rs)):=by
 unfold qE at hm
 refine ent Tryz.func281 rfl Tryz.ntmps281 rfl rfl fun a E=>sq<|bS E H (wn rfl) rfl rfl rfl rfl rfl fun d w a H E=>pr 1 E rfl fun a E=>nx<|lb E H 1 rfl rfl rfl rfl rfl rfl rfl Zj rfl fun a E=>sv E rfl rfl rfl (cA (i:=0) (us:=(dL x1)) E H rfl rfl rfl rfl U35 rfl pK) fun a E=>bd hm fun e c hm=>aU E (wn rfl) rfl rfl (bP E rfl rfl rfl (Mr _)) (M2 H c)<|?_
 rintro _ w ⟨rfl,H⟩ a E
 refine pr 2 E rfl fun a E=>nt<|wp_ret<|aY E rfl rfl<|have H:=H.drop 0;?_
 cases hm
 exact ⟨rfl,H.reads Y0⟩

def eT(c:List aK):Nat→Int→Option Int
  | 0,_=>none
  | e+1,b=>
    if (decide (b < (c.length:Int)))=true then ((idx c b).bind fun f=>(qE f).bind fun d=>if d=true then (some (b)) else (eT c e (IntKind.i64.wrap (b+1)))) else (some ((-1)))
def iJ(b:List aK):Option Int:=
  eT b (((b.length:Int) - 0:Int).toNat+1) 0
theorem tW{i:Value}{d:List aK}{e:Nat}(H:Sep w (Blk e 211 [.func (.func 161) #[] #[]]::Fo) rs)(g:rSl aX i d ∈ rs){r:Int}(hm:iJ d=some r) :
    Calls Tryz.prog 230 [i,.func (.func 281) #[] #[pt e 0]].toArray w (Ret fun v w'=>.int .i64 r=v∧Sep w' (Blk e 211 [.func (.func 161) #[] #[]]::Fo) (rs)):=by
 unfold iJ at hm
 refine ent Tryz.func230 rfl Tryz.ntmps230 rfl rfl fun a E=>sq<|pr 1 E rfl fun a E=>nt<|wp_seq<|sq<|pr 1 E rfl fun a E=>sv E rfl rfl rfl (cR E H rfl rfl g U70) fun a E=>pr 1 E rfl fun a E=>?_
 refine nt<|wp_block<|bX (fun c a w=>∃ j f,Env 19 a [(0,i),(1,.func (.func 281) #[] #[pt e 0]),(7,.int .i64 (d.length:Int)),(8,.int .i64 j)]∧Sep w (Blk e 211 [.func (.func 161) #[] #[]]::Fo) f∧(∀ r,r ∈ rs→r ∈ f)∧eT d c j=some r) (((d.length:Int) - 0:Int).toNat+1) ?_ ?_
 ·exact ⟨_,_,E.to rfl,H,Y0,hm⟩
 ·clear E H hm
  rintro c a w ⟨j,f,E,H,b,hm⟩
  cases c with
  | zero=>exact (bT hm rfl).elim
  | succ c=>
   unfold eT at hm
   refine sq<|pr 1 E rfl fun a E=>nt<|wp_seq<|wif E hm rfl (fun hm=>?_) fun hm=>?_
   ·refine wp_skip<|aC<|wp_seq<|wp_block<|sq<|pr 2 E rfl fun a E=>nx<|pr 3 E rfl fun a E=>bd hm fun n l hm=>?_
    refine dE E H (wn rfl) rfl rfl rfl rfl rfl (b _ g) U70 pK l fun q10 a H E=>ldf hB E H rfl rfl rfl rfl rfl m0 U35 rfl pK fun a E=>bd hm fun m k hm=>aU E (wn rfl) rfl rfl (bP E rfl rfl rfl (Vp _)) (C5 H k)<|?_
    rintro _ w ⟨rfl,H⟩ a E
    refine nt<|wif E hm rfl (fun hm=>?_) fun hm=>?_
    ·refine sq<|pr 2 E rfl fun a E=>nt<|wp_ret<|bV<|aP<|aP<|bV<|aP<|?_
     refine aY E rfl rfl<|?_
     cases hm
     exact ⟨rfl,H.reads (Y1 b)⟩
    ·exact wp_skip<|bY<|aC<|wp_region_lit<|pr 2 E rfl fun a E=>nt<|⟨c,Nat.lt_succ_self c,_,_,E.to rfl,H,(Y1 b),hm⟩
   ·refine wp_exit<|bH<|bH<|dG<|aC<|sq<|pr 1 E rfl fun a E=>nt<|wp_ret<|?_
    refine aY E rfl rfl<|?_
    cases hm
    exact ⟨rfl,H.reads b⟩

def gT(b:List aK):Option Bool:=
  (iJ b).bind fun c=>some (decide (c ≥ 0))
theorem sC{c:Value}{d:List aK}{b:Nat}(H:Sep w (Blk b 211 [.func (.func 161) #[] #[]]::Fo) rs)(e:rSl aX c d ∈ rs){r:Bool}(hm:gT d=some r) :
    Calls Tryz.prog 280 [c,.func (.func 281) #[] #[pt b 0]].toArray w (Ret fun v w'=>.bool r=v∧Sep w' (Blk b 211 [.func (.func 161) #[] #[]]::Fo) (rs)):=by
 unfold gT at hm
 refine ent Tryz.func280 rfl Tryz.ntmps280 rfl rfl fun a E=>sq<|pr 1 E rfl fun a E=>nx<|pr 2 E rfl fun a E=>bd hm fun g f hm=>xk E rfl rfl rfl rfl rfl Ii (tW H e f) fun w H a E=>pr 2 E rfl fun a E=>nt<|?_
 refine wp_ret<|aY E rfl rfl<|?_
 cases hm
 exact ⟨rfl,H.reads Y0⟩

def rU(b:List aK):Option Bool:=
  (gT b).bind fun c=>some (!c)
theorem I5{b:Value}{c:List aK}(H:Sep w (Fo) rs)(d:rSl aX b c ∈ rs){r:Bool}(hm:rU c=some r) :
    Calls Tryz.prog 226 [b,.func (.func 161) #[] #[]].toArray w (Ret fun v w'=>.bool r=v∧Sep w' (Fo) (rs)):=by
 unfold rU at hm
 refine ent Tryz.func226 rfl Tryz.ntmps226 rfl rfl fun a E=>sq<|bS E H (wn rfl) rfl rfl rfl rfl rfl fun f w a H E=>pr 1 E rfl fun a E=>nx<|pr 1 E rfl fun a E=>sv E rfl rfl rfl (iP E rfl rfl rfl) fun a E=>bd hm fun g e hm=>xk E rfl rfl rfl rfl rfl Vo (sC H d e) fun w H a E=>?_
 refine pr 2 E rfl fun a E=>nt<|wp_ret<|aY E rfl rfl<|have H:=H.drop 0;?_
 cases hm
 exact ⟨rfl,H.reads Y0⟩

def yE(rec_1:Int→(List ((Int×Int)×Int))→Option Bool)(c:Int)(b:(List ((Int×Int)×Int))):Option Bool:=
  rec_1 (IntKind.i64.wrap (c+1)) b
def sN(rec_2:Bool→Int→Option Bool)(b:Int)(c:Bool):Option Bool:=
  rec_2 c (IntKind.i64.wrap (b+1))
def nC(x1:bM)(d:(List ((Int×Int)×Int))):Nat→Bool→Int→Option Bool
  | 0,_,_=>none
  | e+1,c,b=>
    if (decide (b < (x1.Sessions.length:Int)))=true then (if c=true then ((idx x1.Sessions (IntKind.i64.wrap (b - 1))).bind fun f=>(idx x1.Sessions b).bind fun g=>sN (nC x1 d e) b (decide (f.Num < g.Num))) else (sN (nC x1 d e) b false)) else (if (decide ((x1.Watches.length:Int) ≤ 64))=true then (if ((d.length:Int) == (x1.Watches.length:Int))=true then ((rU x1.Watches).bind fun i=>if i=true then ((qD x1.Sessions).bind fun j=>if j=true then (some (c)) else (some (false))) else (some (false))) else (some (false))) else (some (false)))
def pO(x1:bM):Nat→Int→(List ((Int×Int)×Int))→Option Bool
  | 0,_,_=>none
  | f+1,d,c=>
    if (decide (d < (x1.Watches.length:Int)))=true then ((idx x1.Watches d).bind fun b=>(mlk xS c (b.Session,b.Num)).bind fun e=>(ck (xS.ok (b.Session,b.Num)=true∧c.length+1 < maxLen)).bind fun g=>yE (pO x1 f) d (lO c (b.Session,b.Num) (IntKind.i64.wrap ((e.getD 0)+1)))) else (nC x1 c (((x1.Sessions.length:Int) - 1:Int).toNat+1) true 1)
def qN(x1:bM):Option Bool:=
  pO x1 (((x1.Watches.length:Int) - 0:Int).toNat+1) 0 []
theorem xQ{x1:bM}{m G:Value}(H:Sep w (Fo) rs)(n:rSl aX m x1.Watches ∈ rs)(I:rSl aO G x1.Sessions ∈ rs){r:Bool}(hm:qN x1=some r) :
    Calls Tryz.prog 160 [.agg #[m,G]].toArray w (Ret fun v w'=>.bool r=v∧Sep w' (Fo) (rs)):=by
 unfold qN at hm
 refine ent Tryz.func160 rfl Tryz.ntmps160 rfl rfl fun a E=>sq<|bS E H (wn rfl) rfl rfl rfl rfl rfl fun o w a H E=>pr 1 E rfl fun a E=>nx<|tK (k:=274) (K:=xS) (d:=(kI .i64)) (g:=false) E H (wn rfl) rfl rfl rfl fun p w a H E=>pr 1 E rfl fun a E=>nt<|wp_seq<|?_
 refine sq<|pr 1 E rfl fun a E=>lb E H 1 rfl rfl rfl rfl rfl rfl rfl U70 rfl fun a E=>sv E rfl rfl rfl (cR E H rfl rfl n U70) fun a E=>pr 1 E rfl fun a E=>nt<|wp_block<|bX (fun s a w=>∃ J t x,Env 76 a [(1,pt o 0),(3,.map (some p)),(10,m),(11,.int .i64 (x1.Watches.length:Int)),(12,.int .i64 J)]∧Sep w (Blk o 73 [m,G]::cB Tryz.prog 274 xS (kI .i64) false p t::Fo) x∧(∀ r,r ∈ rs→r ∈ x)∧pO x1 s J t=some r) (((x1.Watches.length:Int) - 0:Int).toNat+1) ?_ ?_
 ·exact have H:=H.frs [0,1] rfl;X3 ⟨E.to rfl,H,Y0,hm⟩
 ·clear E H hm
  rintro s a w ⟨J,t,x,E,H,l,hm⟩
  cases s with
  | zero=>exact (bT hm rfl).elim
  | succ s=>
   unfold pO at hm
   refine sq<|pr 1 E rfl fun a E=>nt<|wp_seq<|wif E hm rfl (fun hm=>?_) fun hm=>?_
   ·refine wp_skip<|aC<|aT (fun a w=>∃ L y,Env 76 a [(1,pt o 0),(3,.map (some p)),(10,m),(11,.int .i64 (x1.Watches.length:Int)),(12,.int .i64 J)]∧Sep w (Blk o 73 [m,G]::cB Tryz.prog 274 xS (kI .i64) false p L::Fo) y∧(∀ r,r ∈ rs→r ∈ y)∧yE (pO x1 s) J L=some r) ?_ ?_
    ·refine wp_block<|sq<|bd hm fun D S hm=>dE E H (wn rfl) rfl rfl rfl rfl rfl (l _ n) U70 pK S fun q17 a H E=>ldf hB E H rfl rfl rfl rfl rfl m0 U35 rfl pK fun a E=>al E H rfl rfl rfl rfl Rv fun F w a H E=>aZ (i:=0) E H (wn rfl) rfl rfl rfl rfl rfl rfl pK rfl rfl fun w H=>nt<|bd hm fun R M hm=>?_
     refine bk hm fun N hm=>?_
     have hI:dP [Blk F 35 (dL D)] [] { w with drawn:=w.drawn+1 }:=⟨_,_,H.kept (Kp.drawn _ w _),(aB m0 (aL)),(aM)⟩
     refine jY _ (.go 0 0 (.go 1 0 (.go 2 0 (.go 3 0 (.go 4 0 (.go 5 0 (.alt 6 (.go 7 0 (.go 8 1 (.go 9 0 (.go 10 2 .nil)))) 8 (.go 9 0 (.go 6 1 (.go 7 0 (.go 10 2 .nil))))))))))) [10] kG (by kernel_rfl) (fun _ _ _ h=>False.elim h.2) hI<|have H:=H.kept (Kp.drawn _ w (w.drawn+1));?_
     generalize ({ w with drawn:=w.drawn+1 }:World)=w at H hI ⊢
     replace hI:∃ W,dP [Blk F 35 (dL D)] [] W:=⟨_,hI⟩
     obtain ⟨W0,hI⟩:=hI
     refine aW E rfl (wn rfl) rfl rfl (fun w hW=>(bD E rfl rfl)) fun a E=>aW E rfl (wn rfl) rfl rfl (fun w hW=>iY E rfl rfl (v:=pt F 0) (Bf _ _)) fun a E=>aW E rfl (wn rfl) rfl rfl (fun w hW=>eZ E rfl rfl (kD m0 rfl U2 rfl w hW)) fun a E=>aW E rfl (wn rfl) rfl rfl (fun w hW=>iY E rfl rfl (v:=pt F 1) (Fq _ _)) fun a E=>aW E rfl (wn rfl) rfl rfl (fun w hW=>eZ E rfl rfl (kD m0 rfl U2 rfl w hW)) fun a E=>aW E rfl (wn rfl) rfl rfl (fun w hW=>(cI E rfl (E.evs rfl) (v:=.agg #[.int .i64 D.Session,.int .i64 D.Num]) (by kernel_rfl))) fun a E=>?_
     refine kM rfl rfl ?_ ?_
     ·refine sv E rfl rfl rfl (Fi (i:=2) (K:=xS) (z0:=0) (u:=R) E H rfl rfl rfl rfl G9 Z9 Fs M) fun a E=>nt<|?_
      refine ⟨⟨_,_,H,(aB m0 (aL)),(aM)⟩,?_⟩
      refine aW E rfl (wn rfl) rfl rfl (fun w hW=>(iX E rfl rfl rfl rfl)) fun a E=>cJ rfl<|U7 (i:=2) (K:=xS) (z0:=0) E H (wn rfl) rfl rfl rfl rfl rfl rfl G9 Z9 Fs N fun q33 w a H E=>nt<|?_
      refine ⟨⟨_,_,H,(aB m0 (aL)),(aM)⟩,?_⟩
      refine aW E rfl (wn rfl) rfl rfl (fun w hW=>(cX E rfl rfl rfl)) fun a E=>cP rfl<|L5 (i:=2) (K:=xS) E H (wn rfl) rfl rfl rfl rfl rfl rfl G9 Z9 fun w H=>nt<|dW<|?_
      clear hI
      exact bY<|aC<|have H:=H.drop 0;⟨_,_,E.to rfl,H,(Y1 l),hm⟩
     ·refine U7 (i:=2) (K:=xS) (z0:=0) E H (wn rfl) rfl rfl rfl rfl rfl rfl G9 Z9 Fs N fun q36 w a H E=>nt<|?_
      refine ⟨⟨_,_,H,(aB m0 (aL)),(aM)⟩,?_⟩
      refine aW E rfl (wn rfl) rfl rfl (fun w hW=>(cX E rfl rfl rfl)) fun a E=>cJ rfl<|sv E rfl rfl rfl (Lm (i:=2) (K:=xS) (z0:=0) (u:=R) E H rfl rfl rfl rfl G9 Z9 Fs M) fun a E=>nt<|?_
      refine ⟨⟨_,_,H,(aB m0 (aL)),(aM)⟩,?_⟩
      refine aW E rfl (wn rfl) rfl rfl (fun w hW=>(iX E rfl rfl rfl rfl)) fun a E=>cP rfl<|L5 (i:=2) (K:=xS) E H (wn rfl) rfl rfl rfl rfl rfl rfl G9 Z9 fun w H=>nt<|dW<|?_
      clear hI
      exact bY<|aC<|have H:=H.drop 0;⟨_,_,E.to rfl,H,(Y1 l),hm⟩
    ·clear E H hm
     rintro a w ⟨L,y,E,H,T,hm⟩
     unfold yE at hm
     exact wp_region_lit<|pr 2 E rfl fun a E=>nt<|⟨s,Nat.lt_succ_self s,X3 ⟨E.to rfl,H,T,hm⟩⟩
   ·refine wp_exit<|bH<|bH<|dG<|aC<|sq<|pr 1 E rfl fun a E=>nt<|wp_seq<|?_
    refine sq<|pr 1 E rfl fun a E=>nt<|wp_block<|bX (fun z a w=>∃ O q A,Env 76 a [(1,pt o 0),(3,.map (some p)),(6,.bool O),(7,.int .i64 q)]∧Sep w (Blk o 73 [m,G]::cB Tryz.prog 274 xS (kI .i64) false p t::Fo) A∧(∀ r,r ∈ rs→r ∈ A)∧nC x1 t z O q=some r) (((x1.Sessions.length:Int) - 1:Int).toNat+1) ?_ ?_
    ·exact X3 ⟨E.to rfl,H,l,hm⟩
    ·clear E H hm
     rintro z a w ⟨O,q,A,E,H,c,hm⟩
     cases z with
     | zero=>exact (bT hm rfl).elim
     | succ z=>
      unfold nC at hm
      refine wp_seq<|sq<|pr 2 E rfl fun a E=>lb E H 0 rfl rfl rfl rfl rfl rfl rfl U71 rfl fun a E=>sv E rfl rfl rfl (cR E H rfl rfl (c _ I) U71) fun a E=>pr 1 E rfl fun a E=>nt<|wif E hm rfl (fun hm=>?_) fun hm=>?_
      ·refine wp_skip<|aC<|aT (fun a w=>∃ Q B,Env 76 a [(1,pt o 0),(3,.map (some p)),(6,.bool Q),(7,.int .i64 q)]∧Sep w (Blk o 73 [m,G]::cB Tryz.prog 274 xS (kI .i64) false p t::Fo) B∧(∀ r,r ∈ rs→r ∈ B)∧sN (nC x1 t z) q Q=some r) ?_ ?_
       ·refine wp_block<|?_
        obtain ⟨b6,H⟩:=H.raw (c _ I)
        refine dw [(0,0),(1,0),(2,0),(3,0),(4,0),(5,0),(6,0),(7,0),(8,0),(9,0),(10,0),(11,0),(12,0),(13,0),(14,0),(15,0),(16,0),(17,2)] [0] [0] H (by kernel_rfl) (fun _ _ _ h=>False.elim h.2) fun w W0 hI H=>fn 2 E rfl fun a E=>cs hm (fun b hm=>?_) fun b hm=>?_
        ·refine fk 1 E (kc 35 rfl b) rfl fun a E=>fb E rfl (ws' (d:=35) E rfl rfl rfl rfl b) rfl rfl rfl rfl m0 rfl U71 rfl fun a E=>fk 2 E (kc 35 rfl b) rfl fun a E=>bd hm fun b7 U hm=>?_
         obtain ⟨q50,b8,V,X⟩:=oO (P:=Tryz.prog) (k:=.i64) hI (oN (.head _)) U71 rL U
         refine bW E rfl (ws' (d:=35) E rfl rfl rfl rfl b) rfl rfl (fun w hW=>rI E rfl rfl rfl (V w)) fun a E=>?_
         have Y:=uU X (fun _ _ _ h=>x4 h)
         refine fk 1 E (kc 35 rfl b) rfl fun a E=>fa E rfl (ws' (d:=35) E rfl rfl rfl rfl b) rfl rfl rfl rfl Y U2 rfl fun a E=>fk 1 E (kc 35 rfl b) rfl fun a E=>fb E rfl (ws' (d:=35) E rfl rfl rfl rfl b) rfl rfl rfl rfl m0 rfl U71 rfl fun a E=>fk 1 E (kc 35 rfl b) rfl fun a E=>bd hm fun b9 Z hm=>?_
         obtain ⟨q57,c0,b0,b1⟩:=oO (P:=Tryz.prog) (k:=.i64) hI (oN (.head _)) U71 rL Z
         refine bW E rfl (ws' (d:=35) E rfl rfl rfl rfl b) rfl rfl (fun w hW=>rI E rfl rfl rfl (b0 w)) fun a E=>?_
         have b2:=uU b1 (fun _ _ _ h=>x4 h)
         refine fk 1 E (kc 35 rfl b) rfl fun a E=>fa E rfl (ws' (d:=35) E rfl rfl rfl rfl b) rfl rfl rfl rfl b2 U2 rfl fun a E=>fk 2 E (kc 35 rfl b) rfl fun a E=>bQ rfl<|pr 1 E rfl fun a E=>nt<|bR<|?_
         clear hI
         exact bY<|aC<|⟨_,_,E.to rfl,H,(Y1 c),hm⟩
        ·refine fk 15 E (kc 35 rfl b) rfl fun a E=>bQ rfl<|pr 1 E rfl fun a E=>nt<|bR<|?_
         clear hI
         exact bY<|aC<|⟨_,_,E.to rfl,H,(Y1 c),hm⟩
       ·clear E H hm
        rintro a w ⟨Q,B,E,H,b3,hm⟩
        unfold sN at hm
        exact wp_region_lit<|pr 3 E rfl fun a E=>nt<|⟨z,Nat.lt_succ_self z,X3 ⟨E.to rfl,H,b3,hm⟩⟩
      ·refine wp_exit<|bH<|bH<|dG<|aC<|sq<|pr 1 E rfl fun a E=>lb E H 0 rfl rfl rfl rfl rfl rfl rfl U70 rfl fun a E=>sv E rfl rfl rfl (cR E H rfl rfl (c _ n) U70) fun a E=>?_
       refine pr 2 E rfl fun a E=>cs hm (fun e hm=>?_) fun e hm=>?_
       ·refine pk 1 E (kc 55 rfl e) rfl fun a E=>aQ E (ws' (d:=55) E rfl rfl rfl rfl e) rfl rfl (r7 (i:=1) E H rfl rfl rfl Z9) fun a E=>pk 1 E (kc 55 rfl e) rfl fun a E=>aQ E (ws' (d:=55) E rfl rfl rfl rfl e) rfl rfl (cD (i:=0) E H rfl rfl rfl rfl U70 rfl) fun a E=>aQ E (ws' (d:=55) E rfl rfl rfl rfl e) rfl rfl (cR E H rfl rfl (c _ n) U70) fun a E=>pk 3 E (kc 55 rfl e) rfl fun a E=>cs hm (fun f hm=>?_) fun f hm=>?_
        ·refine pk 1 E (kc 63 rfl f) rfl fun a E=>aQ E (ws' (d:=63) E rfl rfl rfl rfl f) rfl rfl (cD (i:=0) E H rfl rfl rfl rfl U70 rfl) fun a E=>bd hm fun c1 b4 hm=>aU E (ws' (d:=63) E rfl rfl rfl rfl f) rfl rfl (cC E rfl rfl (Vn _)) (I5 H (c _ n) b4)<|?_
         rintro _ w ⟨rfl,H⟩ a E
         refine pk 2 E (kc 63 rfl f) rfl fun a E=>cs hm (fun j hm=>?_) fun j hm=>?_
         ·refine pk 1 E (kc 68 rfl j) rfl fun a E=>aQ E (ws' (d:=68) E rfl rfl rfl rfl j) rfl rfl (cD (i:=0) E H rfl rfl rfl rfl U71 rfl) fun a E=>bd hm fun c2 b5 hm=>aU E (ws' (d:=68) E rfl rfl rfl rfl j) rfl rfl (cC E rfl rfl (Vq _)) (C4 H (c _ I) b5)<|?_
          rintro _ w ⟨rfl,H⟩ a E
          refine pk 2 E (kc 68 rfl j) rfl fun a E=>cs hm (fun C hm=>?_) fun C hm=>?_
          ·refine pk 3 E (kc 73 rfl C) rfl fun a E=>nt<|wp_ret<|aY E rfl rfl<|have H:=H.drs [0,0];?_
           cases hm
           exact ⟨rfl,H.reads c⟩
          ·refine pk 3 E (kc 73 rfl C) rfl fun a E=>nt<|wp_ret<|aY E rfl rfl<|have H:=H.drs [0,0];?_
           cases hm
           exact ⟨rfl,H.reads c⟩
         ·refine pk 8 E (kc 68 rfl j) rfl fun a E=>nt<|wp_ret<|aY E rfl rfl<|have H:=H.drs [0,0];?_
          cases hm
          exact ⟨rfl,H.reads c⟩
        ·refine pk 13 E (kc 63 rfl f) rfl fun a E=>nt<|wp_ret<|aY E rfl rfl<|have H:=H.drs [0,0];?_
         cases hm
         exact ⟨rfl,H.reads c⟩
       ·refine pk 21 E (kc 55 rfl e) rfl fun a E=>nt<|wp_ret<|aY E rfl rfl<|have H:=H.drs [0,0];?_
        cases hm
        exact ⟨rfl,H.reads c⟩

def oC(x1:bM)(d:ByteArray)(e:Int)(c:Bool):Option (bM×Int):=
  if c=true then (some ((⟨[],[]⟩:bM),1)) else ((ck (x1.Sessions.length ≤ LIM)).bind fun f=>(ck (x1.Watches.length ≤ LIM)).bind fun g=>(hZ x1.Watches d x1.Sessions e).bind fun b=>some ((⟨b.1,b.2⟩:bM),0))
def B3(x1:bM)(b:Int)(c:ByteArray):Option (bM×Int):=
  (qN x1).bind fun d=>if (!d)=true then (oC x1 c b true) else (if (decide (b < 1))=true then (oC x1 c b true) else (if (decide (b > 3))=true then (oC x1 c b true) else ((fA c).bind fun e=>oC x1 c b (!e))))
theorem Gb{x1:bM}{l m:Value}{n:Int}{o:ByteArray}(H:Sep w (Fo) rs)(p:rSl aX l x1.Watches ∈ rs)(q:rSl aO m x1.Sessions ∈ rs){r:bM×Int}(hm:B3 x1 n o=some r) :
    Calls Tryz.prog 252 [.agg #[l,m],.int .i64 n,.string o].toArray w (Ret fun v w'=>∃ C D,.tuple #[.agg #[C,D],.int .i64 r.2]=v∧Sep w' (Fo) (rSl aX C r.1.Watches::rSl aO D r.1.Sessions::rs)):=by
 unfold B3 at hm
 refine ent Tryz.func252 rfl Tryz.ntmps252 rfl rfl fun a E=>sq<|bS E H (wn rfl) rfl rfl rfl rfl rfl fun F w a H E=>bS E H (wn rfl) rfl rfl rfl rfl rfl fun G w a H E=>bS E H (wn rfl) rfl rfl rfl rfl rfl fun s w a H E=>al E H rfl rfl rfl rfl J8 fun t w a H E=>pr 1 E rfl fun a E=>nt<|wp_seq<|aT (fun a w=>∃ j g,Env 36 a [(3,pt F 0),(4,pt G 0),(5,pt s 0),(6,pt t 0),(23,.bool j)]∧Sep w (Blk F 73 [l,m]::Blk G 3 [.int .i64 n]::Blk s 9 [.string o]::Blk t 73 [.slice none 0 0,.slice none 0 0]::Fo) g∧(∀ r,r ∈ rs→r ∈ g)∧oC x1 o n j=some r) ?_ ?_
 ·refine wp_region_lit<|sv E rfl rfl rfl (cA (i:=3) (us:=[l,m]) E H rfl rfl rfl rfl U73 rfl eE) fun a E=>bd hm fun K x hm=>xk E rfl rfl rfl rfl rfl Dx (xQ H p q x) fun w H a E=>pr 2 E rfl fun a E=>cs hm (fun c hm=>?_) fun c hm=>?_
  ·exact pk 12 E (kc 11 rfl c) rfl fun a E=>nt<|have H:=H.frs [0,1,2,3] rfl;⟨_,_,E.to rfl,H,Y0,hm⟩
  ·refine aQ E (ws' (d:=11) E rfl rfl rfl rfl c) rfl rfl (cD (i:=2) E H rfl rfl rfl rfl U3 rfl) fun a E=>pk 3 E (kc 11 rfl c) rfl fun a E=>cs hm (fun e hm=>?_) fun e hm=>?_
   ·exact pk 8 E (kc 15 rfl e) rfl fun a E=>nt<|have H:=H.frs [0,1,2,3] rfl;⟨_,_,E.to rfl,H,Y0,hm⟩
   ·refine aQ E (ws' (d:=15) E rfl rfl rfl rfl e) rfl rfl (cD (i:=2) E H rfl rfl rfl rfl U3 rfl) fun a E=>pk 3 E (kc 15 rfl e) rfl fun a E=>cs hm (fun b hm=>?_) fun b hm=>?_
    ·exact pk 4 E (kc 19 rfl b) rfl fun a E=>nt<|have H:=H.frs [0,1,2,3] rfl;⟨_,_,E.to rfl,H,Y0,hm⟩
    ·refine aQ E (ws' (d:=19) E rfl rfl rfl rfl b) rfl rfl (cD (i:=1) E H rfl rfl rfl rfl U9 rfl) fun a E=>bd hm fun L y hm=>aU E (ws' (d:=19) E rfl rfl rfl rfl b) rfl rfl (cC E rfl rfl (yU _)) (gC H y)<|?_
     rintro _ w ⟨rfl,H⟩ a E
     exact pk 2 E (kc 19 rfl b) rfl fun a E=>nt<|have H:=H.frs [0,1,2,3] rfl;⟨_,_,E.to rfl,H,Y0,hm⟩
 ·clear E H hm
  rintro a w ⟨j,g,E,H,f,hm⟩
  unfold oC at hm
  refine wif E hm rfl (fun hm=>?_) fun hm=>?_
  ·refine sq<|sv E rfl rfl rfl (cI E rfl (E.evs rfl) (v:=.agg #[.slice none 0 0,.slice none 0 0]) (by kernel_rfl)) fun a E=>aZ (i:=3) E H (wn rfl) rfl rfl rfl rfl rfl rfl eE rfl rfl fun w H=>pr 1 E rfl fun a E=>nt<|wp_ret<|aP<|rJ E rfl (cV (i:=3) (us:=[.slice none 0 0,.slice none 0 0]) H rfl rfl rfl U73 rfl eE) (rvT rfl)<|have H:=H.nilSl aX;?_
   refine have H:=H.nilSl aO;have H:=H.drs [0,0,0,0];?_
   cases hm
   exact ⟨_,_,rfl,H.reads (aA mm1 (aA m0 (fun r hr=>(t2 (f r hr)))))⟩
  ·refine wp_skip<|aC<|sq<|pr 1 E rfl fun a E=>lb E H 0 rfl rfl rfl rfl rfl rfl rfl U71 rfl fun a E=>bk hm fun z hm=>aU E (wn rfl) rfl rfl (cC E rfl rfl (Ea _)) (eG H (f _ q) z) fun M w H a E=>pr 1 E rfl fun a E=>?_
   obtain ⟨q18,N,rfl⟩:=H.rowform (i:=0) rfl
   refine aZ (i:=1) E H (wn rfl) rfl rfl rfl rfl rfl rfl Ft rfl rfl fun w H=>nx<|pr 1 E rfl fun a E=>lb E H 1 rfl rfl rfl rfl rfl rfl rfl U70 rfl fun a E=>bk hm fun A hm=>aU E (wn rfl) rfl rfl (cC E rfl rfl (Eb _)) (fM H (f _ p) A) fun O w H a E=>sv E rfl rfl rfl (iP E rfl rfl rfl) fun a E=>have H:=H.frs [5,4,3,4,5,5] rfl;bd hm fun k B hm=>?_
   refine cG E rfl rfl rfl rfl rfl Xk (tH H B)<|?_
   rintro _ w ⟨P,I,rfl,H⟩ a E
   refine pr 1 E rfl fun a E=>?_
   obtain ⟨q27,u,rfl⟩:=H.rowform (i:=0) rfl
   refine aZ (i:=2) E H (wn rfl) rfl rfl rfl rfl rfl rfl Io rfl rfl fun w H=>nx<|sv E rfl rfl rfl (cA (i:=2) (us:=[(.slice q27 k.1.length u),I]) E H rfl rfl rfl rfl U73 rfl eE) fun a E=>?_
   obtain ⟨q29,J,rfl⟩:=H.rowform (i:=4) rfl
   refine aZ (i:=5) E H (wn rfl) rfl rfl rfl rfl rfl rfl eE rfl rfl fun w H=>pr 1 E rfl fun a E=>nt<|wp_ret<|rJ E rfl (cV (i:=5) (us:=[(.slice q27 k.1.length u),(.slice q29 k.2.length J)]) H rfl rfl rfl U73 rfl eE) (rvT rfl)<|have H:=H.thaw (i:=0) rfl;have H:=H.thaw (i:=3) rfl;have H:=H.drs [0,0,0,0];?_
   cases hm
   exact ⟨_,_,rfl,H.reads (aA mm1 (aA m0 (fun r hr=>(t2 (f r hr)))))⟩

def jQ(c:List aK)(d:List aD)(x20:Int)(e:ByteArray):Option ((List aK)×(List aD)):=
  (B3 (⟨c,d⟩:bM) x20 e).bind fun b=>if (b.2 == 0)=true then (some (b.1.Watches,b.1.Sessions)) else (some (c,d))
theorem oZ{s:Nat}{b c j k l m n o p:Value}{d:List aK}{e:List aD}{x20:Int}{q:ByteArray}(H:Sep w (Blk s 75 [j,k,l,m,b,c,n,o,p]::Fo) rs)(f:rSl aX b d ∈ rs)(g:rSl aO c e ∈ rs){r:(List aK)×(List aD)}(hm:jQ d e x20 q=some r) :
    Calls Tryz.prog 184 [pt s 0,.int .i64 x20,.string q].toArray w (Ret fun v w'=>∃ u x,.tuple #[]=v∧Sep w' (Blk s 75 [j,k,l,m,u,x,n,o,p]::Fo) (rSl aX u r.1::rSl aO x r.2::rs)):=by
 unfold jQ at hm
 refine ent Tryz.func184 rfl Tryz.ntmps184 rfl rfl fun a E=>sq<|pr 3 E rfl fun a E=>sv E rfl rfl rfl (cA (i:=0) (us:=[b,c]) E H rfl rfl rfl rfl U73 rfl eE) fun a E=>pr 2 E rfl fun a E=>bd hm fun A t hm=>cG E rfl rfl rfl rfl rfl Xj (Gb (x1:=(⟨d,e⟩:bM)) H f g t)<|?_
 rintro _ w ⟨y,z,rfl,H⟩ a E
 refine pr 3 E rfl fun a E=>al E H rfl rfl rfl rfl J8 fun B w a H E=>aZ (i:=0) E H (wn rfl) rfl rfl rfl rfl rfl rfl eE rfl (gB H m0 mm1) fun w H=>pr 1 E rfl fun a E=>nx<|pr 2 E rfl fun a E=>nt<|wif E hm rfl (fun hm=>?_) fun hm=>?_
 ·refine wp_region_lit<|pr 1 E rfl fun a E=>sv E rfl rfl rfl (cA (i:=0) (us:=[y,z]) E H rfl rfl rfl rfl U73 rfl eE) fun a E=>pr 2 E rfl fun a E=>aZ (i:=1) E H (wn rfl) rfl rfl rfl rfl rfl rfl eE rfl (gB H m0 mm1) fun w H=>wpList_nil<|oJ E rfl<|have H:=H.drop 0;?_
  cases hm
  exact ⟨_,_,rfl,H.reads (aA m0 (aA mm1 (fun r hr=>(t2 hr))))⟩
 ·refine wp_skip<|oJ E rfl<|have H:=H.drop 0;?_
  cases hm
  exact ⟨_,_,rfl,H.reads (aA (t2 f) (aA (t2 g) (fun r hr=>(t2 hr))))⟩

def gP(rec_1:Int→(List aK)→(List aD)→Option ((List aK)×(List aD)))(b:Int)(c:(List aK))(d:(List aD)):Option ((List aK)×(List aD)):=
  rec_1 (IntKind.i64.wrap (b+1)) c d
def oD(rec_1:Int→(List aK)→(List aD)→Option ((List aK)×(List aD)))(d:Int)(b:cL)(e:cF):Nat→Int→(List aK)→(List aD)→Option ((List aK)×(List aD))
  | 0,_,_,_=>none
  | l+1,c,f,g=>
    if (decide (c < (b.Names.length:Int)))=true then ((idx b.Names c).bind fun j=>(r4 e.Part.Path j).bind fun k=>(jQ f g 2 k.1).bind fun i=>oD rec_1 d b e l (IntKind.i64.wrap (c+1)) i.1 i.2) else (gP rec_1 d f g)
def eA(c:List cF)(d:List cL):Nat→Int→(List aK)→(List aD)→Option ((List aK)×(List aD))
  | 0,_,_,_=>none
  | i+1,b,f,g=>
    if (decide (b < (c.length:Int)))=true then ((idx c b).bind fun e=>if (e.Part.Kind == 2)=true then ((idx d b).bind fun n=>(jQ f g 1 n.Path).bind fun j=>gP (eA c d i) b j.1 j.2) else (if (e.Part.Kind == 3)=true then ((jQ f g 2 e.Part.Path).bind fun k=>gP (eA c d i) b k.1 k.2) else (if (e.Part.Kind == 5)=true then ((jQ f g 3 e.Part.Path).bind fun l=>gP (eA c d i) b l.1 l.2) else (if (e.Part.Kind == 10)=true then ((idx d b).bind fun m=>oD (eA c d i) b m e (((m.Names.length:Int) - 0:Int).toNat+1) 0 f g) else (gP (eA c d i) b f g))))) else (some (f,g))
def vD(c:List aK)(d:List aD)(b:List cF)(e:List cL):Option ((List aK)×(List aD)):=
  eA b e (((b.length:Int) - 0:Int).toNat+1) 0 c d
theorem P9{l:Nat}{X Y m n o p q s t u x:Value}{Z:List aK}{b0:List aD}{c:List cF}{y:List cL}(H:Sep w (Blk l 75 [o,p,q,s,X,Y,t,u,x]::Fo) rs)(b4:rSl aX X Z ∈ rs)(b5:rSl aO Y b0 ∈ rs)(C:rSl cE m c ∈ rs)(D:rSl bE n y ∈ rs){r:(List aK)×(List aD)}(hm:vD Z b0 c y=some r) :
    Calls Tryz.prog 125 [pt l 0,m,n].toArray w (Ret fun v w'=>∃ c8 c9,.tuple #[]=v∧Sep w' (Blk l 75 [o,p,q,s,c8,c9,t,u,x]::Fo) (rSl aX c8 r.1::rSl aO c9 r.2::rs)):=by
 unfold vD at hm
 refine ent Tryz.func125 rfl Tryz.ntmps125 rfl rfl fun a E=>sq<|pr 1 E rfl fun a E=>sv E rfl rfl rfl (cR E H rfl rfl C U26) fun a E=>pr 1 E rfl fun a E=>nt<|wp_block<|bX (fun z a w=>∃ F G g I J j,Env 70 a [(0,pt l 0),(2,n),(12,m),(13,.int .i64 (c.length:Int)),(14,.int .i64 g)]∧Sep w (Blk l 75 [o,p,q,s,F,G,t,u,x]::Fo) j∧(∀ r,r ∈ rs→r ∈ j)∧rSl aX F I ∈ j∧rSl aO G J ∈ j∧eA c y z g I J=some r) (((c.length:Int) - 0:Int).toNat+1) ?_ ?_
 ·exact X6 ⟨E.to rfl,H,Y0,b4,b5,hm⟩
 ·clear E H hm
  rintro z a w ⟨F,G,g,I,J,j,E,H,b,d,e,hm⟩
  cases z with
  | zero=>exact (bT hm rfl).elim
  | succ z=>
   unfold eA at hm
   refine sq<|pr 1 E rfl fun a E=>nt<|wp_seq<|wif E hm rfl (fun hm=>?_) fun hm=>?_
   ·refine wp_skip<|aC<|aT (fun a w=>∃ K L M N k,Env 70 a [(0,pt l 0),(2,n),(12,m),(13,.int .i64 (c.length:Int)),(14,.int .i64 g)]∧Sep w (Blk l 75 [o,p,q,s,K,L,t,u,x]::Fo) k∧(∀ r,r ∈ rs→r ∈ k)∧rSl aX K M ∈ k∧rSl aO L N ∈ k∧gP (eA c y z) g M N=some r) ?_ ?_
    ·refine wp_block<|sq<|pr 1 E rfl fun a E=>bd hm fun b1 b6 hm=>dE E H (wn rfl) rfl rfl rfl rfl rfl (b _ C) U26 s8 b6 fun q54 a H E=>ldf sJ E H rfl rfl rfl rfl rfl m0 U87 rfl s8 fun a E=>al E H rfl rfl rfl rfl Ig fun b2 w a H E=>pr 1 E rfl fun a E=>aZ (i:=0) E H (wn rfl) rfl rfl rfl rfl rfl rfl s8 rfl rfl fun w H=>?_
     refine nx<|pr 2 E rfl fun a E=>lb E H 0 rfl rfl rfl rfl rfl rfl rfl U3 rfl fun a E=>nt<|wp_block<|sq<|pr 2 E rfl fun a E=>nt<|wif E hm rfl (fun hm=>?_) fun hm=>?_
     ·refine wp_region_lit<|pr 3 E rfl fun a E=>bd hm fun d0 b7 hm=>dE E H (wn rfl) rfl rfl rfl rfl rfl (t1 (b _ D)) U40 zU b7 fun q58 a H E=>have H:=H.derive1 m0 (rAt kS (q58.add 1) d0.Path) (fun ok h=>X1 h);pr 1 E rfl fun a E=>sv E rfl rfl rfl (nT E H rfl rfl m0 U9 rfl) fun a E=>have H:=H.frs [0,1] rfl;bd hm fun d1 b8 hm=>?_
      refine cG E rfl rfl rfl rfl rfl Ee (oZ H (t3 d) (t3 e) b8)<|?_
      rintro _ w ⟨d2,d3,rfl,H⟩ a E
      exact wpList_nil<|bY<|bY<|aC<|have H:=H.drop 1;X5 ⟨E.to rfl,H,(Y5 b),m0,mm1,hm⟩
     ·refine sq<|pr 2 E rfl fun a E=>nt<|wif E hm rfl (fun hm=>?_) fun hm=>?_
      ·refine wp_region_lit<|pr 3 E rfl fun a E=>lb E H 0 rfl rfl rfl rfl rfl rfl rfl U9 rfl fun a E=>have H:=H.frs [0,1] rfl;bd hm fun d4 b9 hm=>cG E rfl rfl rfl rfl rfl Ee (oZ H (t1 d) (t1 e) b9)<|?_
       rintro _ w ⟨d5,d6,rfl,H⟩ a E
       exact wpList_nil<|bY<|bY<|aC<|have H:=H.drop 1;X5 ⟨E.to rfl,H,(Y3 b),m0,mm1,hm⟩
      ·refine sq<|pr 2 E rfl fun a E=>nt<|wif E hm rfl (fun hm=>?_) fun hm=>?_
       ·refine wp_region_lit<|pr 3 E rfl fun a E=>lb E H 0 rfl rfl rfl rfl rfl rfl rfl U9 rfl fun a E=>have H:=H.frs [0,1] rfl;bd hm fun d7 c0 hm=>cG E rfl rfl rfl rfl rfl Ee (oZ H (t1 d) (t1 e) c0)<|?_
        rintro _ w ⟨d8,d9,rfl,H⟩ a E
        exact wpList_nil<|bY<|bY<|aC<|have H:=H.drop 1;X5 ⟨E.to rfl,H,(Y3 b),m0,mm1,hm⟩
       ·refine sq<|pr 2 E rfl fun a E=>nt<|wif E hm rfl (fun hm=>?_) fun hm=>?_
        ·refine sq<|pr 2 E rfl fun a E=>bd hm fun A c1 hm=>dE E H (wn rfl) rfl rfl rfl rfl rfl (t1 (b _ D)) U40 zU c1 fun q73 a H E=>have H:=H.derive1 m0 (rAt (kL kS) (q73.add 4) A.Names) (fun ok h=>X2 h);pr 1 E rfl fun a E=>Pt E H (wn rfl) rfl rfl rfl rfl m0 U33 rfl fun b3 a H E=>sv E rfl rfl rfl (cR E H rfl rfl m0 U33) fun a E=>pr 1 E rfl fun a E=>?_
         refine nt<|wp_block<|bX (fun B a w=>∃ O P Q R S f,Env 70 a [(0,pt l 0),(2,n),(7,pt b2 0),(12,m),(13,.int .i64 (c.length:Int)),(14,.int .i64 g),(51,b3),(52,.int .i64 (A.Names.length:Int)),(53,.int .i64 Q)]∧Sep w (Blk l 75 [o,p,q,s,O,P,t,u,x]::Blk b2 87 (U8 b1)::Fo) f∧(∀ r,r ∈ rs→r ∈ f)∧rSl kS b3 A.Names ∈ f∧rSl aX O R ∈ f∧rSl aO P S ∈ f∧oD (eA c y z) g A b1 B Q R S=some r) (((A.Names.length:Int) - 0:Int).toNat+1) ?_ ?_
         ·exact have H:=H.frs [0,1] rfl;X6 ⟨E.to rfl,H,(Y4 b),m0,(t4 d),(t4 e),hm⟩
         ·clear E H hm
          rintro B a w ⟨O,P,Q,R,S,f,E,H,T,U,V,W,hm⟩
          cases B with
          | zero=>exact (bT hm rfl).elim
          | succ B=>
           unfold oD at hm
           refine sq<|pr 1 E rfl fun a E=>nt<|wp_seq<|wif E hm rfl (fun hm=>?_) fun hm=>?_
           ·refine wp_skip<|aC<|wp_seq<|wp_block<|sq<|bd hm fun e0 c2 hm=>dE E H (wn rfl) rfl rfl rfl rfl rfl U U33 sz9 c2 fun q87 a H E=>sv E rfl rfl rfl (nT E H rfl rfl m0 U9 rfl) fun a E=>pr 1 E rfl fun a E=>?_
            refine nx<|pr 2 E rfl fun a E=>lb E H 1 rfl rfl rfl rfl rfl rfl rfl U9 rfl fun a E=>pr 1 E rfl fun a E=>bd hm fun e1 c3 hm=>xk E rfl rfl rfl rfl rfl Mz (V5 H c3) fun w H a E=>pr 5 E rfl fun a E=>nt<|wp_region_lit<|?_
            refine pr 2 E rfl fun a E=>bd hm fun e2 c4 hm=>cG E rfl rfl rfl rfl rfl Ee (oZ H (t1 V) (t1 W) c4)<|?_
            rintro _ w ⟨e3,e4,rfl,H⟩ a E
            exact wpList_nil<|bY<|aC<|wp_region_lit<|pr 2 E rfl fun a E=>nt<|⟨B,Nat.lt_succ_self B,X6 ⟨E.to rfl,H,(Y3 T),(t3 U),m0,mm1,hm⟩⟩
           ·exact wp_exit<|bH<|bH<|dG<|bY<|bY<|aC<|have H:=H.drop 1;X5 ⟨E.to rfl,H,T,V,W,hm⟩
        ·exact wp_skip<|bY<|bY<|aC<|have H:=H.drop 0;X5 ⟨E.to rfl,H,(Y1 b),(t1 d),(t1 e),hm⟩
    ·clear E H hm
     rintro a w ⟨K,L,M,N,k,E,H,c5,c6,c7,hm⟩
     unfold gP at hm
     exact wp_region_lit<|pr 2 E rfl fun a E=>nt<|⟨z,Nat.lt_succ_self z,X6 ⟨E.to rfl,H,c5,c6,c7,hm⟩⟩
   ·refine wp_exit<|bH<|bH<|dG<|oJ E rfl<|?_
    cases hm
    exact ⟨_,_,rfl,H.reads (aA d (aA e (b)))⟩

def rP(g:List aE)(i:List aI)(c:List aK)(d:List aD)(e:List cF):Option (aG×(List aE)×(List aI)×(List aK)×(List aD)):=
  (r5 (⟨g,i⟩:bB) e).bind fun b=>if (b.2.2.1 != 0)=true then (some ((⟨b.2.2.1,b.2.2.2,false,0,[],(⟨[],[]⟩:bB),[],[],[]⟩:aG),g,i,c,d)) else ((vD c d e b.2.1).bind fun f=>some ((⟨0,0,false,0,b.2.1,(⟨[],[]⟩:bB),[],[],[]⟩:aG),b.1.Nodes,b.1.Turns,f.1,f.2))
theorem x6{B:Nat}{C D j k l m n o p q:Value}{F:List aE}{G:List aI}{s:List aK}{t:List aD}{u:List cF}(H:Sep w (Blk B 75 [C,D,m,n,j,k,o,p,q]::Fo) rs)(c:rSl aF C F ∈ rs)(d:rSl aJ D G ∈ rs)(e:rSl aX j s ∈ rs)(f:rSl aO k t ∈ rs)(g:rSl cE l u ∈ rs)(I:xU Tryz.prog ∈ rs){r:aG×(List aE)×(List aI)×(List aK)×(List aD)}(hm:rP F G s t u=some r) :
    Calls Tryz.prog 70 [pt B 0,l].toArray w (Ret fun v w'=>∃ L M N O P Q R x y z,.agg (bC r.1 L M N O P Q).toArray=v∧Sep w' (Blk B 75 [R,x,m,n,y,z,o,p,q]::Fo) (rSl bE L r.1.Results::rSl aF M r.1.Store.Nodes::rSl aJ N r.1.Store.Turns::rSl aV O r.1.Events::rSl bL P r.1.Mounts::rSl (kI .i64) Q r.1.Wounded::rSl aF R r.2.1::rSl aJ x r.2.2.1::rSl aX y r.2.2.2.1::rSl aO z r.2.2.2.2::rs)):=by
 unfold rP at hm
 refine ent Tryz.func70 rfl Tryz.ntmps70 rfl rfl fun a E=>sq<|al E H rfl rfl rfl rfl gN fun U w a H E=>nx<|pr 3 E rfl fun a E=>sv E rfl rfl rfl (cA (i:=1) (us:=[C,D]) E H rfl rfl rfl rfl U25 rfl dA) fun a E=>pr 1 E rfl fun a E=>bd hm fun b J hm=>cG E rfl rfl rfl rfl rfl Lt (F7 (x1:=(⟨F,G⟩:bB)) H c d g I J)<|?_
 rintro _ w ⟨S,T,V,rfl,H⟩ a E
 refine pr 5 E rfl fun a E=>al E H rfl rfl rfl rfl jN fun W w a H E=>aZ (i:=0) E H (wn rfl) rfl rfl rfl rfl rfl rfl dA rfl (jK H m0 mm1) fun w H=>pr 3 E rfl fun a E=>nt<|wp_seq<|sq<|pr 2 E rfl fun a E=>nt<|wif E hm rfl (fun hm=>?_) fun hm=>?_
 ·refine sq<|pr 2 E rfl fun a E=>sv E rfl rfl rfl (cI E rfl (E.evs rfl) (v:=.agg #[.int .i64 b.2.2.1,.int .i64 b.2.2.2,.bool false,.int .i64 0,.slice none 0 0,.slice none 0 0,.slice none 0 0,.slice none 0 0,.slice none 0 0,.slice none 0 0]) (by kernel_rfl)) fun a E=>aZ (i:=2) E H (wn rfl) rfl rfl rfl rfl rfl rfl bU rfl rfl fun w H=>nt<|wp_ret<|aP<|dH E rfl (cV (i:=2) (us:=[.int .i64 b.2.2.1,.int .i64 b.2.2.2,.bool false,.int .i64 0,.slice none 0 0,.slice none 0 0,.slice none 0 0,.slice none 0 0,.slice none 0 0,.slice none 0 0]) H rfl rfl rfl U48 rfl bU)<|have H:=H.nilSl bE;?_
  refine have H:=H.nilSl aF;have H:=H.nilSl aJ;have H:=H.nilSl aV;have H:=H.nilSl bL;have H:=H.nilSl (kI .i64);have H:=H.drs [0,0,0];?_
  cases hm
  exact X10 ⟨rfl,H.reads (aA mm5 (aA mm4 (aA mm3 (aA mm2 (aA mm1 (aA m0 (aA (t8 c) (aA (t8 d) (aA (t8 e) (aA (t8 f) (fun r hr=>(t8 hr))))))))))))⟩
 ·refine wp_skip<|aC<|sq<|pr 1 E rfl fun a E=>sv E rfl rfl rfl (cA (i:=0) (us:=[S,T]) E H rfl rfl rfl rfl U25 rfl dA) fun a E=>pr 2 E rfl fun a E=>aZ (i:=3) E H (wn rfl) rfl rfl rfl rfl rfl rfl dA rfl (jK H m0 mm1) fun w H=>nx<|pr 3 E rfl fun a E=>?_
  refine have H:=H.thaw (i:=1) rfl;have H:=H.frs [1,1,2] rfl;bd hm fun X K hm=>cG E rfl rfl rfl rfl rfl Xi (P9 H (t3 e) (t3 f) (t3 g) m0 K)<|?_
  rintro _ w ⟨Y,Z,rfl,H⟩ a E
  refine nx<|pr 1 E rfl fun a E=>?_
  obtain ⟨q44,A,rfl⟩:=H.slform mm2
  refine sv E rfl rfl rfl (cI E rfl (E.evs rfl) (v:=.agg #[.int .i64 0,.int .i64 0,.bool false,.int .i64 0,(.slice q44 b.2.1.length A),.slice none 0 0,.slice none 0 0,.slice none 0 0,.slice none 0 0,.slice none 0 0]) (by kernel_rfl)) fun a E=>aZ (i:=2) E H (wn rfl) rfl rfl rfl rfl rfl rfl bU rfl rfl fun w H=>nt<|wp_ret<|dH E rfl (cV (i:=2) (us:=[.int .i64 0,.int .i64 0,.bool false,.int .i64 0,(.slice q44 b.2.1.length A),.slice none 0 0,.slice none 0 0,.slice none 0 0,.slice none 0 0,.slice none 0 0]) H rfl rfl rfl U48 rfl bU)<|have H:=H.nilSl aF;have H:=H.nilSl aJ;have H:=H.nilSl aV;have H:=H.nilSl bL;?_
  refine have H:=H.nilSl (kI .i64);have H:=H.drs [1,1];?_
  cases hm
  exact X10 ⟨rfl,H.reads (aA (t1 mm6) (aA mm4 (aA mm3 (aA mm2 (aA mm1 (aA m0 (aA (t2 mm6) (aA (t3 mm6) (aA mm5 (aA mm6 (fun r hr=>(t2 (t8 hr)))))))))))))⟩

end Go.Cb
