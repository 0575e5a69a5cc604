/- Functions of the program, walked: each comes to its plain function. -/
import Derived.Test.YtpbgbliikifjjaaGreatDoorKsl1
import Derived.Test.YtpbgbliikifjjaaGreatDoorExsl
import Derived.Test.YtpbgbliikifjjaaGreatDoorN4sl
set_option linter.unusedVariables false
set_option linter.unusedSimpArgs false
set_option maxRecDepth 20000
set_option maxHeartbeats 1000000
namespace Go.Cb
open Go.Proofs Go.RowKit
variable {w:World} {Fo:List Ob} {rs:List Rp}

def fQ(b:Int):Option Int:=
  some (b)
theorem nJ{e:Nat}{b:Int}{c d f g j k l:Value}(H:Sep w (Blk e 251 [c,d,f,g,j,k,l]::Fo) rs){r:Int}(hm:fQ b=some r) :
    Calls Tryz.prog 257 [pt e 0,.int .i64 b].toArray w (Ret fun v w'=>.tuple #[]=v∧Sep w' (Blk e 251 [c,d,.int .i64 r,.string (ByteArray.mk #[]),.string (ByteArray.mk #[]),.int .i64 0,.slice none 0 0]::Fo) (rs)):=by
 unfold fQ at hm
 refine ent Tryz.func257 rfl Tryz.ntmps257 rfl rfl fun a E=>wp_region_lit<|pr 2 E rfl fun a E=>sv E rfl rfl rfl (cL E rfl (E.evs rfl) (v:=.agg #[.int .i64 b,.string (ByteArray.mk #[]),.string (ByteArray.mk #[]),.int .i64 0,.slice none 0 0]) (by kernel_rfl)) fun a E=>pr 2 E rfl fun a E=>bA (i:=0) E H (wn rfl) rfl rfl rfl rfl rfl rfl C2 rfl rfl fun w H=>wpList_nil<|rC E rfl<|?_
 cases hm
 exact ⟨rfl,H.reads Y0⟩

def pJ(x1:aF)(b:ByteArray):Option Int:=
  (jZ x1.Path b).bind fun c=>some (c)
theorem A8{x1:aF}{b:ByteArray}(H:Sep w (Fo) rs){r:Int}(hm:pJ x1 b=some r) :
    Calls Tryz.prog 314 [.agg (kM x1).toArray,.string b].toArray w (Ret fun v w'=>.int .i64 r=v∧Sep w' (Fo) (rs)):=by
 unfold pJ at hm
 refine ent Tryz.func314 rfl Tryz.ntmps314 rfl rfl fun a E=>sq<|bS E H (wn rfl) rfl rfl rfl rfl rfl fun d w a H E=>pr 1 E rfl fun a E=>nx<|pr 1 E rfl fun a E=>lb E H 0 rfl rfl rfl rfl rfl rfl rfl U9 rfl fun a E=>pr 1 E rfl fun a E=>bd hm fun e c hm=>?_
 refine xk E rfl rfl rfl rfl rfl Ld (rK H c) fun w H a E=>pr 1 E rfl fun a E=>nt<|wp_ret<|aY E rfl rfl<|have H:=H.drop 0;?_
 cases hm
 exact ⟨rfl,H.reads Y0⟩

def cH(c:List aF)(e:ByteArray):Nat→Int→Int→Option (Int×Bool)
  | 0,_,_=>none
  | f+1,b,d=>
    if (decide (b < d))=true then ((idx c (IntKind.i64.wrap (rD .u64 (IntKind.u64.wrap (IntKind.i64.wrap (b+d))) 1))).bind fun k=>(pJ k e).bind fun g=>if (decide (g < 0))=true then (cH c e f (IntKind.i64.wrap ((IntKind.i64.wrap (rD .u64 (IntKind.u64.wrap (IntKind.i64.wrap (b+d))) 1))+1)) d) else (cH c e f b (IntKind.i64.wrap (rD .u64 (IntKind.u64.wrap (IntKind.i64.wrap (b+d))) 1)))) else (if (decide (b < (c.length:Int)))=true then ((idx c b).bind fun i=>(pJ i e).bind fun j=>some (b,j == 0)) else (some (b,false)))
def eP(b:List aF)(c:ByteArray):Option (Int×Bool):=
  cH b c (((b.length:Int) - 0:Int).toNat+1) 0 (b.length:Int)
theorem rT{k:Value}{f:List aF}{q:ByteArray}(H:Sep w (Row 95 aE k f::Fo) rs){r:Int×Bool}(hm:eP f q=some r) :
    Calls Tryz.prog 313 [k,.string q,.func (.func 314) #[] #[]].toArray w (Ret fun v w'=>.tuple #[.int .i64 r.1,.bool r.2]=v∧Sep w' (Row 95 aE k f::Fo) (rs)):=by
 unfold eP at hm
 refine ent Tryz.func313 rfl Tryz.ntmps313 rfl rfl fun a E=>sq<|pr 2 E rfl fun a E=>nx<|pr 1 E rfl fun a E=>sv E rfl rfl rfl (kK (i:=0) E H rfl rfl rfl U22) fun a E=>pr 1 E rfl fun a E=>nx<|pr 3 E rfl fun a E=>?_
 refine nt<|wp_seq<|wp_block<|bX (fun c a w=>∃ s t l,Env 49 a [(0,k),(1,.string q),(2,.func (.func 314) #[] #[]),(8,.int .i64 (f.length:Int)),(9,.int .i64 s),(10,.int .i64 t)]∧Sep w (Row 95 aE k f::Fo) l∧(∀ r,r ∈ rs→r ∈ l)∧cH f q c s t=some r) (((f.length:Int) - 0:Int).toNat+1) ?_ ?_
 ·exact X3 ⟨E.to rfl,H,Y0,hm⟩
 ·clear E H hm
  rintro c a w ⟨s,t,l,E,H,j,hm⟩
  cases c with
  | zero=>exact (bU hm rfl).elim
  | succ c=>
   unfold cH at hm
   refine wp_seq<|sq<|pr 3 E rfl fun a E=>nt<|wif E hm rfl (fun hm=>?_) fun hm=>?_
   ·refine wp_skip<|aC<|wp_block<|sq<|pr 4 E rfl fun a E=>sv E rfl rfl rfl (S4 E rfl rfl rfl (by decide)) fun a E=>pr 2 E rfl fun a E=>nx<|pr 3 E rfl fun a E=>?_
    refine bd hm fun m n hm=>?_
    obtain ⟨y,z,o⟩:=H.rowformNE (i:=0) rfl n
    refine sv E rfl rfl rfl (dG (d:=aE) E o rfl rfl rfl rfl U22 iZ n) fun a E=>sv E rfl rfl rfl (hP (i:=0) E H cO o rfl rfl rfl n (us:=[.string m.Path,.string m.Data,.int .i64 m.Version,.int .i64 m.Turn,.int .i64 m.Owner]) rfl U95 rfl iZ) fun a E=>pr 1 E rfl fun a E=>bd hm fun A u hm=>aW E (wn rfl) rfl rfl (bR E rfl rfl rfl (Xh _)) (A8 H u)<|?_
    rintro _ w ⟨rfl,H⟩ a E
    refine pr 1 E rfl fun a E=>nt<|wif E hm rfl (fun hm=>?_) fun hm=>?_
    ·exact wp_region_lit<|pr 3 E rfl fun a E=>wpList_nil<|bZ<|aC<|⟨c,Nat.lt_succ_self c,X3 ⟨E.to rfl,H,j,hm⟩⟩
    ·exact wp_region_lit<|pr 2 E rfl fun a E=>wpList_nil<|bZ<|aC<|⟨c,Nat.lt_succ_self c,X3 ⟨E.to rfl,H,j,hm⟩⟩
   ·refine wp_exit<|bG<|bG<|dN<|aC<|sq<|pr 5 E rfl fun a E=>cs hm (fun b hm=>?_) fun b hm=>?_
    ·refine pk 3 E (kc 39 rfl b) rfl fun a E=>bd hm fun e g hm=>?_
     obtain ⟨B,C,p⟩:=H.rowformNE (i:=0) rfl g
     refine aQ E (ws' (d:=39) E rfl rfl rfl rfl b) rfl rfl (dG (d:=aE) E p rfl rfl rfl rfl U22 iZ g) fun a E=>aQ E (ws' (d:=39) E rfl rfl rfl rfl b) rfl rfl (hP (i:=0) E H cO p rfl rfl rfl g (us:=[.string e.Path,.string e.Data,.int .i64 e.Version,.int .i64 e.Turn,.int .i64 e.Owner]) rfl U95 rfl iZ) fun a E=>pk 1 E (kc 39 rfl b) rfl fun a E=>bd hm fun D x hm=>aW E (ws' (d:=39) E rfl rfl rfl rfl b) rfl rfl (bR E rfl rfl rfl (Xh _)) (A8 H x)<|?_
     rintro _ w ⟨rfl,H⟩ a E
     refine pk 4 E (kc 39 rfl b) rfl fun a E=>nt<|wp_ret<|hG E rfl rfl rfl<|?_
     cases hm
     exact ⟨rfl,H.reads j⟩
    ·refine pk 11 E (kc 39 rfl b) rfl fun a E=>nt<|wp_ret<|hG E rfl rfl rfl<|?_
     cases hm
     exact ⟨rfl,H.reads j⟩

def kA(d:List aF)(c:ByteArray):Option (Int×Bool):=
  (eP d c).bind fun b=>some (b.1,b.2)
theorem q3{k:Nat}{b c d e f g i:Value}{l:List aF}{j:ByteArray}(H:Sep w (Blk k 251 [b,c,d,e,f,g,i]::Row 95 aE b l::Fo) rs){r:Int×Bool}(hm:kA l j=some r) :
    Calls Tryz.prog 262 [pt k 0,.string j].toArray w (Ret fun v w'=>.tuple #[.int .i64 r.1,.bool r.2]=v∧Sep w' (Blk k 251 [b,c,d,e,f,g,i]::Row 95 aE b l::Fo) (rs)):=by
 unfold kA at hm
 refine ent Tryz.func262 rfl Tryz.ntmps262 rfl rfl fun a E=>sq<|pr 2 E rfl fun a E=>nx<|pr 4 E rfl fun a E=>lb E H 0 rfl rfl rfl rfl rfl rfl rfl U22 rfl fun a E=>pr 1 E rfl fun a E=>have H:=H.frs [0,1] rfl;bd hm fun n m hm=>?_
 refine xk E rfl rfl rfl rfl rfl HZ (rT H m) fun w H a E=>pr 4 E rfl fun a E=>nt<|wp_ret<|hG E rfl rfl rfl<|have H:=H.frs [0,1] rfl;?_
 cases hm
 exact ⟨rfl,H.reads Y0⟩

def pK(x20:Int):Option (Int×Int×ByteArray×ByteArray×Int×(List ByteArray)):=
  some ((-1),x20,(ByteArray.mk #[]),(ByteArray.mk #[]),0,[])
def mJ(f:List aF)(b:Int×Bool)(g:Int)(i:ByteArray)(j:ByteArray)(k:Int)(c:List ByteArray)(d:Bool):Option (Int×Int×ByteArray×ByteArray×Int×(List ByteArray)):=
  if d=true then ((fQ 63).bind fun e=>pK e) else ((idx f b.1).bind fun l=>some (b.1,g,i,j,k,c))
def mK(d:List aF)(b:Int×Bool)(f:Int)(g:ByteArray)(i:ByteArray)(j:Int)(c:List ByteArray)(e:bI)(k:Bool):Option (Int×Int×ByteArray×ByteArray×Int×(List ByteArray)):=
  if (!b.2)=true then ((fQ 62).bind fun l=>pK l) else (if k=true then (if (decide (e.Version ≥ 0))=true then ((idx d b.1).bind fun m=>mJ d b f g i j c (e.Version != m.Version)) else (mJ d b f g i j c false)) else (mJ d b f g i j c false))
def gJ(e:List aF)(f:Int)(g:ByteArray)(i:ByteArray)(j:Int)(c:List ByteArray)(b:bI):Option (Int×Int×ByteArray×ByteArray×Int×(List ByteArray)):=
  (kA e b.Path).bind fun d=>if (b.Kind == 3)=true then (mK e d f g i j c b true) else (if (b.Kind == 5)=true then (mK e d f g i j c b true) else (mK e d f g i j c b (b.Kind == 6)))
theorem pR{n:Nat}{c j o:Value}{p:List aF}{A B:Int}{C D:ByteArray}{l:List ByteArray}{z:bI}(H:Sep w (Blk n 251 [c,o,.int .i64 A,.string C,.string D,.int .i64 B,j]::Row 95 aE c p::Row 9 kS j l::Fo) rs){r:Int×Int×ByteArray×ByteArray×Int×(List ByteArray)}(hm:gJ p A C D B l z=some r) :
    Calls Tryz.prog 256 [pt n 0,.agg (cK z).toArray].toArray w (Ret fun v w'=>∃ Q,orp c r.1 5=v∧Sep w' (Blk n 251 [c,o,.int .i64 r.2.1,.string r.2.2.1,.string r.2.2.2.1,.int .i64 r.2.2.2.2.1,Q]::Row 95 aE c p::Row 9 kS Q r.2.2.2.2.2::Fo) (rs)):=by
 unfold gJ at hm
 refine ent Tryz.func256 rfl Tryz.ntmps256 rfl rfl fun a E=>sq<|bS E H (wn rfl) rfl rfl rfl rfl rfl fun L w a H E=>pr 1 E rfl fun a E=>nx<|pr 2 E rfl fun a E=>lb E H 0 rfl rfl rfl rfl rfl rfl rfl U9 rfl fun a E=>have H:=H.frs [3,1,3,3] rfl;bd hm fun q M hm=>?_
 refine xk E rfl rfl rfl rfl rfl Pz (q3 H M) fun w H a E=>pr 5 E rfl fun a E=>nt<|aV (fun a w=>∃ F s,Env 63 a [(0,pt n 0),(3,pt L 0),(5,.int .i64 q.1),(6,.bool q.2),(7,.bool F)]∧Sep w (Blk n 251 [c,o,.int .i64 A,.string C,.string D,.int .i64 B,j]::Blk L 85 (cK z)::Row 95 aE c p::Row 9 kS j l::Fo) s∧(∀ r,r ∈ rs→r ∈ s)∧mK p q A C D B l z F=some r) ?_ ?_
 ·refine wp_region_lit<|pr 1 E rfl fun a E=>lb E H 2 rfl rfl rfl rfl rfl rfl rfl U3 rfl fun a E=>pr 2 E rfl fun a E=>cs hm (fun e hm=>?_) fun e hm=>?_
  ·exact pk 10 E (kc 18 rfl e) rfl fun a E=>nt<|have H:=H.frs [3,2,3,3] rfl;⟨_,_,E.to rfl,H,Y0,hm⟩
  ·refine pk 1 E (kc 18 rfl e) rfl fun a E=>aQ E (ws' (d:=18) E rfl rfl rfl rfl e) rfl rfl (cD (i:=2) E H rfl rfl rfl rfl U3 rfl) fun a E=>pk 3 E (kc 18 rfl e) rfl fun a E=>cs hm (fun f hm=>?_) fun f hm=>?_
   ·exact pk 5 E (kc 23 rfl f) rfl fun a E=>nt<|have H:=H.frs [3,2,3,3] rfl;⟨_,_,E.to rfl,H,Y0,hm⟩
   ·exact pk 1 E (kc 23 rfl f) rfl fun a E=>aQ E (ws' (d:=23) E rfl rfl rfl rfl f) rfl rfl (cD (i:=2) E H rfl rfl rfl rfl U3 rfl) fun a E=>pk 3 E (kc 23 rfl f) rfl fun a E=>nt<|have H:=H.frs [3,2,3,3] rfl;⟨_,_,E.to rfl,H,Y0,hm⟩
 ·clear E H hm
  rintro a w ⟨F,s,E,H,m,hm⟩
  unfold mK at hm
  refine aV (fun a w=>∃ x20 t,Env 63 a []∧Sep w (Blk n 251 [c,o,.int .i64 x20,.string (ByteArray.mk #[]),.string (ByteArray.mk #[]),.int .i64 0,.slice none 0 0]::Row 95 aE c p::Fo) t∧(∀ r,r ∈ rs→r ∈ t)∧pK x20=some r) ?_ ?_
  ·refine wp_block<|sq<|pr 3 E rfl fun a E=>nt<|wif E hm rfl (fun hm=>?_) fun hm=>?_
   ·exact wp_region_lit<|pr 1 E rfl fun a E=>bd hm fun R N hm=>xk E rfl rfl rfl rfl rfl S9 (nJ H N) fun w H a E=>wpList_nil<|bZ<|aC<|have H:=H.drs [1,2];⟨_,_,E.nil,H,m,hm⟩
   ·refine aV (fun a w=>∃ G u,Env 63 a [(0,pt n 0),(5,.int .i64 q.1),(40,.bool G)]∧Sep w (Blk n 251 [c,o,.int .i64 A,.string C,.string D,.int .i64 B,j]::Row 95 aE c p::Row 9 kS j l::Fo) u∧(∀ r,r ∈ rs→r ∈ u)∧mJ p q A C D B l G=some r) ?_ ?_
    ·refine dw [(0,0),(1,0),(2,0),(3,0),(4,0),(5,0),(6,0),(7,0),(8,0),(9,0),(10,0),(11,0),(12,0),(13,0),(14,0),(15,0),(16,0),(17,0),(18,0),(19,0),(20,1)] [0,1,2] [] H (by kernel_rfl) (fun _ _ _ h=>False.elim h.2) fun w W0 hI H=>fn 2 E rfl fun a E=>cs hm (fun g hm=>?_) fun g hm=>?_
     ·refine fk 1 E (kc 42 rfl g) rfl fun a E=>fb E rfl (ws' (d:=42) E rfl rfl rfl rfl g) rfl rfl rfl rfl mm1 rfl U2 rfl fun a E=>fk 3 E (kc 42 rfl g) rfl fun a E=>cs hm (fun b hm=>?_) fun b hm=>?_
      ·refine fk 1 E (kc 47 rfl b) rfl fun a E=>fb E rfl (ws' (d:=47) E rfl rfl rfl rfl b) rfl rfl rfl rfl mm1 rfl U2 rfl fun a E=>fk 4 E (kc 47 rfl b) rfl fun a E=>fb E rfl (ws' (d:=47) E rfl rfl rfl rfl b) rfl rfl rfl rfl m0 rfl U22 rfl fun a E=>fk 1 E (kc 47 rfl b) rfl fun a E=>bd hm fun S x hm=>?_
       obtain ⟨T,U,I⟩:=H.rowformNE (i:=2) rfl x
       refine bT E rfl (ws' (d:=47) E rfl rfl rfl rfl b) rfl rfl (fun w hW=>dG (d:=aE) E I rfl rfl rfl rfl U22 iZ x) fun a E=>?_
       refine fk 1 E (kc 47 rfl b) rfl fun a E=>bT E rfl (ws' (d:=47) E rfl rfl rfl rfl b) rfl rfl (fun w hW=>Cz (d:=aE) (k:=2) E cO I x mm2 rfl rfl rfl U2 rfl hW) fun a E=>?_
       refine fk 2 E (kc 47 rfl b) rfl fun a E=>bY rfl<|pr 1 E rfl fun a E=>nt<|?_
       refine ⟨⟨_,_,H,(aB m0 (aB mm1 (aB mm2 (aL)))),(aM)⟩,?_⟩
       refine bP<|?_
       clear hI
       exact aC<|have H:=H.drop 1;⟨_,_,E.to rfl,H,m,hm⟩
      ·refine fk 13 E (kc 47 rfl b) rfl fun a E=>bY rfl<|pr 1 E rfl fun a E=>nt<|?_
       refine ⟨⟨_,_,H,(aB m0 (aB mm1 (aB mm2 (aL)))),(aM)⟩,?_⟩
       refine bP<|?_
       clear hI
       exact aC<|have H:=H.drop 1;⟨_,_,E.to rfl,H,m,hm⟩
     ·refine fk 18 E (kc 42 rfl g) rfl fun a E=>bY rfl<|pr 1 E rfl fun a E=>nt<|?_
      refine ⟨⟨_,_,H,(aB m0 (aB mm1 (aB mm2 (aL)))),(aM)⟩,?_⟩
      refine bP<|?_
      clear hI
      exact aC<|have H:=H.drop 1;⟨_,_,E.to rfl,H,m,hm⟩
    ·clear E H hm
     rintro a w ⟨G,u,E,H,J,hm⟩
     unfold mJ at hm
     refine wif E hm rfl (fun hm=>?_) fun hm=>?_
     ·exact wp_region_lit<|pr 1 E rfl fun a E=>bd hm fun V O hm=>xk E rfl rfl rfl rfl rfl S9 (nJ H O) fun w H a E=>wpList_nil<|bZ<|aC<|have H:=H.drop 2;⟨_,_,E.nil,H,J,hm⟩
     ·refine sq<|pr 4 E rfl fun a E=>lb E H 0 rfl rfl rfl rfl rfl rfl rfl U22 rfl fun a E=>pr 1 E rfl fun a E=>bd hm fun W y hm=>?_
      obtain ⟨X,Y,K⟩:=H.rowformNE (i:=1) rfl y
      refine sv E rfl rfl rfl (dG (d:=aE) E K rfl rfl rfl rfl U22 iZ y) fun a E=>pr 1 E rfl fun a E=>nt<|wp_ret<|bW<|aP<|aY E rfl rfl<|?_
      cases hm
      exact ⟨_,Z2 _ K y,H.reads J⟩
  ·clear E H hm
   rintro a w ⟨x20,t,E,H,P,hm⟩
   unfold pK at hm
   refine sq<|pr 1 E rfl fun a E=>nt<|wp_ret<|aY E rfl rfl<|have H:=H.nilRow 9 kS;have H:=H.frs [0,2,2] rfl;?_
   cases hm
   exact ⟨_,rfl,H.reads P⟩

def rL(e:List aF)(i:Int)(j:ByteArray)(k:ByteArray)(l:Int)(f:List ByteArray)(c:bI):Option ((List aF)×Int×ByteArray×ByteArray×Int×(List ByteArray)):=
  (gJ e i j k l f c).bind fun b=>if (decide (b.1 < 0))=true then (some (e,b.2.1,b.2.2.1,b.2.2.2.1,b.2.2.2.2.1,b.2.2.2.2.2)) else ((idx e b.1).bind fun d=>if (d.Version == 281474976710656)=true then ((fQ 2).bind fun g=>some (e,g,(ByteArray.mk #[]),(ByteArray.mk #[]),0,[])) else (some ((e.set b.1.toNat ({ d with Data:=c.Data }:aF)).set b.1.toNat ({ ({ d with Data:=c.Data }:aF) with Version:=IntKind.i64.wrap ((({ d with Data:=c.Data }:aF).Version)+1) }:aF),b.2.1,b.2.2.1,b.2.2.2.1,({ ({ d with Data:=c.Data }:aF) with Version:=IntKind.i64.wrap ((({ d with Data:=c.Data }:aF).Version)+1) }:aF).Version,b.2.2.2.2.2)))
theorem Bw{n:Nat}{g j l:Value}{q:List aF}{s t:Int}{u x:ByteArray}{m:List ByteArray}{e:bI}(H:Sep w (Blk n 251 [g,l,.int .i64 s,.string u,.string x,.int .i64 t,j]::Row 95 aE g q::Row 9 kS j m::Fo) rs){r:(List aF)×Int×ByteArray×ByteArray×Int×(List ByteArray)}(hm:rL q s u x t m e=some r) :
    Calls Tryz.prog 197 [pt n 0,.agg (cK e).toArray].toArray w (Ret fun v w'=>∃ y,.tuple #[]=v∧Sep w' (Blk n 251 [g,l,.int .i64 r.2.1,.string r.2.2.1,.string r.2.2.2.1,.int .i64 r.2.2.2.2.1,y]::Row 95 aE g r.1::Row 9 kS y r.2.2.2.2.2::Fo) (rs)):=by
 unfold rL at hm
 refine ent Tryz.func197 rfl Tryz.ntmps197 rfl rfl fun a E=>sq<|bS E H (wn rfl) rfl rfl rfl rfl rfl fun z w a H E=>nx<|pr 1 E rfl fun a E=>sv E rfl rfl rfl (cC (i:=0) (us:=(cK e)) E H rfl rfl rfl rfl U85 rfl jR) fun a E=>have H:=H.frs [0,3,3,3] rfl;bd hm fun A o hm=>cF E rfl rfl rfl rfl rfl Bi (pR H o)<|?_
 rintro _ w ⟨B,rfl,H⟩ a E
 refine pr 1 E rfl fun a E=>nt<|wp_block<|sq<|pr 1 E rfl fun a E=>sv E rfl rfl rfl (AY E Fj Fk rfl rfl rfl) fun a E=>pr 1 E rfl fun a E=>nt<|wif E hm rfl (fun hm=>?_) fun hm=>?_
 ·refine wp_skip<|bZ<|rC E rfl<|have H:=H.drop 3;?_
  cases hm
  exact ⟨_,rfl,H.reads Y0⟩
 ·refine sq<|pr 1 E rfl fun a E=>bd hm fun f b hm=>?_
  obtain ⟨C,D,c⟩:=H.rowformNE (i:=1) rfl b
  rw [Z2 5 c b] at E
  refine pr 2 E rfl fun a E=>sv E rfl rfl rfl (pO (d:=aE) (i:=1) (k:=2) E H cO c rfl rfl rfl b rfl U2 rfl) fun a E=>pr 2 E rfl fun a E=>nt<|wif E hm rfl (fun hm=>?_) fun hm=>?_
  ·refine wp_region_lit<|pr 1 E rfl fun a E=>bd hm fun F p hm=>xk E rfl rfl rfl rfl rfl S9 (nJ H p) fun w H a E=>wpList_nil<|bZ<|rC E rfl<|have H:=H.nilRow 9 kS;have H:=H.drs [3,3];?_
   refine have H:=H.frs [0,2,2] rfl;?_
   cases hm
   exact ⟨_,rfl,H.reads Y0⟩
  ·refine sq<|pr 2 E rfl fun a E=>lb E H 3 rfl rfl rfl rfl rfl rfl rfl U9 rfl fun a E=>pr 2 E rfl fun a E=>E3 (d:=aE) (i:=1) (k:=1) (z':=({ f with Data:=e.Data }:aF)) E H cO (wn rfl) rfl c rfl rfl rfl rfl rfl rfl b rfl rfl sz9 fun w H=>nx<|pr 3 E rfl fun a E=>sv E rfl rfl rfl (pO (d:=aE) (i:=1) (k:=2) E H cO c rfl rfl rfl (wA b) rfl U2 rfl) fun a E=>pr 3 E rfl fun a E=>?_
   refine E3 (d:=aE) (i:=1) (k:=2) (z':=({ ({ f with Data:=e.Data }:aF) with Version:=IntKind.i64.wrap ((({ f with Data:=e.Data }:aF).Version)+1) }:aF)) E H cO (wn rfl) rfl c rfl rfl rfl rfl rfl rfl (wA b) rfl rfl sz2 fun w H=>nt<|wp_region_lit<|pr 4 E rfl fun a E=>sv E rfl rfl rfl (pO (d:=aE) (i:=1) (k:=2) E H cO c rfl rfl rfl (wA (wA b)) rfl U2 rfl) fun a E=>pr 3 E rfl fun a E=>bA (i:=0) E H (wn rfl) rfl rfl rfl rfl rfl rfl sz2 rfl rfl fun w H=>wpList_nil<|bZ<|?_
   refine rC E rfl<|have H:=H.drop 3;?_
   cases hm
   exact ⟨_,rfl,H.reads Y0⟩

def vW(x1:bI):Option (Int×ByteArray×ByteArray×ByteArray×Int×Int×Bool):=
  some (x1.Kind,x1.Dir,x1.Path,x1.Data,x1.Version,x1.Owner,x1.Turns)
theorem Ab{x1:bI}(H:Sep w (Fo) rs){r:Int×ByteArray×ByteArray×ByteArray×Int×Int×Bool}(hm:vW x1=some r) :
    Calls Tryz.prog 266 [.agg (cK x1).toArray].toArray w (Ret fun v w'=>∃ b,.func (.func 317) #[] #[pt b 0]=v∧Sep w' (Blk b 85 [.int .i64 r.1,.string r.2.1,.string r.2.2.1,.string r.2.2.2.1,.int .i64 r.2.2.2.2.1,.int .i64 r.2.2.2.2.2.1,.bool r.2.2.2.2.2.2]::Fo) (rs)):=by
 unfold vW at hm
 refine ent Tryz.func266 rfl Tryz.ntmps266 rfl rfl fun a E=>sq<|bS E H (wn rfl) rfl rfl rfl rfl rfl fun c w a H E=>pr 1 E rfl fun a E=>nx<|sv E rfl rfl rfl (kJ E rfl rfl rfl) fun a E=>pr 1 E rfl fun a E=>nt<|wp_ret<|?_
 refine aY E rfl rfl<|?_
 cases hm
 exact ⟨_,rfl,H.reads Y0⟩

def uK(x1:aF)(c:ByteArray):Option Bool:=
  (oU x1.Path).bind fun b=>if b.2=true then (some (sEq b.1 c)) else (some (false))
theorem O4{x1:aF}{l:Nat}{m:ByteArray}{c e f g j k:Value}(H:Sep w (Blk l 85 [c,e,.string m,f,g,j,k]::Fo) rs){r:Bool}(hm:uK x1 m=some r) :
    Calls Tryz.prog 317 [.agg (kM x1).toArray,pt l 0].toArray w (Ret fun v w'=>.bool r=v∧Sep w' (Blk l 85 [c,e,.string m,f,g,j,k]::Fo) (rs)):=by
 unfold uK at hm
 refine ent Tryz.func317 rfl Tryz.ntmps317 rfl rfl fun a E=>sq<|bS E H (wn rfl) rfl rfl rfl rfl rfl fun o w a H E=>pr 1 E rfl fun a E=>nx<|pr 1 E rfl fun a E=>lb E H 0 rfl rfl rfl rfl rfl rfl rfl U9 rfl fun a E=>bd hm fun p n hm=>xk E rfl rfl rfl rfl rfl Jc (r9 H n) fun w H a E=>?_
 refine pr 5 E rfl fun a E=>nx<|pr 2 E rfl fun a E=>cs hm (fun b hm=>?_) fun b hm=>?_
 ·refine pk 2 E (kc 13 rfl b) rfl fun a E=>aQ E (ws' (d:=13) E rfl rfl rfl rfl b) rfl rfl (cD (i:=1) E H rfl rfl rfl rfl U9 rfl) fun a E=>pk 3 E (kc 13 rfl b) rfl fun a E=>nt<|wp_ret<|aY E rfl rfl<|have H:=H.drop 0;?_
  cases hm
  exact ⟨rfl,H.reads Y0⟩
 ·refine pk 6 E (kc 13 rfl b) rfl fun a E=>nt<|wp_ret<|aY E rfl rfl<|have H:=H.drop 0;?_
  cases hm
  exact ⟨rfl,H.reads Y0⟩

def uL(b:ByteArray):Option ByteArray:=
  (zJ b).bind fun c=>some (c.2.1)
theorem O5{b:ByteArray}(H:Sep w (Fo) rs){r:ByteArray}(hm:uL b=some r) :
    Calls Tryz.prog 261 [.string b].toArray w (Ret fun v w'=>.string r=v∧Sep w' (Fo) (rs)):=by
 unfold uL at hm
 refine ent Tryz.func261 rfl Tryz.ntmps261 rfl rfl fun a E=>sq<|pr 1 E rfl fun a E=>nx<|pr 1 E rfl fun a E=>bd hm fun d c hm=>xk E rfl rfl rfl rfl rfl Wz (Fr H c) fun w H a E=>pr 7 E rfl fun a E=>nx<|?_
 refine pr 2 E rfl fun a E=>nt<|wp_ret<|aY E rfl rfl<|?_
 cases hm
 exact ⟨rfl,H.reads Y0⟩

def nA(b:Bool)(c:(List ByteArray)):Option (Bool×(List ByteArray)):=
  some (b,c)
def nB(x1:aF)(b:List ByteArray)(c:Bool):Option (Bool×(List ByteArray)):=
  if c=true then ((uL x1.Path).bind fun d=>(ck (b.length+([d]:List ByteArray).length ≤ LIM)).bind fun e=>nA c (b ++ ([d]:List ByteArray))) else (nA c b)
def mL(x1:aF)(e:Int)(c:ByteArray)(b:List ByteArray):Option (Bool×(List ByteArray)):=
  if (x1.Owner == e)=true then ((uK x1 c).bind fun d=>nB x1 b d) else (nB x1 b false)
theorem A9{x1:aF}{P j c g f:Nat}{Q:Int}{k:ByteArray}{o p q s t u y z A B C D F G I J K L M:Value}{N:List ByteArray}(H:Sep w (Blk P 85 [p,q,s,t,u,.int .i64 Q,y]::Blk j 107 [.func (.func 317) #[] #[pt c 0]]::Blk c 85 [z,A,.string k,B,C,D,F]::Blk g 248 [pt f 0]::Blk f 251 [G,I,J,K,L,M,o]::Row 9 kS o N::Fo) rs){r:Bool×(List ByteArray)}(hm:mL x1 Q k N=some r) :
    Calls Tryz.prog 269 [.agg (kM x1).toArray,pt P 0,pt j 0,pt g 0].toArray w (Ret fun v w'=>∃ Z,.bool r.1=v∧Sep w' (Blk P 85 [p,q,s,t,u,.int .i64 Q,y]::Blk j 107 [.func (.func 317) #[] #[pt c 0]]::Blk c 85 [z,A,.string k,B,C,D,F]::Blk g 248 [pt f 0]::Blk f 251 [G,I,J,K,L,M,Z]::Row 9 kS Z r.2::Fo) (rs)):=by
 unfold mL at hm
 refine ent Tryz.func269 rfl Tryz.ntmps269 rfl rfl fun a E=>sq<|bS E H (wn rfl) rfl rfl rfl rfl rfl fun U w a H E=>pr 1 E rfl fun a E=>nt<|aV (fun a w=>∃ l m,Env 33 a [(3,pt g 0),(4,pt U 0),(6,.bool l)]∧Sep w (Blk g 248 [pt f 0]::Blk U 95 (kM x1)::Blk P 85 [p,q,s,t,u,.int .i64 Q,y]::Blk j 107 [.func (.func 317) #[] #[pt c 0]]::Blk c 85 [z,A,.string k,B,C,D,F]::Blk f 251 [G,I,J,K,L,M,o]::Row 9 kS o N::Fo) m∧(∀ r,r ∈ rs→r ∈ m)∧nB x1 N l=some r) ?_ ?_
 ·refine wp_region_lit<|pr 1 E rfl fun a E=>lb E H 0 rfl rfl rfl rfl rfl rfl rfl U2 rfl fun a E=>pr 1 E rfl fun a E=>lb E H 1 rfl rfl rfl rfl rfl rfl rfl U2 rfl fun a E=>pr 2 E rfl fun a E=>cs hm (fun b hm=>?_) fun b hm=>?_
  ·refine aQ E (ws' (d:=12) E rfl rfl rfl rfl b) rfl rfl (cD (i:=2) E H rfl rfl rfl rfl LI rfl) fun a E=>aQ E (ws' (d:=12) E rfl rfl rfl rfl b) rfl rfl (cC (i:=0) (us:=(kM x1)) E H rfl rfl rfl rfl U95 rfl iZ) fun a E=>have H:=H.frs [6,6,6,5,5,5,6] rfl;bd hm fun b0 V hm=>aW E (ws' (d:=12) E rfl rfl rfl rfl b) rfl rfl (bR E rfl rfl rfl (Px _)) (O4 H V)<|?_
   rintro _ w ⟨rfl,H⟩ a E
   exact pk 2 E (kc 12 rfl b) rfl fun a E=>nt<|have H:=H.frs [6,6,2,5,5,5,6] rfl;⟨_,_,E.to rfl,H,Y0,hm⟩
  ·exact pk 5 E (kc 12 rfl b) rfl fun a E=>nt<|have H:=H.frs [6,6,5,5,5,5,6] rfl;⟨_,_,E.to rfl,H,Y0,hm⟩
 ·clear E H hm
  rintro a w ⟨l,m,E,H,R,hm⟩
  unfold nB at hm
  refine aV (fun a w=>∃ S T n,Env 33 a [(6,.bool l)]∧Sep w (Blk P 85 [p,q,s,t,u,.int .i64 Q,y]::Blk j 107 [.func (.func 317) #[] #[pt c 0]]::Blk c 85 [z,A,.string k,B,C,D,F]::Blk g 248 [pt f 0]::Blk f 251 [G,I,J,K,L,M,S]::Row 9 kS S T::Fo) n∧(∀ r,r ∈ rs→r ∈ n)∧nA l T=some r) ?_ ?_
  ·refine sq<|pr 1 E rfl fun a E=>nt<|wif E hm rfl (fun hm=>?_) fun hm=>?_
   ·refine dw [(0,0),(1,0),(2,0),(3,0),(4,0),(5,0),(6,0),(7,0),(8,1),(9,1),(10,1),(11,2),(12,2),(13,2),(14,2)] [0,1,5] [] H (by kernel_rfl) (fun _ _ _ h=>False.elim h.2) fun w W0 hI H=>fb E rfl (wn rfl) rfl rfl rfl rfl m0 rfl Pw rfl fun a E=>fb E rfl (wn rfl) rfl rfl rfl rfl m0 rfl Pw rfl fun a E=>fn 3 E rfl fun a E=>fb E rfl (wn rfl) rfl rfl rfl rfl mm2 rfl U33 rfl fun a E=>fn 1 E rfl fun a E=>fb E rfl (wn rfl) rfl rfl rfl rfl mm1 rfl U9 rfl fun a E=>bY rfl<|bd hm fun O W hm=>?_
    refine xk E rfl rfl rfl rfl rfl Py (O5 H W) fun w H a E=>nt<|?_
    refine ⟨⟨_,_,H,(aB m0 (aB mm1 (aB mm5 (aL)))),(aM)⟩,?_⟩
    refine bY rfl<|sM (e:=9) (d:=kS) (cs:=[.string O]) (xs:=[O]) E H (wn rfl) rfl rfl rfl (E.evs rfl) (by kernel_rfl) rfl (fun ok hr=>(Rows.single (d:=kS) (cs:=[.string O]) (x:=O) rfl)) fun b1 w a H E=>nt<|?_
    refine ⟨⟨_,_,H,(aB m0 (aB mm1 (aB mm5 (aL)))),(aM)⟩,?_⟩
    refine bY rfl<|bk hm fun X hm=>eK (i:=6) E H (wn rfl) rfl rfl rfl rfl rfl rfl (lB m0) U33 Pf rfl X rfl fun b2 w a H E=>nt<|?_
    refine ⟨⟨_,_,H,(aB m0 (aB mm1 (aB mm5 (aL)))),(aM)⟩,?_⟩
    refine bO rfl<|pr 1 E rfl fun a E=>nt<|bO rfl<|pr 1 E rfl fun a E=>nt<|bO rfl<|pr 1 E rfl fun a E=>nt<|?_
    refine bO rfl<|?_
    obtain ⟨q63,b3,rfl⟩:=H.rowform (i:=6) rfl
    refine bA (i:=5) E H (wn rfl) rfl rfl rfl rfl rfl rfl DJ rfl rfl fun w H=>nt<|bP<|?_
    clear hI
    exact aC<|have H:=H.drop 1;have H:=H.frs [5,5,2,5,5,5] rfl;X3 ⟨E.to rfl,H,(Y1 R),hm⟩
   ·exact wp_skip<|aC<|have H:=H.drop 1;have H:=H.frs [5,5,2,5,5,5] rfl;X3 ⟨E.to rfl,H,R,hm⟩
  ·clear E H hm
   rintro a w ⟨S,T,n,E,H,Y,hm⟩
   unfold nA at hm
   refine sq<|pr 2 E rfl fun a E=>nt<|wp_ret<|aY E rfl rfl<|?_
   cases hm
   exact ⟨_,rfl,H.reads Y⟩

def cR(f:List aF)(g:Int)(d:ByteArray):Nat→Int→(List ByteArray)→Option (Int×(List ByteArray))
  | 0,_,_=>none
  | j+1,b,e=>
    if (decide (b < (f.length:Int)))=true then ((idx f b).bind fun i=>(mL i g d e).bind fun c=>if c.1=true then (some (b,c.2)) else (cR f g d j (IntKind.i64.wrap (b+1)) c.2)) else (some ((-1),e))
def gM(b:List aF)(e:Int)(c:ByteArray)(d:List ByteArray):Option (Int×(List ByteArray)):=
  cR b e c (((b.length:Int) - 0:Int).toNat+1) 0 d
theorem xR{e S q s t u x y z A B C D F G I J K L:Value}{l:List aF}{M f b g c:Nat}{N:Int}{j:ByteArray}{T:List ByteArray}(H:Sep w (Row 95 aE e l::Blk M 85 [q,s,t,u,x,.int .i64 N,y]::Blk f 107 [.func (.func 317) #[] #[pt b 0]]::Blk b 85 [z,A,.string j,B,C,D,F]::Blk g 248 [pt c 0]::Blk c 251 [e,G,I,J,K,L,S]::Row 9 kS S T::Fo) rs){r:Int×(List ByteArray)}(hm:gM l N j T=some r) :
    Calls Tryz.prog 105 [e,.func (.func 269) #[] #[pt M 0,pt f 0,pt g 0]].toArray w (Ret fun v w'=>∃ V,.int .i64 r.1=v∧Sep w' (Blk M 85 [q,s,t,u,x,.int .i64 N,y]::Blk f 107 [.func (.func 317) #[] #[pt b 0]]::Blk b 85 [z,A,.string j,B,C,D,F]::Blk g 248 [pt c 0]::Blk c 251 [e,G,I,J,K,L,V]::Row 95 aE e l::Row 9 kS V r.2::Fo) (rs)):=by
 unfold gM at hm
 refine ent Tryz.func105 rfl Tryz.ntmps105 rfl rfl fun a E=>sq<|pr 1 E rfl fun a E=>nt<|wp_seq<|sq<|pr 1 E rfl fun a E=>sv E rfl rfl rfl (kK (i:=0) E H rfl rfl rfl U22) fun a E=>pr 1 E rfl fun a E=>?_
 refine nt<|wp_block<|bX (fun p a w=>∃ O P Q m,Env 19 a [(0,e),(1,.func (.func 269) #[] #[pt M 0,pt f 0,pt g 0]),(7,.int .i64 (l.length:Int)),(8,.int .i64 P)]∧Sep w (Row 95 aE e l::Blk M 85 [q,s,t,u,x,.int .i64 N,y]::Blk f 107 [.func (.func 317) #[] #[pt b 0]]::Blk g 248 [pt c 0]::Blk b 85 [z,A,.string j,B,C,D,F]::Blk c 251 [e,G,I,J,K,L,O]::Row 9 kS O Q::Fo) m∧(∀ r,r ∈ rs→r ∈ m)∧cR l N j p P Q=some r) (((l.length:Int) - 0:Int).toNat+1) ?_ ?_
 ·exact have H:=H.frs [6,6,5,6,6,6,6] rfl;X4 ⟨E.to rfl,H,Y0,hm⟩
 ·clear E H hm
  rintro p a w ⟨O,P,Q,m,E,H,n,hm⟩
  cases p with
  | zero=>exact (bU hm rfl).elim
  | succ p=>
   unfold cR at hm
   refine sq<|pr 1 E rfl fun a E=>nt<|wp_seq<|wif E hm rfl (fun hm=>?_) fun hm=>?_
   ·refine wp_skip<|aC<|wp_seq<|wp_block<|sq<|pr 2 E rfl fun a E=>nx<|pr 3 E rfl fun a E=>bd hm fun k o hm=>?_
    obtain ⟨W,X,R⟩:=H.rowformNE (i:=0) rfl o
    refine sv E rfl rfl rfl (dG (d:=aE) E R rfl rfl rfl rfl U22 iZ o) fun a E=>sv E rfl rfl rfl (hP (i:=0) E H cO R rfl rfl rfl o (us:=[.string k.Path,.string k.Data,.int .i64 k.Version,.int .i64 k.Turn,.int .i64 k.Owner]) rfl U95 rfl iZ) fun a E=>have H:=H.frs [0,6,6,5,6,6,6] rfl;bd hm fun Y U hm=>aW E (wn rfl) rfl rfl (bR E rfl rfl rfl (Xg _)) (A9 H U)<|?_
    rintro _ w ⟨Z,rfl,H⟩ a E
    refine nt<|wif E hm rfl (fun hm=>?_) fun hm=>?_
    ·refine sq<|pr 2 E rfl fun a E=>nt<|wp_ret<|bW<|aP<|aP<|bW<|aP<|?_
     refine aY E rfl rfl<|have H:=H.frs [5,6,6,6,6,6,6] rfl;?_
     cases hm
     exact ⟨_,rfl,H.reads n⟩
    ·exact wp_skip<|bZ<|aC<|wp_region_lit<|pr 2 E rfl fun a E=>nt<|have H:=H.frs [5,5,4,5,5,5,6] rfl;⟨p,Nat.lt_succ_self p,X4 ⟨E.to rfl,H,n,hm⟩⟩
   ·refine wp_exit<|bG<|bG<|dN<|aC<|sq<|pr 1 E rfl fun a E=>nt<|wp_ret<|?_
    refine aY E rfl rfl<|have H:=H.frs [6,1,6,5,6,6,6] rfl;?_
    cases hm
    exact ⟨_,rfl,H.reads n⟩

def eU(rec_1:(List aF)→Int→Int→(List ByteArray)→Option ((List aF)×(List ByteArray)))(b:Int)(c:(List aF))(d:Int)(e:(List ByteArray)):Option ((List aF)×(List ByteArray)):=
  rec_1 c d (IntKind.i64.wrap (b+1)) e
def cZ(j:Int)(e:ByteArray):Nat→(List aF)→Int→Int→(List ByteArray)→Option ((List aF)×(List ByteArray))
  | 0,_,_,_,_=>none
  | k+1,c,b,d,g=>
    if (decide (d < (c.length:Int)))=true then ((idx c d).bind fun i=>(mL i j e g).bind fun f=>if (!f.1)=true then ((idx c b).bind fun l=>eU (cZ j e k) d (c.set b.toNat i) (IntKind.i64.wrap (b+1)) f.2) else (eU (cZ j e k) d c b f.2)) else ((ck (0 ≤ b∧b ≤ c.length)).bind fun m=>(ck (0 ≤ b∧b ≤ (c.take b.toNat ++ List.replicate (c.length - b.toNat) (⟨⟨#[]⟩,⟨#[]⟩,0,0,0⟩:aF)).length)).bind fun n=>some ((c.take b.toNat ++ List.replicate (c.length - b.toNat) (⟨⟨#[]⟩,⟨#[]⟩,0,0,0⟩:aF)).take b.toNat,g))
def gR(c:List aF)(e:Int)(d:ByteArray)(f:List ByteArray):Option ((List aF)×(List ByteArray)):=
  (gM c e d f).bind fun b=>if (b.1 == (-1))=true then (some (c,b.2)) else (cZ e d (((c.length:Int) - (IntKind.i64.wrap (b.1+1)):Int).toNat+1) c b.1 (IntKind.i64.wrap (b.1+1)) b.2)
theorem yL{k b1 x y z A B C D F G I J K L M N O P:Value}{b3:List aF}{m f c g e:Nat}{n:Int}{j:ByteArray}{b2:List ByteArray}(H:Sep w (Row 95 aE k b3::Blk m 85 [x,y,z,A,B,.int .i64 n,C]::Blk f 107 [.func (.func 317) #[] #[pt c 0]]::Blk c 85 [D,F,.string j,G,I,J,K]::Blk g 248 [pt e 0]::Blk e 251 [k,L,M,N,O,P,b1]::Row 9 kS b1 b2::Fo) rs){r:(List aF)×(List ByteArray)}(hm:gR b3 n j b2=some r) :
    Calls Tryz.prog 268 [k,.func (.func 269) #[] #[pt m 0,pt f 0,pt g 0]].toArray w (Ret fun v w'=>∃ b8 b9,b8=v∧Sep w' (Row 95 aE b8 r.1::Blk m 85 [x,y,z,A,B,.int .i64 n,C]::Blk f 107 [.func (.func 317) #[] #[pt c 0]]::Blk c 85 [D,F,.string j,G,I,J,K]::Blk g 248 [pt e 0]::Blk e 251 [k,L,M,N,O,P,b9]::Row 9 kS b9 r.2::Fo) (rs)):=by
 unfold gR at hm
 refine ent Tryz.func268 rfl Tryz.ntmps268 rfl rfl fun a E=>sq<|pr 1 E rfl fun a E=>nx<|pr 2 E rfl fun a E=>bd hm fun c0 b4 hm=>cF E rfl rfl rfl rfl rfl Pc (xR H b4)<|?_
 rintro _ w ⟨c1,rfl,H⟩ a E
 refine pr 1 E rfl fun a E=>nt<|wp_seq<|sq<|pr 2 E rfl fun a E=>nt<|wif E hm rfl (fun hm=>?_) fun hm=>?_
 ·refine sq<|pr 2 E rfl fun a E=>nt<|wp_ret<|aP<|aY E rfl rfl<|have H:=H.frs [6,5,5,5,5,5,6] rfl;?_
  cases hm
  exact ⟨_,_,rfl,H.reads Y0⟩
 ·refine wp_skip<|aC<|wp_seq<|sq<|pr 3 E rfl fun a E=>nt<|wp_block<|bX (fun o a w=>∃ Q R S l T p,Env 42 a [(0,k),(1,.func (.func 269) #[] #[pt m 0,pt f 0,pt g 0]),(5,.int .i64 S),(6,.int .i64 l)]∧Sep w (Row 95 aE k R::Blk m 85 [x,y,z,A,B,.int .i64 n,C]::Blk f 107 [.func (.func 317) #[] #[pt c 0]]::Blk g 248 [pt e 0]::Blk c 85 [D,F,.string j,G,I,J,K]::Blk e 251 [k,L,M,N,O,P,Q]::Row 9 kS Q T::Fo) p∧(∀ r,r ∈ rs→r ∈ p)∧cZ n j o R S l T=some r) (((b3.length:Int) - (IntKind.i64.wrap (c0.1+1)):Int).toNat+1) ?_ ?_
  ·exact have H:=H.frs [6,5,4,5,5,5,6] rfl;X6 ⟨E.to rfl,H,Y0,hm⟩
  ·clear E H hm
   rintro o a w ⟨Q,R,S,l,T,p,E,H,q,hm⟩
   cases o with
   | zero=>exact (bU hm rfl).elim
   | succ o=>
    unfold cZ at hm
    refine wp_seq<|sq<|pr 2 E rfl fun a E=>sv E rfl rfl rfl (kK (i:=0) E H rfl rfl rfl U22) fun a E=>pr 1 E rfl fun a E=>nt<|wif E hm rfl (fun hm=>?_) fun hm=>?_
    ·refine wp_skip<|aC<|aV (fun a w=>∃ U V W X s,Env 42 a [(0,k),(1,.func (.func 269) #[] #[pt m 0,pt f 0,pt g 0]),(5,.int .i64 W),(6,.int .i64 l)]∧Sep w (Row 95 aE k V::Blk m 85 [x,y,z,A,B,.int .i64 n,C]::Blk f 107 [.func (.func 317) #[] #[pt c 0]]::Blk g 248 [pt e 0]::Blk c 85 [D,F,.string j,G,I,J,K]::Blk e 251 [k,L,M,N,O,P,U]::Row 9 kS U X::Fo) s∧(∀ r,r ∈ rs→r ∈ s)∧eU (cZ n j o) l V W X=some r) ?_ ?_
     ·refine wp_block<|sq<|pr 2 E rfl fun a E=>bd hm fun b t hm=>?_
      obtain ⟨c2,c3,Y⟩:=H.rowformNE (i:=0) rfl t
      refine sv E rfl rfl rfl (dG (d:=aE) E Y rfl rfl rfl rfl U22 iZ t) fun a E=>sv E rfl rfl rfl (hP (i:=0) E H cO Y rfl rfl rfl t (us:=[.string b.Path,.string b.Data,.int .i64 b.Version,.int .i64 b.Turn,.int .i64 b.Owner]) rfl U95 rfl iZ) fun a E=>al E H rfl rfl rfl rfl Vf fun c4 w a H E=>bA (i:=0) E H (wn rfl) rfl rfl rfl rfl rfl rfl iZ rfl rfl fun w H=>nx<|pr 1 E rfl fun a E=>sv E rfl rfl rfl (cC (i:=0) (us:=(kM b)) E H rfl rfl rfl rfl U95 rfl iZ) fun a E=>have H:=H.frs [1,1,7,7,6,7,7,7] rfl;bd hm fun c5 b5 hm=>?_
      refine aW E (wn rfl) rfl rfl (bR E rfl rfl rfl (Xg _)) (A9 H b5)<|?_
      rintro _ w ⟨c6,rfl,H⟩ a E
      refine pr 1 E rfl fun a E=>nt<|wif E hm rfl (fun hm=>?_) fun hm=>?_
      ·refine sq<|pr 2 E rfl fun a E=>sv E rfl rfl rfl (cC (i:=6) (us:=(kM b)) E H rfl rfl rfl rfl U95 rfl iZ) fun a E=>bd hm fun c7 u hm=>?_
       obtain ⟨c8,c9,Z⟩:=H.rowformNE (i:=7) rfl u
       refine sv E rfl rfl rfl (dG (d:=aE) E Z rfl rfl rfl rfl U22 iZ u) fun a E=>y2 (d:=aE) (i:=7) (us:=[.string b.Path,.string b.Data,.int .i64 b.Version,.int .i64 b.Turn,.int .i64 b.Owner]) (z':=b) E H cO (wn rfl) rfl Z rfl rfl rfl rfl rfl rfl rfl u iZ fun w H=>nt<|wp_region_lit<|pr 3 E rfl fun a E=>wpList_nil<|bZ<|aC<|have H:=H.drop 6;?_
       exact have H:=H.frs [5,5,4,5,5,5,6] rfl;X5 ⟨E.to rfl,H,q,hm⟩
      ·exact wp_skip<|bZ<|aC<|have H:=H.drop 6;have H:=H.frs [5,5,4,5,5,5,6] rfl;X5 ⟨E.to rfl,H,q,hm⟩
     ·clear E H hm
      rintro a w ⟨U,V,W,X,s,E,H,b6,hm⟩
      unfold eU at hm
      exact wp_region_lit<|pr 3 E rfl fun a E=>nt<|⟨o,Nat.lt_succ_self o,X6 ⟨E.to rfl,H,b6,hm⟩⟩
    ·refine wp_exit<|bG<|bG<|dN<|aC<|sq<|pr 2 E rfl fun a E=>bk hm fun b0 hm=>sv E rfl rfl rfl (S6 (d:=aE) (i:=0) E H rfl rfl rfl rfl U22 iZ b0) fun a E=>?_
     refine D4 (i:=0) (z0:=(⟨⟨#[]⟩,⟨#[]⟩,0,0,0⟩:aF)) E H cO (wn rfl) rfl rfl rfl U22 HW rfl rfl rfl b0 fun w H=>nx<|pr 2 E rfl fun a E=>bk hm fun b7 hm=>L5 (i:=0) E H cO (wn rfl) rfl rfl rfl rfl rfl rfl U22 iZ b7 fun d0 a H E=>pr 1 E rfl fun a E=>nt<|wp_ret<|aY E rfl rfl<|?_
     refine have H:=H.frs [6,6,5,6,6,6,6] rfl;?_
     cases hm
     exact ⟨_,_,rfl,H.reads q⟩

def rM(f:List aF)(d:List ByteArray)(b:bI):Option ((List aF)×(List ByteArray)):=
  (vW b).bind fun e=>(gR f b.Owner e.2.2.1 d).bind fun c=>some (c.1,c.2)
theorem Bx{l:Nat}{o c d e f g j:Value}{p:List aF}{k:List ByteArray}{b:bI}(H:Sep w (Blk l 251 [o,d,e,f,g,j,c]::Row 95 aE o p::Row 9 kS c k::Fo) rs){r:(List aF)×(List ByteArray)}(hm:rM p k b=some r) :
    Calls Tryz.prog 202 [pt l 0,.agg (cK b).toArray].toArray w (Ret fun v w'=>∃ q s,.tuple #[]=v∧Sep w' (Blk l 251 [q,d,e,f,g,j,s]::Row 95 aE q r.1::Row 9 kS s r.2::Fo) (rs)):=by
 unfold rM at hm
 refine ent Tryz.func202 rfl Tryz.ntmps202 rfl rfl fun a E=>sq<|bS E H (wn rfl) rfl rfl rfl rfl rfl fun t w a H E=>bS E H (wn rfl) rfl rfl rfl rfl rfl fun u w a H E=>nx<|sv E rfl rfl rfl (cC (i:=0) (us:=(cK b)) E H rfl rfl rfl rfl U85 rfl jR) fun a E=>bd hm fun x m hm=>cF E rfl rfl rfl rfl rfl Pv (Ab H m)<|?_
 rintro _ w ⟨y,rfl,H⟩ a E
 refine al1 E H rfl rfl rfl rfl HT rfl fun z w a H E=>bA (i:=0) E H (wn rfl) rfl rfl rfl rfl rfl rfl HU rfl rfl fun w H=>nt<|dw [(6,0),(0,0),(1,1),(2,0),(3,0),(4,0),(5,1),(7,1),(8,2),(9,2),(10,2),(11,2)] [3] [] H (by kernel_rfl) (fun _ _ _ h=>False.elim h.2) fun w W0 hI H=>bT E rfl (wn rfl) rfl rfl (fun w hW=>(kJ E rfl rfl rfl)) fun a E=>?_
 refine fb E rfl (wn rfl) rfl rfl rfl rfl m0 rfl Pw rfl fun a E=>bY rfl<|lb E H 3 rfl rfl rfl rfl rfl rfl rfl Pw rfl fun a E=>nt<|?_
 refine ⟨⟨_,_,H,(aB mm3 (aL)),(aM)⟩,?_⟩
 refine fn 3 E rfl fun a E=>bY rfl<|lb E H 4 rfl rfl rfl rfl rfl rfl rfl U22 rfl fun a E=>nt<|?_
 refine ⟨⟨_,_,H,(aB mm3 (aL)),(aM)⟩,?_⟩
 refine bY rfl<|have H:=H.frs [6,5,5,4,4,5,6] rfl;bd hm fun A n hm=>cF E rfl rfl rfl rfl rfl HV (yL H n)<|?_
 rintro _ w ⟨B,C,rfl,H⟩ a E
 refine nt<|?_
 refine ⟨⟨_,_,H,(aB mm4 (aL)),(aM)⟩,?_⟩
 refine bO rfl<|pr 1 E rfl fun a E=>nt<|bO rfl<|pr 1 E rfl fun a E=>nt<|bO rfl<|pr 1 E rfl fun a E=>nt<|?_
 refine bO rfl<|?_
 obtain ⟨q28,D,rfl⟩:=H.rowform (i:=0) rfl
 refine bA (i:=5) E H (wn rfl) rfl rfl rfl rfl rfl rfl Gp rfl rfl fun w H=>nt<|bP<|?_
 clear hI
 refine rC E rfl<|have H:=H.drs [1,1,1,1];have H:=H.frs [2,1,2] rfl;?_
 cases hm
 exact ⟨_,_,rfl,H.reads Y0⟩

def xS:Option Unit:=
  some ()
theorem W4{b:Value}(H:Sep w (Fo) rs){r:Unit}(hm:xS=some r) :
    Calls Tryz.prog 267 [b].toArray w (Ret fun v w'=>.int .i64 0=v∧Sep w' (Fo) (rs)):=by
 unfold xS at hm
 refine ent Tryz.func267 rfl Tryz.ntmps267 rfl rfl fun a E=>sq<|pr 1 E rfl fun a E=>nx<|pr 1 E rfl fun a E=>nt<|wp_ret<|aY E rfl rfl<|?_
 cases hm
 exact ⟨rfl,H.reads Y0⟩

def qH(x1:aJ)(b:ByteArray):Option Int:=
  (jZ x1.Dir b).bind fun c=>some (c)
theorem E7{x1:aJ}{b:ByteArray}(H:Sep w (Fo) rs){r:Int}(hm:qH x1 b=some r) :
    Calls Tryz.prog 309 [.agg #[.string x1.Dir,.int .i64 x1.Next],.string b].toArray w (Ret fun v w'=>.int .i64 r=v∧Sep w' (Fo) (rs)):=by
 unfold qH at hm
 refine ent Tryz.func309 rfl Tryz.ntmps309 rfl rfl fun a E=>sq<|bS E H (wn rfl) rfl rfl rfl rfl rfl fun d w a H E=>pr 1 E rfl fun a E=>nx<|pr 1 E rfl fun a E=>lb E H 0 rfl rfl rfl rfl rfl rfl rfl U9 rfl fun a E=>pr 1 E rfl fun a E=>bd hm fun e c hm=>?_
 refine xk E rfl rfl rfl rfl rfl Ld (rK H c) fun w H a E=>pr 1 E rfl fun a E=>nt<|wp_ret<|aY E rfl rfl<|have H:=H.drop 0;?_
 cases hm
 exact ⟨rfl,H.reads Y0⟩

def cI(c:List aJ)(e:ByteArray):Nat→Int→Int→Option (Int×Bool)
  | 0,_,_=>none
  | f+1,b,d=>
    if (decide (b < d))=true then ((idx c (IntKind.i64.wrap (rD .u64 (IntKind.u64.wrap (IntKind.i64.wrap (b+d))) 1))).bind fun k=>(qH k e).bind fun g=>if (decide (g < 0))=true then (cI c e f (IntKind.i64.wrap ((IntKind.i64.wrap (rD .u64 (IntKind.u64.wrap (IntKind.i64.wrap (b+d))) 1))+1)) d) else (cI c e f b (IntKind.i64.wrap (rD .u64 (IntKind.u64.wrap (IntKind.i64.wrap (b+d))) 1)))) else (if (decide (b < (c.length:Int)))=true then ((idx c b).bind fun i=>(qH i e).bind fun j=>some (b,j == 0)) else (some (b,false)))
def cM(b:List aJ)(c:ByteArray):Option (Int×Bool):=
  cI b c (((b.length:Int) - 0:Int).toNat+1) 0 (b.length:Int)
theorem gA{j:Value}{e:List aJ}{o:ByteArray}(H:Sep w (Row 77 aI j e::Fo) rs){r:Int×Bool}(hm:cM e o=some r) :
    Calls Tryz.prog 308 [j,.string o,.func (.func 309) #[] #[]].toArray w (Ret fun v w'=>.tuple #[.int .i64 r.1,.bool r.2]=v∧Sep w' (Row 77 aI j e::Fo) (rs)):=by
 unfold cM at hm
 refine ent Tryz.func308 rfl Tryz.ntmps308 rfl rfl fun a E=>sq<|pr 2 E rfl fun a E=>nx<|pr 1 E rfl fun a E=>sv E rfl rfl rfl (kK (i:=0) E H rfl rfl rfl U23) fun a E=>pr 1 E rfl fun a E=>nx<|pr 3 E rfl fun a E=>?_
 refine nt<|wp_seq<|wp_block<|bX (fun c a w=>∃ q s k,Env 49 a [(0,j),(1,.string o),(2,.func (.func 309) #[] #[]),(8,.int .i64 (e.length:Int)),(9,.int .i64 q),(10,.int .i64 s)]∧Sep w (Row 77 aI j e::Fo) k∧(∀ r,r ∈ rs→r ∈ k)∧cI e o c q s=some r) (((e.length:Int) - 0:Int).toNat+1) ?_ ?_
 ·exact X3 ⟨E.to rfl,H,Y0,hm⟩
 ·clear E H hm
  rintro c a w ⟨q,s,k,E,H,g,hm⟩
  cases c with
  | zero=>exact (bU hm rfl).elim
  | succ c=>
   unfold cI at hm
   refine wp_seq<|sq<|pr 3 E rfl fun a E=>nt<|wif E hm rfl (fun hm=>?_) fun hm=>?_
   ·refine wp_skip<|aC<|wp_block<|sq<|pr 4 E rfl fun a E=>sv E rfl rfl rfl (S4 E rfl rfl rfl (by decide)) fun a E=>pr 2 E rfl fun a E=>nx<|pr 3 E rfl fun a E=>?_
    refine bd hm fun x l hm=>?_
    obtain ⟨y,z,m⟩:=H.rowformNE (i:=0) rfl l
    refine sv E rfl rfl rfl (dG (d:=aI) E m rfl rfl rfl rfl U23 oG l) fun a E=>sv E rfl rfl rfl (hP (i:=0) E H dU m rfl rfl rfl l (us:=[.string x.Dir,.int .i64 x.Next]) rfl U77 rfl oG) fun a E=>pr 1 E rfl fun a E=>bd hm fun A t hm=>aW E (wn rfl) rfl rfl (bR E rfl rfl rfl (Xi _)) (E7 H t)<|?_
    rintro _ w ⟨rfl,H⟩ a E
    refine pr 1 E rfl fun a E=>nt<|wif E hm rfl (fun hm=>?_) fun hm=>?_
    ·exact wp_region_lit<|pr 3 E rfl fun a E=>wpList_nil<|bZ<|aC<|⟨c,Nat.lt_succ_self c,X3 ⟨E.to rfl,H,g,hm⟩⟩
    ·exact wp_region_lit<|pr 2 E rfl fun a E=>wpList_nil<|bZ<|aC<|⟨c,Nat.lt_succ_self c,X3 ⟨E.to rfl,H,g,hm⟩⟩
   ·refine wp_exit<|bG<|bG<|dN<|aC<|sq<|pr 5 E rfl fun a E=>cs hm (fun b hm=>?_) fun b hm=>?_
    ·refine pk 3 E (kc 39 rfl b) rfl fun a E=>bd hm fun p f hm=>?_
     obtain ⟨B,C,n⟩:=H.rowformNE (i:=0) rfl f
     refine aQ E (ws' (d:=39) E rfl rfl rfl rfl b) rfl rfl (dG (d:=aI) E n rfl rfl rfl rfl U23 oG f) fun a E=>aQ E (ws' (d:=39) E rfl rfl rfl rfl b) rfl rfl (hP (i:=0) E H dU n rfl rfl rfl f (us:=[.string p.Dir,.int .i64 p.Next]) rfl U77 rfl oG) fun a E=>pk 1 E (kc 39 rfl b) rfl fun a E=>bd hm fun D u hm=>aW E (ws' (d:=39) E rfl rfl rfl rfl b) rfl rfl (bR E rfl rfl rfl (Xi _)) (E7 H u)<|?_
     rintro _ w ⟨rfl,H⟩ a E
     refine pk 4 E (kc 39 rfl b) rfl fun a E=>nt<|wp_ret<|hG E rfl rfl rfl<|?_
     cases hm
     exact ⟨rfl,H.reads g⟩
    ·refine pk 11 E (kc 39 rfl b) rfl fun a E=>nt<|wp_ret<|hG E rfl rfl rfl<|?_
     cases hm
     exact ⟨rfl,H.reads g⟩

def pL(b:aJ)(c:(List aJ)):Option (Int×(List aJ)):=
  some (b.Next,c)
def mM(b:Int×Bool)(c:(List aJ)):Option (Int×(List aJ)):=
  (idx c b.1).bind fun e=>xS.bind fun g=>(idx c b.1).bind fun d=>(idx (c.set b.1.toNat ({ d with Next:=0 }:aJ)) b.1).bind fun f=>if (f.Next == 0)=true then ((ck (0 ≤ b.1∧b.1 < (c.set b.1.toNat ({ d with Next:=0 }:aJ)).length∧IntKind.i64.wrap (b.1+1)=b.1+1)).bind fun i=>pL e ((c.set b.1.toNat ({ d with Next:=0 }:aJ)).eraseIdx b.1.toNat)) else (pL e (c.set b.1.toNat ({ d with Next:=0 }:aJ)))
def sQ(c:List aJ)(d:ByteArray):Option (Int×(List aJ)):=
  (cM c d).bind fun b=>if (!b.2)=true then ((ck (0 ≤ b.1∧b.1 ≤ c.length∧c.length ≤ 1000000)).bind fun e=>mM b (c.take b.1.toNat ++ (⟨d,0⟩:aJ)::c.drop b.1.toNat)) else (mM b c)
theorem Dx{t:Nat}{O m n o p q s:Value}{P:List aJ}{b:ByteArray}(H:Sep w (Blk t 251 [m,O,n,o,p,q,s]::Row 77 aI O P::Fo) rs){r:Int×(List aJ)}(hm:sQ P b=some r) :
    Calls Tryz.prog 258 [pt t 0,.string b,.func (.func 267) #[] #[]].toArray w (Ret fun v w'=>∃ Q,.int .i64 r.1=v∧Sep w' (Blk t 251 [m,Q,n,o,p,q,s]::Row 77 aI Q r.2::Fo) (rs)):=by
 unfold sQ at hm
 refine ent Tryz.func258 rfl Tryz.ntmps258 rfl rfl fun a E=>sq<|pr 1 E rfl fun a E=>nx<|pr 4 E rfl fun a E=>lb E H 0 rfl rfl rfl rfl rfl rfl rfl U23 rfl fun a E=>pr 1 E rfl fun a E=>have H:=H.frs [0,1] rfl;bd hm fun G J hm=>?_
 refine xk E rfl rfl rfl rfl rfl Qb (gA H J) fun w H a E=>pr 5 E rfl fun a E=>nt<|aV (fun a w=>∃ u y c,Env 80 a [(0,pt t 0),(2,.func (.func 267) #[] #[]),(7,.int .i64 G.1)]∧Sep w (Blk t 251 [m,u,n,o,p,q,s]::Row 77 aI u y::Fo) c∧(∀ r,r ∈ rs→r ∈ c)∧mM G y=some r) ?_ ?_
 ·refine sq<|pr 2 E rfl fun a E=>nt<|wif E hm rfl (fun hm=>?_) fun hm=>?_
  ·refine wp_region_lit<|pr 5 E rfl fun a E=>lb E H 1 rfl rfl rfl rfl rfl rfl rfl U23 rfl fun a E=>pr 2 E rfl fun a E=>sv E rfl rfl rfl (cL E rfl (E.evs rfl) (v:=.agg #[.string b,.int .i64 0]) (by kernel_rfl)) fun a E=>hJ (e:=77) (d:=aI) (cs:=[.string b,.int .i64 0]) (xs:=[(⟨b,0⟩:aJ)]) E H (wn rfl) rfl rfl rfl (E.evs rfl) (by kernel_rfl) rfl rfl (fun ok hr=>(Rows.single (d:=aI) (cs:=[.string b,.int .i64 0]) (x:=(⟨b,0⟩:aJ)) tN)) fun S w a H E=>bk hm fun K hm=>aW E (wn rfl) rfl rfl (cB E rfl rfl (Qc _)) (Tn.insert_a (ix:=1) (iu:=0) H rfl rfl (by decide) K) fun T w H a E=>pr 3 E rfl fun a E=>?_
   obtain ⟨q55,U,rfl⟩:=H.rowform (i:=1) rfl
   exact bA (i:=2) E H (wn rfl) rfl rfl rfl rfl rfl rfl T1 rfl rfl fun w H=>nt<|have H:=H.drop 0;have H:=H.frs [0,1] rfl;X3 ⟨E.to rfl,H,Y0,hm⟩
  ·exact wp_skip<|aC<|have H:=H.frs [0,1] rfl;X3 ⟨E.to rfl,H,Y0,hm⟩
 ·clear E H hm
  rintro a w ⟨u,y,c,E,H,z,hm⟩
  unfold mM at hm
  refine sq<|pr 4 E rfl fun a E=>lb E H 0 rfl rfl rfl rfl rfl rfl rfl U23 rfl fun a E=>pr 1 E rfl fun a E=>bd hm fun I f hm=>?_
  obtain ⟨V,W,A⟩:=H.rowformNE (i:=1) rfl f
  refine sv E rfl rfl rfl (dG (d:=aI) E A rfl rfl rfl rfl U23 oG f) fun a E=>pr 1 E rfl fun a E=>sv E rfl rfl rfl (pO (d:=aI) (i:=1) (k:=1) E H dU A rfl rfl rfl f rfl U2 rfl) fun a E=>pr 1 E rfl fun a E=>nt<|aV (fun a w=>∃ B C g,Env 80 a [(9,.int .i64 I.Next)]∧Sep w (Blk t 251 [m,B,n,o,p,q,s]::Row 77 aI B C::Fo) g∧(∀ r,r ∈ rs→r ∈ g)∧pL I C=some r) ?_ ?_
  ·refine wp_seq<|dw [(0,0),(1,0),(2,0),(3,0),(4,0),(5,0),(6,0),(7,0),(8,1),(9,2),(10,2),(11,2)] [0] [] H (by kernel_rfl) (fun _ _ _ h=>False.elim h.2) fun w W0 hI H=>fn 4 E rfl fun a E=>fb E rfl (wn rfl) rfl rfl rfl rfl m0 rfl U23 rfl fun a E=>fn 3 E rfl fun a E=>bY rfl<|bd hm fun X L hm=>aW E (wn rfl) rfl rfl (bR E rfl rfl rfl (IF _)) (W4 H L)<|?_
   rintro _ w ⟨rfl,H⟩ a E
   refine nt<|?_
   refine ⟨⟨_,_,H,(aB m0 (aL)),(aM)⟩,?_⟩
   refine bO rfl<|bd hm fun R j hm=>?_
   obtain ⟨Y,Z,D⟩:=H.rowformNE (i:=1) rfl j
   refine sv E rfl rfl rfl (dG (d:=aI) E D rfl rfl rfl rfl U23 oG j) fun a E=>nt<|bO rfl<|pr 1 E rfl fun a E=>nt<|bO rfl<|E3 (d:=aI) (i:=1) (k:=1) (z':=({ R with Next:=0 }:aJ)) E H dU (wn rfl) rfl D rfl rfl rfl rfl rfl rfl j rfl rfl sz2 fun w H=>nt<|bP<|?_
   clear hI
   refine aC<|sq<|pr 4 E rfl fun a E=>lb E H 0 rfl rfl rfl rfl rfl rfl rfl U23 rfl fun a E=>pr 1 E rfl fun a E=>bd hm fun b0 l hm=>?_
   obtain ⟨b1,b2,F⟩:=H.rowformNE (i:=1) rfl l
   refine sv E rfl rfl rfl (dG (d:=aI) E F rfl rfl rfl rfl U23 oG l) fun a E=>pr 1 E rfl fun a E=>sv E rfl rfl rfl (pO (d:=aI) (i:=1) (k:=1) E H dU F rfl rfl rfl l rfl U2 rfl) fun a E=>pr 1 E rfl fun a E=>nt<|wif E hm rfl (fun hm=>?_) fun hm=>?_
   ·refine wp_region_lit<|pr 5 E rfl fun a E=>lb E H 0 rfl rfl rfl rfl rfl rfl rfl U23 rfl fun a E=>pr 3 E rfl fun a E=>bk hm fun M hm=>aW E (wn rfl) rfl rfl (cB E rfl rfl (Qd _)) (Tn.delete_c (ix:=1) H rfl M) fun b3 w H a E=>pr 3 E rfl fun a E=>?_
    obtain ⟨q49,b4,rfl⟩:=H.rowform (i:=1) rfl
    exact bA (i:=0) E H (wn rfl) rfl rfl rfl rfl rfl rfl T1 rfl rfl fun w H=>nt<|X3 ⟨E.to rfl,H,z,hm⟩
   ·exact wp_skip<|aC<|X3 ⟨E.to rfl,H,z,hm⟩
  ·clear E H hm
   rintro a w ⟨B,C,g,E,H,N,hm⟩
   unfold pL at hm
   refine sq<|pr 2 E rfl fun a E=>nt<|wp_ret<|aY E rfl rfl<|?_
   cases hm
   exact ⟨_,rfl,H.reads N⟩

def dL(c:List aF)(d:ByteArray):Nat→Int→Option Int
  | 0,_=>none
  | f+1,b=>
    if (decide (b < (c.length:Int)))=true then ((idx c b).bind fun x20=>(uK x20 d).bind fun e=>if e=true then (some (b)) else (dL c d f (IntKind.i64.wrap (b+1)))) else (some ((-1)))
def gN(b:List aF)(c:ByteArray):Option Int:=
  dL b c (((b.length:Int) - 0:Int).toNat+1) 0
theorem xT{j k l m n o p:Value}{b:List aF}{q:Nat}{s:ByteArray}(H:Sep w (Row 95 aE j b::Blk q 85 [k,l,.string s,m,n,o,p]::Fo) rs){r:Int}(hm:gN b s=some r) :
    Calls Tryz.prog 105 [j,.func (.func 317) #[] #[pt q 0]].toArray w (Ret fun v w'=>.int .i64 r=v∧Sep w' (Blk q 85 [k,l,.string s,m,n,o,p]::Row 95 aE j b::Fo) (rs)):=by
 unfold gN at hm
 refine ent Tryz.func105 rfl Tryz.ntmps105 rfl rfl fun a E=>sq<|pr 1 E rfl fun a E=>nt<|wp_seq<|sq<|pr 1 E rfl fun a E=>sv E rfl rfl rfl (kK (i:=0) E H rfl rfl rfl U22) fun a E=>pr 1 E rfl fun a E=>?_
 refine nt<|wp_block<|bX (fun g a w=>∃ t c,Env 19 a [(0,j),(1,.func (.func 317) #[] #[pt q 0]),(7,.int .i64 (b.length:Int)),(8,.int .i64 t)]∧Sep w (Row 95 aE j b::Blk q 85 [k,l,.string s,m,n,o,p]::Fo) c∧(∀ r,r ∈ rs→r ∈ c)∧dL b s g t=some r) (((b.length:Int) - 0:Int).toNat+1) ?_ ?_
 ·exact ⟨_,_,E.to rfl,H,Y0,hm⟩
 ·clear E H hm
  rintro g a w ⟨t,c,E,H,e,hm⟩
  cases g with
  | zero=>exact (bU hm rfl).elim
  | succ g=>
   unfold dL at hm
   refine sq<|pr 1 E rfl fun a E=>nt<|wp_seq<|wif E hm rfl (fun hm=>?_) fun hm=>?_
   ·refine wp_skip<|aC<|wp_seq<|wp_block<|sq<|pr 2 E rfl fun a E=>nx<|pr 3 E rfl fun a E=>bd hm fun x20 f hm=>?_
    obtain ⟨y,z,u⟩:=H.rowformNE (i:=0) rfl f
    refine sv E rfl rfl rfl (dG (d:=aE) E u rfl rfl rfl rfl U22 iZ f) fun a E=>sv E rfl rfl rfl (hP (i:=0) E H cO u rfl rfl rfl f (us:=[.string x20.Path,.string x20.Data,.int .i64 x20.Version,.int .i64 x20.Turn,.int .i64 x20.Owner]) rfl U95 rfl iZ) fun a E=>have H:=H.frs [0,1] rfl;bd hm fun A x hm=>aW E (wn rfl) rfl rfl (bR E rfl rfl rfl (Px _)) (O4 H x)<|?_
    rintro _ w ⟨rfl,H⟩ a E
    refine nt<|wif E hm rfl (fun hm=>?_) fun hm=>?_
    ·refine sq<|pr 2 E rfl fun a E=>nt<|wp_ret<|bW<|aP<|aP<|bW<|aP<|?_
     refine aY E rfl rfl<|?_
     cases hm
     exact ⟨rfl,H.reads e⟩
    ·exact wp_skip<|bZ<|aC<|wp_region_lit<|pr 2 E rfl fun a E=>nt<|have H:=H.frs [0,1] rfl;⟨g,Nat.lt_succ_self g,_,_,E.to rfl,H,e,hm⟩
   ·refine wp_exit<|bG<|bG<|dN<|aC<|sq<|pr 1 E rfl fun a E=>nt<|wp_ret<|?_
    refine aY E rfl rfl<|have H:=H.frs [0,1] rfl;?_
    cases hm
    exact ⟨rfl,H.reads e⟩

def eR(c:List aF)(d:ByteArray):Option Bool:=
  (gN c d).bind fun b=>some (decide (b ≥ 0))
theorem vS{i b c d e f g:Value}{j:List aF}{k:Nat}{l:ByteArray}(H:Sep w (Row 95 aE i j::Blk k 85 [b,c,.string l,d,e,f,g]::Fo) rs){r:Bool}(hm:eR j l=some r) :
    Calls Tryz.prog 46 [i,.func (.func 317) #[] #[pt k 0]].toArray w (Ret fun v w'=>.bool r=v∧Sep w' (Blk k 85 [b,c,.string l,d,e,f,g]::Row 95 aE i j::Fo) (rs)):=by
 unfold eR at hm
 refine ent Tryz.func46 rfl Tryz.ntmps46 rfl rfl fun a E=>sq<|pr 1 E rfl fun a E=>nx<|pr 2 E rfl fun a E=>bd hm fun n m hm=>xk E rfl rfl rfl rfl rfl Pc (xT H m) fun w H a E=>pr 2 E rfl fun a E=>nt<|?_
 refine wp_ret<|aY E rfl rfl<|?_
 cases hm
 exact ⟨rfl,H.reads Y0⟩

def uR(j:List aF)(c:List aJ)(k:Int)(l:ByteArray)(m:ByteArray)(n:Int)(d:List ByteArray)(b:bI):Option ((List aJ)×Int×ByteArray×ByteArray×Int×(List ByteArray)):=
  (vW b).bind fun e=>(eR j e.2.2.1).bind fun f=>if f=true then ((fQ 64).bind fun g=>some (c,g,(ByteArray.mk #[]),(ByteArray.mk #[]),0,[])) else ((sQ c b.Path).bind fun i=>some (i.2,k,l,m,n,d))
theorem Bz{f:Nat}{c m d:Value}{g:List aF}{n:List aJ}{o p:Int}{q s:ByteArray}{e:List ByteArray}{b:bI}(H:Sep w (Blk f 251 [c,m,.int .i64 o,.string q,.string s,.int .i64 p,d]::Row 95 aE c g::Row 77 aI m n::Row 9 kS d e::Fo) rs){r:(List aJ)×Int×ByteArray×ByteArray×Int×(List ByteArray)}(hm:uR g n o q s p e b=some r) :
    Calls Tryz.prog 196 [pt f 0,.agg (cK b).toArray].toArray w (Ret fun v w'=>∃ t u,.tuple #[]=v∧Sep w' (Blk f 251 [c,t,.int .i64 r.2.1,.string r.2.2.1,.string r.2.2.2.1,.int .i64 r.2.2.2.2.1,u]::Row 95 aE c g::Row 77 aI t r.1::Row 9 kS u r.2.2.2.2.2::Fo) (rs)):=by
 unfold uR at hm
 refine ent Tryz.func196 rfl Tryz.ntmps196 rfl rfl fun a E=>sq<|bS E H (wn rfl) rfl rfl rfl rfl rfl fun x w a H E=>nt<|wp_seq<|wp_seq<|dw [(0,0),(1,0),(2,0),(3,0),(4,0),(5,0),(6,1),(7,1)] [0,1] [] H (by kernel_rfl) (fun _ _ _ h=>False.elim h.2) fun w W0 hI H=>fn 4 E rfl fun a E=>fb E rfl (wn rfl) rfl rfl rfl rfl mm1 rfl U22 rfl fun a E=>?_
 refine fbn E (cK b) rfl (wn rfl) rfl rfl rfl rfl m0 rfl U85 rfl jR fun a E=>bY rfl<|bd hm fun y i hm=>cF E rfl rfl rfl rfl rfl Pv (Ab H i)<|?_
 rintro _ w ⟨z,rfl,H⟩ a E
 refine nt<|?_
 refine ⟨⟨_,_,H,(aB mm1 (aB mm2 (aL))),(aM)⟩,?_⟩
 refine bY rfl<|have H:=H.frs [5,5,4,4,4,5] rfl;bd hm fun A j hm=>xk E rfl rfl rfl rfl rfl BD (vS H j) fun w H a E=>nt<|?_
 refine ⟨⟨_,_,H,(aB mm2 (aB mm3 (aL))),(aM)⟩,?_⟩
 refine bP<|?_
 clear hI
 refine aC<|wif E hm rfl (fun hm=>?_) fun hm=>?_
 ·refine sq<|pr 1 E rfl fun a E=>have H:=H.frs [5,5,4,4,4,5] rfl;bd hm fun B k hm=>xk E rfl rfl rfl rfl rfl S9 (nJ H k) fun w H a E=>nt<|wp_ret<|aP<|Ek E rfl<|?_
  refine have H:=H.nilRow 9 kS;have H:=H.drs [2,3,4];have H:=H.frs [0,3,3,3] rfl;?_
  cases hm
  exact ⟨_,_,rfl,H.reads Y0⟩
 ·refine wp_skip<|aC<|wp_region_lit<|pr 2 E rfl fun a E=>lb E H 2 rfl rfl rfl rfl rfl rfl rfl U9 rfl fun a E=>have H:=H.frs [5,3,3,3,5,5] rfl;bd hm fun C l hm=>cF E rfl rfl rfl rfl rfl Qa (Dx H l)<|?_
  rintro _ w ⟨D,rfl,H⟩ a E
  refine wpList_nil<|rC E rfl<|have H:=H.drs [2,3];have H:=H.frs [3,2,3,3] rfl;?_
  cases hm
  exact ⟨_,_,rfl,H.reads Y0⟩

def oJ(b:Int×Int×ByteArray×ByteArray×Int×(List ByteArray))(c:Bool):Option (Int×ByteArray×ByteArray×Int×(List ByteArray)):=
  if c=true then ((fQ 65).bind fun d=>some (d,(ByteArray.mk #[]),(ByteArray.mk #[]),0,[])) else (some (b.2.1,b.2.2.1,b.2.2.2.1,b.2.2.2.2.1,b.2.2.2.2.2))
def rN(c:List aF)(g:Int)(i:ByteArray)(j:ByteArray)(k:Int)(d:List ByteArray)(e:bI):Option (Int×ByteArray×ByteArray×Int×(List ByteArray)):=
  (gJ c g i j k d e).bind fun b=>if (decide (0 ≤ b.1))=true then ((idx c b.1).bind fun f=>oJ b (f.Owner != 0)) else (oJ b false)
theorem Ca{j:Nat}{g s l:Value}{q:List aF}{z A:Int}{B C:ByteArray}{t:List ByteArray}{m:bI}(H:Sep w (Blk j 251 [g,l,.int .i64 z,.string B,.string C,.int .i64 A,s]::Row 95 aE g q::Row 9 kS s t::Fo) rs){r:Int×ByteArray×ByteArray×Int×(List ByteArray)}(hm:rN q z B C A t m=some r) :
    Calls Tryz.prog 193 [pt j 0,.agg (cK m).toArray].toArray w (Ret fun v w'=>∃ D,.tuple #[]=v∧Sep w' (Blk j 251 [g,l,.int .i64 r.1,.string r.2.1,.string r.2.2.1,.int .i64 r.2.2.2.1,D]::Row 95 aE g q::Row 9 kS D r.2.2.2.2::Fo) (rs)):=by
 unfold rN at hm
 refine ent Tryz.func193 rfl Tryz.ntmps193 rfl rfl fun a E=>sq<|bS E H (wn rfl) rfl rfl rfl rfl rfl fun F w a H E=>nx<|pr 1 E rfl fun a E=>sv E rfl rfl rfl (cC (i:=0) (us:=(cK m)) E H rfl rfl rfl rfl U85 rfl jR) fun a E=>have H:=H.frs [0,3,3,3] rfl;bd hm fun c x hm=>cF E rfl rfl rfl rfl rfl Bi (pR H x)<|?_
 rintro _ w ⟨u,rfl,H⟩ a E
 refine pr 1 E rfl fun a E=>nt<|aV (fun a w=>∃ n e,Env 19 a [(0,pt j 0),(16,.bool n)]∧Sep w (Blk j 251 [g,l,.int .i64 c.2.1,.string c.2.2.1,.string c.2.2.2.1,.int .i64 c.2.2.2.2.1,u]::Row 95 aE g q::Row 9 kS u c.2.2.2.2.2::Fo) e∧(∀ r,r ∈ rs→r ∈ e)∧oJ c n=some r) ?_ ?_
 ·refine wp_region_lit<|pr 1 E rfl fun a E=>sv E rfl rfl rfl (Es E Fj Fk rfl rfl rfl) fun a E=>pr 1 E rfl fun a E=>cs hm (fun b hm=>?_) fun b hm=>?_
  ·refine pk 1 E (kc 10 rfl b) rfl fun a E=>bd hm fun G f hm=>?_
   obtain ⟨I,J,o⟩:=H.rowformNE (i:=1) rfl f
   rw [Z2 5 o f] at E
   exact pk 2 E (kc 10 rfl b) rfl fun a E=>aQ E (ws' (d:=10) E rfl rfl rfl rfl b) rfl rfl (pO (d:=aE) (i:=1) (k:=4) E H cO o rfl rfl rfl f rfl U2 rfl) fun a E=>pk 2 E (kc 10 rfl b) rfl fun a E=>nt<|have H:=H.drop 3;⟨_,_,E.to rfl,H,Y0,hm⟩
  ·exact pk 6 E (kc 10 rfl b) rfl fun a E=>nt<|have H:=H.drop 3;⟨_,_,E.to rfl,H,Y0,hm⟩
 ·clear E H hm
  rintro a w ⟨n,e,E,H,p,hm⟩
  unfold oJ at hm
  refine wif E hm rfl (fun hm=>?_) fun hm=>?_
  ·refine wp_region_lit<|pr 1 E rfl fun a E=>bd hm fun K y hm=>xk E rfl rfl rfl rfl rfl S9 (nJ H y) fun w H a E=>wpList_nil<|rC E rfl<|have H:=H.nilRow 9 kS;have H:=H.drop 3;have H:=H.frs [0,2,2] rfl;?_
   cases hm
   exact ⟨_,rfl,H.reads p⟩
  ·refine wp_skip<|rC E rfl<|?_
   cases hm
   exact ⟨_,rfl,H.reads p⟩

def tZ(e:List aF)(f:Int)(g:ByteArray)(i:ByteArray)(j:Int)(c:List ByteArray)(d:bI):Option (Int×ByteArray×ByteArray×Int×(List ByteArray)):=
  (gJ e f g i j c d).bind fun b=>some (b.2.1,b.2.2.1,b.2.2.2.1,b.2.2.2.2.1,b.2.2.2.2.2)
theorem Fv{g:Nat}{c d e:Value}{j:List aF}{l m:Int}{n o:ByteArray}{f:List ByteArray}{b:bI}(H:Sep w (Blk g 251 [c,e,.int .i64 l,.string n,.string o,.int .i64 m,d]::Row 95 aE c j::Row 9 kS d f::Fo) rs){r:Int×ByteArray×ByteArray×Int×(List ByteArray)}(hm:tZ j l n o m f b=some r) :
    Calls Tryz.prog 200 [pt g 0,.agg (cK b).toArray].toArray w (Ret fun v w'=>∃ p,.tuple #[]=v∧Sep w' (Blk g 251 [c,e,.int .i64 r.1,.string r.2.1,.string r.2.2.1,.int .i64 r.2.2.2.1,p]::Row 95 aE c j::Row 9 kS p r.2.2.2.2::Fo) (rs)):=by
 unfold tZ at hm
 refine ent Tryz.func200 rfl Tryz.ntmps200 rfl rfl fun a E=>sq<|bS E H (wn rfl) rfl rfl rfl rfl rfl fun q w a H E=>nt<|wp_region_lit<|pr 1 E rfl fun a E=>sv E rfl rfl rfl (cC (i:=0) (us:=(cK b)) E H rfl rfl rfl rfl U85 rfl jR) fun a E=>have H:=H.frs [0,3,3,3] rfl;bd hm fun s k hm=>?_
 refine cF E rfl rfl rfl rfl rfl Bi (pR H k)<|?_
 rintro _ w ⟨t,rfl,H⟩ a E
 refine wpList_nil<|rC E rfl<|have H:=H.drop 3;?_
 cases hm
 exact ⟨_,rfl,H.reads Y0⟩

def sR(c:List aF)(g:Int)(i:ByteArray)(j:ByteArray)(k:Int)(d:List ByteArray)(e:bI):Option (Int×ByteArray×ByteArray×Int×(List ByteArray)):=
  (gJ c g i j k d e).bind fun b=>if (decide (0 ≤ b.1))=true then ((idx c b.1).bind fun f=>some (b.2.1,b.2.2.1,b.2.2.2.1,f.Version,b.2.2.2.2.2)) else (some (b.2.1,b.2.2.1,b.2.2.2.1,b.2.2.2.2.1,b.2.2.2.2.2))
theorem Dy{m:Nat}{f g j:Value}{n:List aF}{p q:Int}{s t:ByteArray}{l:List ByteArray}{c:bI}(H:Sep w (Blk m 251 [f,j,.int .i64 p,.string s,.string t,.int .i64 q,g]::Row 95 aE f n::Row 9 kS g l::Fo) rs){r:Int×ByteArray×ByteArray×Int×(List ByteArray)}(hm:sR n p s t q l c=some r) :
    Calls Tryz.prog 198 [pt m 0,.agg (cK c).toArray].toArray w (Ret fun v w'=>∃ u,.tuple #[]=v∧Sep w' (Blk m 251 [f,j,.int .i64 r.1,.string r.2.1,.string r.2.2.1,.int .i64 r.2.2.2.1,u]::Row 95 aE f n::Row 9 kS u r.2.2.2.2::Fo) (rs)):=by
 unfold sR at hm
 refine ent Tryz.func198 rfl Tryz.ntmps198 rfl rfl fun a E=>sq<|bS E H (wn rfl) rfl rfl rfl rfl rfl fun x w a H E=>nx<|pr 1 E rfl fun a E=>sv E rfl rfl rfl (cC (i:=0) (us:=(cK c)) E H rfl rfl rfl rfl U85 rfl jR) fun a E=>have H:=H.frs [0,3,3,3] rfl;bd hm fun y o hm=>cF E rfl rfl rfl rfl rfl Bi (pR H o)<|?_
 rintro _ w ⟨z,rfl,H⟩ a E
 refine pr 1 E rfl fun a E=>nx<|pr 1 E rfl fun a E=>sv E rfl rfl rfl (Es E Fj Fk rfl rfl rfl) fun a E=>nt<|wif E hm rfl (fun hm=>?_) fun hm=>?_
 ·refine wp_region_lit<|pr 2 E rfl fun a E=>bd hm fun A b hm=>?_
  obtain ⟨B,C,e⟩:=H.rowformNE (i:=1) rfl b
  rw [Z2 5 e b] at E
  refine pr 2 E rfl fun a E=>sv E rfl rfl rfl (pO (d:=aE) (i:=1) (k:=2) E H cO e rfl rfl rfl b rfl U2 rfl) fun a E=>pr 3 E rfl fun a E=>bA (i:=0) E H (wn rfl) rfl rfl rfl rfl rfl rfl sz2 rfl rfl fun w H=>wpList_nil<|rC E rfl<|have H:=H.drop 3;?_
  cases hm
  exact ⟨_,rfl,H.reads Y0⟩
 ·refine wp_skip<|rC E rfl<|have H:=H.drop 3;?_
  cases hm
  exact ⟨_,rfl,H.reads Y0⟩

def oK(rec_1:Int→(List ByteArray)→Option (List ByteArray))(b:Int)(c:(List ByteArray)):Option (List ByteArray):=
  rec_1 (IntKind.i64.wrap (b+1)) c
def iC(e:List aF)(d:Int×ByteArray×ByteArray×ByteArray×Int×Int×Bool):Nat→Int→(List ByteArray)→Option (List ByteArray)
  | 0,_,_=>none
  | i+1,b,c=>
    if (decide (b < (e.length:Int)))=true then ((idx e b).bind fun f=>(uK f d.2.2.1).bind fun j=>if j=true then ((uL f.Path).bind fun g=>(ck (c.length+([g]:List ByteArray).length ≤ LIM)).bind fun k=>oK (iC e d i) b (c ++ ([g]:List ByteArray))) else (oK (iC e d i) b c)) else (some (c))
def rO(b:List aF)(c:List ByteArray)(d:bI):Option (List ByteArray):=
  (vW d).bind fun e=>iC b e (((b.length:Int) - 0:Int).toNat+1) 0 c
theorem Cc{k:Nat}{c J q s t u y:Value}{f:List aF}{K:List ByteArray}{B:bI}(H:Sep w (Blk k 251 [c,q,s,t,u,y,J]::Row 95 aE c f::Row 9 kS J K::Fo) rs){r:(List ByteArray)}(hm:rO f K B=some r) :
    Calls Tryz.prog 201 [pt k 0,.agg (cK B).toArray].toArray w (Ret fun v w'=>∃ Q,.tuple #[]=v∧Sep w' (Blk k 251 [c,q,s,t,u,y,Q]::Row 95 aE c f::Row 9 kS Q r::Fo) (rs)):=by
 unfold rO at hm
 refine ent Tryz.func201 rfl Tryz.ntmps201 rfl rfl fun a E=>sq<|bS E H (wn rfl) rfl rfl rfl rfl rfl fun R w a H E=>nx<|sv E rfl rfl rfl (cC (i:=0) (us:=(cK B)) E H rfl rfl rfl rfl U85 rfl jR) fun a E=>bd hm fun b L hm=>cF E rfl rfl rfl rfl rfl Pv (Ab H L)<|?_
 rintro _ w ⟨z,rfl,H⟩ a E
 refine pr 1 E rfl fun a E=>nx<|pr 4 E rfl fun a E=>lb E H 2 rfl rfl rfl rfl rfl rfl rfl U22 rfl fun a E=>sv E rfl rfl rfl (kK (i:=3) E H rfl rfl rfl U22) fun a E=>pr 1 E rfl fun a E=>nt<|wp_block<|bX (fun l a w=>∃ C j D m,Env 37 a [(0,pt k 0),(4,.func (.func 317) #[] #[pt z 0]),(13,c),(14,.int .i64 (f.length:Int)),(15,.int .i64 j)]∧Sep w (Blk k 251 [c,q,s,t,u,y,C]::Blk z 85 [.int .i64 b.1,.string b.2.1,.string b.2.2.1,.string b.2.2.2.1,.int .i64 b.2.2.2.2.1,.int .i64 b.2.2.2.2.2.1,.bool b.2.2.2.2.2.2]::Row 95 aE c f::Row 9 kS C D::Fo) m∧(∀ r,r ∈ rs→r ∈ m)∧iC f b l j D=some r) (((f.length:Int) - 0:Int).toNat+1) ?_ ?_
 ·exact have H:=H.drop 1;have H:=H.frs [3,3,2,3] rfl;X4 ⟨E.to rfl,H,Y0,hm⟩
 ·clear E H hm
  rintro l a w ⟨C,j,D,m,E,H,n,hm⟩
  cases l with
  | zero=>exact (bU hm rfl).elim
  | succ l=>
   unfold iC at hm
   refine sq<|pr 1 E rfl fun a E=>nt<|wp_seq<|wif E hm rfl (fun hm=>?_) fun hm=>?_
   ·refine wp_skip<|aC<|aV (fun a w=>∃ F G o,Env 37 a [(0,pt k 0),(4,.func (.func 317) #[] #[pt z 0]),(13,c),(14,.int .i64 (f.length:Int)),(15,.int .i64 j)]∧Sep w (Blk k 251 [c,q,s,t,u,y,F]::Blk z 85 [.int .i64 b.1,.string b.2.1,.string b.2.2.1,.string b.2.2.2.1,.int .i64 b.2.2.2.2.1,.int .i64 b.2.2.2.2.2.1,.bool b.2.2.2.2.2.2]::Row 95 aE c f::Row 9 kS F G::Fo) o∧(∀ r,r ∈ rs→r ∈ o)∧oK (iC f b l) j G=some r) ?_ ?_
    ·refine wp_block<|sq<|bd hm fun g p hm=>?_
     obtain ⟨S,T,I⟩:=H.rowformNE (i:=2) rfl p
     refine sv E rfl rfl rfl (dG (d:=aE) E I rfl rfl rfl rfl U22 iZ p) fun a E=>sv E rfl rfl rfl (hP (i:=2) E H cO I rfl rfl rfl p (us:=[.string g.Path,.string g.Data,.int .i64 g.Version,.int .i64 g.Turn,.int .i64 g.Owner]) rfl U95 rfl iZ) fun a E=>al E H rfl rfl rfl rfl Vf fun U w a H E=>bA (i:=0) E H (wn rfl) rfl rfl rfl rfl rfl rfl iZ rfl rfl fun w H=>nx<|pr 1 E rfl fun a E=>sv E rfl rfl rfl (cC (i:=0) (us:=(kM g)) E H rfl rfl rfl rfl U95 rfl iZ) fun a E=>have H:=H.frs [4,4,3,3,4] rfl;bd hm fun V M hm=>?_
     refine aW E (wn rfl) rfl rfl (bR E rfl rfl rfl (Px _)) (O4 H M)<|?_
     rintro _ w ⟨rfl,H⟩ a E
     refine nt<|wif E hm rfl (fun hm=>?_) fun hm=>?_
     ·refine dw [(0,0),(1,0),(2,0),(3,0),(4,0),(5,0),(6,0),(7,0),(8,1),(9,1),(10,1),(11,2),(12,2),(13,2),(14,2)] [1,2] [] H (by kernel_rfl) (fun _ _ _ h=>False.elim h.2) fun w W0 hI H=>fn 5 E rfl fun a E=>fb E rfl (wn rfl) rfl rfl rfl rfl mm1 rfl U33 rfl fun a E=>fn 1 E rfl fun a E=>fb E rfl (wn rfl) rfl rfl rfl rfl m0 rfl U9 rfl fun a E=>bY rfl<|bd hm fun A N hm=>xk E rfl rfl rfl rfl rfl Py (O5 H N) fun w H a E=>nt<|?_
      refine ⟨⟨_,_,H,(aB mm1 (aB mm2 (aL))),(aM)⟩,?_⟩
      refine bY rfl<|sM (e:=9) (d:=kS) (cs:=[.string A]) (xs:=[A]) E H (wn rfl) rfl rfl rfl (E.evs rfl) (by kernel_rfl) rfl (fun ok hr=>(Rows.single (d:=kS) (cs:=[.string A]) (x:=A) rfl)) fun W w a H E=>nt<|?_
      refine ⟨⟨_,_,H,(aB mm1 (aB mm2 (aL))),(aM)⟩,?_⟩
      refine bY rfl<|bk hm fun O hm=>eK (i:=4) E H (wn rfl) rfl rfl rfl rfl rfl rfl (lB m0) U33 Pf rfl O rfl fun X w a H E=>nt<|?_
      refine ⟨⟨_,_,H,(aB mm1 (aB mm2 (aL))),(aM)⟩,?_⟩
      refine bO rfl<|pr 1 E rfl fun a E=>nt<|bO rfl<|pr 1 E rfl fun a E=>nt<|bO rfl<|pr 1 E rfl fun a E=>nt<|?_
      refine bO rfl<|?_
      obtain ⟨q45,Y,rfl⟩:=H.rowform (i:=4) rfl
      refine bA (i:=2) E H (wn rfl) rfl rfl rfl rfl rfl rfl DJ rfl rfl fun w H=>nt<|bP<|?_
      clear hI
      exact bZ<|aC<|have H:=H.drop 1;have H:=H.frs [3,3,2,3] rfl;X3 ⟨E.to rfl,H,(Y1 n),hm⟩
     ·exact wp_skip<|bZ<|aC<|have H:=H.drop 1;have H:=H.frs [3,3,2,3] rfl;X3 ⟨E.to rfl,H,n,hm⟩
    ·clear E H hm
     rintro a w ⟨F,G,o,E,H,P,hm⟩
     unfold oK at hm
     exact wp_region_lit<|pr 2 E rfl fun a E=>nt<|⟨l,Nat.lt_succ_self l,X4 ⟨E.to rfl,H,P,hm⟩⟩
   ·refine wp_exit<|bG<|bG<|dN<|rC E rfl<|have H:=H.drop 1;?_
    cases hm
    exact ⟨_,rfl,H.reads n⟩

def uS(x1:Int):Option Int:=
  some (x1)
theorem Cd{x1:Int}(H:Sep w (Fo) rs){r:Int}(hm:uS x1=some r) :
    Calls Tryz.prog 259 [.int .i64 x1].toArray w (Ret fun v w'=>.int .i64 r=v∧Sep w' (Fo) (rs)):=by
 unfold uS at hm
 refine ent Tryz.func259 rfl Tryz.ntmps259 rfl rfl fun a E=>sq<|pr 1 E rfl fun a E=>nx<|pr 2 E rfl fun a E=>nt<|wp_ret<|aY E rfl rfl<|?_
 cases hm
 exact ⟨rfl,H.reads Y0⟩

def nO(b:aJ)(c:(List aJ)):Option (Int×(List aJ)):=
  some (b.Next,c)
def kV(b:Int×Bool)(c:(List aJ)):Option (Int×(List aJ)):=
  (idx c b.1).bind fun f=>(uS f.Next).bind fun d=>(idx c b.1).bind fun e=>(idx (c.set b.1.toNat ({ e with Next:=d }:aJ)) b.1).bind fun g=>if (g.Next == 0)=true then ((ck (0 ≤ b.1∧b.1 < (c.set b.1.toNat ({ e with Next:=d }:aJ)).length∧IntKind.i64.wrap (b.1+1)=b.1+1)).bind fun i=>nO f ((c.set b.1.toNat ({ e with Next:=d }:aJ)).eraseIdx b.1.toNat)) else (nO f (c.set b.1.toNat ({ e with Next:=d }:aJ)))
def qI(c:List aJ)(d:ByteArray):Option (Int×(List aJ)):=
  (cM c d).bind fun b=>if (!b.2)=true then ((ck (0 ≤ b.1∧b.1 ≤ c.length∧c.length ≤ 1000000)).bind fun e=>kV b (c.take b.1.toNat ++ (⟨d,0⟩:aJ)::c.drop b.1.toNat)) else (kV b c)
theorem Ac{t:Nat}{O m n o p q s:Value}{P:List aJ}{b:ByteArray}(H:Sep w (Blk t 251 [m,O,n,o,p,q,s]::Row 77 aI O P::Fo) rs){r:Int×(List aJ)}(hm:qI P b=some r) :
    Calls Tryz.prog 258 [pt t 0,.string b,.func (.func 259) #[] #[]].toArray w (Ret fun v w'=>∃ Q,.int .i64 r.1=v∧Sep w' (Blk t 251 [m,Q,n,o,p,q,s]::Row 77 aI Q r.2::Fo) (rs)):=by
 unfold qI at hm
 refine ent Tryz.func258 rfl Tryz.ntmps258 rfl rfl fun a E=>sq<|pr 1 E rfl fun a E=>nx<|pr 4 E rfl fun a E=>lb E H 0 rfl rfl rfl rfl rfl rfl rfl U23 rfl fun a E=>pr 1 E rfl fun a E=>have H:=H.frs [0,1] rfl;bd hm fun G J hm=>?_
 refine xk E rfl rfl rfl rfl rfl Qb (gA H J) fun w H a E=>pr 5 E rfl fun a E=>nt<|aV (fun a w=>∃ u y c,Env 80 a [(0,pt t 0),(2,.func (.func 259) #[] #[]),(7,.int .i64 G.1)]∧Sep w (Blk t 251 [m,u,n,o,p,q,s]::Row 77 aI u y::Fo) c∧(∀ r,r ∈ rs→r ∈ c)∧kV G y=some r) ?_ ?_
 ·refine sq<|pr 2 E rfl fun a E=>nt<|wif E hm rfl (fun hm=>?_) fun hm=>?_
  ·refine wp_region_lit<|pr 5 E rfl fun a E=>lb E H 1 rfl rfl rfl rfl rfl rfl rfl U23 rfl fun a E=>pr 2 E rfl fun a E=>sv E rfl rfl rfl (cL E rfl (E.evs rfl) (v:=.agg #[.string b,.int .i64 0]) (by kernel_rfl)) fun a E=>hJ (e:=77) (d:=aI) (cs:=[.string b,.int .i64 0]) (xs:=[(⟨b,0⟩:aJ)]) E H (wn rfl) rfl rfl rfl (E.evs rfl) (by kernel_rfl) rfl rfl (fun ok hr=>(Rows.single (d:=aI) (cs:=[.string b,.int .i64 0]) (x:=(⟨b,0⟩:aJ)) tN)) fun T w a H E=>bk hm fun K hm=>aW E (wn rfl) rfl rfl (cB E rfl rfl (Qc _)) (Tn.insert_a (ix:=1) (iu:=0) H rfl rfl (by decide) K) fun U w H a E=>pr 3 E rfl fun a E=>?_
   obtain ⟨q55,V,rfl⟩:=H.rowform (i:=1) rfl
   exact bA (i:=2) E H (wn rfl) rfl rfl rfl rfl rfl rfl T1 rfl rfl fun w H=>nt<|have H:=H.drop 0;have H:=H.frs [0,1] rfl;X3 ⟨E.to rfl,H,Y0,hm⟩
  ·exact wp_skip<|aC<|have H:=H.frs [0,1] rfl;X3 ⟨E.to rfl,H,Y0,hm⟩
 ·clear E H hm
  rintro a w ⟨u,y,c,E,H,z,hm⟩
  unfold kV at hm
  refine sq<|pr 4 E rfl fun a E=>lb E H 0 rfl rfl rfl rfl rfl rfl rfl U23 rfl fun a E=>pr 1 E rfl fun a E=>bd hm fun I f hm=>?_
  obtain ⟨W,X,A⟩:=H.rowformNE (i:=1) rfl f
  refine sv E rfl rfl rfl (dG (d:=aI) E A rfl rfl rfl rfl U23 oG f) fun a E=>pr 1 E rfl fun a E=>sv E rfl rfl rfl (pO (d:=aI) (i:=1) (k:=1) E H dU A rfl rfl rfl f rfl U2 rfl) fun a E=>pr 1 E rfl fun a E=>nt<|aV (fun a w=>∃ B C g,Env 80 a [(9,.int .i64 I.Next)]∧Sep w (Blk t 251 [m,B,n,o,p,q,s]::Row 77 aI B C::Fo) g∧(∀ r,r ∈ rs→r ∈ g)∧nO I C=some r) ?_ ?_
  ·refine wp_seq<|dw [(0,0),(1,0),(2,0),(3,0),(4,0),(5,0),(6,0),(7,0),(8,1),(9,2),(10,2),(11,2)] [0] [] H (by kernel_rfl) (fun _ _ _ h=>False.elim h.2) fun w W0 hI H=>fn 4 E rfl fun a E=>fb E rfl (wn rfl) rfl rfl rfl rfl m0 rfl U23 rfl fun a E=>fn 3 E rfl fun a E=>bY rfl<|bd hm fun R L hm=>aW E (wn rfl) rfl rfl (bR E rfl rfl rfl (IJ _)) (Cd H L)<|?_
   rintro _ w ⟨rfl,H⟩ a E
   refine nt<|?_
   refine ⟨⟨_,_,H,(aB m0 (aL)),(aM)⟩,?_⟩
   refine bO rfl<|bd hm fun S j hm=>?_
   obtain ⟨Y,Z,D⟩:=H.rowformNE (i:=1) rfl j
   refine sv E rfl rfl rfl (dG (d:=aI) E D rfl rfl rfl rfl U23 oG j) fun a E=>nt<|bO rfl<|pr 1 E rfl fun a E=>nt<|bO rfl<|E3 (d:=aI) (i:=1) (k:=1) (z':=({ S with Next:=R }:aJ)) E H dU (wn rfl) rfl D rfl rfl rfl rfl rfl rfl j rfl rfl sz2 fun w H=>nt<|bP<|?_
   clear hI
   refine aC<|sq<|pr 4 E rfl fun a E=>lb E H 0 rfl rfl rfl rfl rfl rfl rfl U23 rfl fun a E=>pr 1 E rfl fun a E=>bd hm fun b0 l hm=>?_
   obtain ⟨b1,b2,F⟩:=H.rowformNE (i:=1) rfl l
   refine sv E rfl rfl rfl (dG (d:=aI) E F rfl rfl rfl rfl U23 oG l) fun a E=>pr 1 E rfl fun a E=>sv E rfl rfl rfl (pO (d:=aI) (i:=1) (k:=1) E H dU F rfl rfl rfl l rfl U2 rfl) fun a E=>pr 1 E rfl fun a E=>nt<|wif E hm rfl (fun hm=>?_) fun hm=>?_
   ·refine wp_region_lit<|pr 5 E rfl fun a E=>lb E H 0 rfl rfl rfl rfl rfl rfl rfl U23 rfl fun a E=>pr 3 E rfl fun a E=>bk hm fun M hm=>aW E (wn rfl) rfl rfl (cB E rfl rfl (Qd _)) (Tn.delete_c (ix:=1) H rfl M) fun b3 w H a E=>pr 3 E rfl fun a E=>?_
    obtain ⟨q49,b4,rfl⟩:=H.rowform (i:=1) rfl
    exact bA (i:=0) E H (wn rfl) rfl rfl rfl rfl rfl rfl T1 rfl rfl fun w H=>nt<|X3 ⟨E.to rfl,H,z,hm⟩
   ·exact wp_skip<|aC<|X3 ⟨E.to rfl,H,z,hm⟩
  ·clear E H hm
   rintro a w ⟨B,C,g,E,H,N,hm⟩
   unfold nO at hm
   refine sq<|pr 2 E rfl fun a E=>nt<|wp_ret<|aY E rfl rfl<|?_
   cases hm
   exact ⟨_,rfl,H.reads N⟩

def uT(x1:Int):Option Int:=
  some (IntKind.i64.wrap (x1+1))
theorem Ce{x1:Int}(H:Sep w (Fo) rs){r:Int}(hm:uT x1=some r) :
    Calls Tryz.prog 263 [.int .i64 x1].toArray w (Ret fun v w'=>.int .i64 r=v∧Sep w' (Fo) (rs)):=by
 unfold uT at hm
 refine ent Tryz.func263 rfl Tryz.ntmps263 rfl rfl fun a E=>sq<|pr 1 E rfl fun a E=>nx<|pr 3 E rfl fun a E=>nt<|wp_ret<|aY E rfl rfl<|?_
 cases hm
 exact ⟨rfl,H.reads Y0⟩

def nP(b:aJ)(c:(List aJ)):Option (Int×(List aJ)):=
  some (b.Next,c)
def kW(b:Int×Bool)(c:(List aJ)):Option (Int×(List aJ)):=
  (idx c b.1).bind fun f=>(uT f.Next).bind fun d=>(idx c b.1).bind fun e=>(idx (c.set b.1.toNat ({ e with Next:=d }:aJ)) b.1).bind fun g=>if (g.Next == 0)=true then ((ck (0 ≤ b.1∧b.1 < (c.set b.1.toNat ({ e with Next:=d }:aJ)).length∧IntKind.i64.wrap (b.1+1)=b.1+1)).bind fun i=>nP f ((c.set b.1.toNat ({ e with Next:=d }:aJ)).eraseIdx b.1.toNat)) else (nP f (c.set b.1.toNat ({ e with Next:=d }:aJ)))
def qJ(c:List aJ)(d:ByteArray):Option (Int×(List aJ)):=
  (cM c d).bind fun b=>if (!b.2)=true then ((ck (0 ≤ b.1∧b.1 ≤ c.length∧c.length ≤ 1000000)).bind fun e=>kW b (c.take b.1.toNat ++ (⟨d,0⟩:aJ)::c.drop b.1.toNat)) else (kW b c)
theorem Ad{t:Nat}{O m n o p q s:Value}{P:List aJ}{b:ByteArray}(H:Sep w (Blk t 251 [m,O,n,o,p,q,s]::Row 77 aI O P::Fo) rs){r:Int×(List aJ)}(hm:qJ P b=some r) :
    Calls Tryz.prog 258 [pt t 0,.string b,.func (.func 263) #[] #[]].toArray w (Ret fun v w'=>∃ Q,.int .i64 r.1=v∧Sep w' (Blk t 251 [m,Q,n,o,p,q,s]::Row 77 aI Q r.2::Fo) (rs)):=by
 unfold qJ at hm
 refine ent Tryz.func258 rfl Tryz.ntmps258 rfl rfl fun a E=>sq<|pr 1 E rfl fun a E=>nx<|pr 4 E rfl fun a E=>lb E H 0 rfl rfl rfl rfl rfl rfl rfl U23 rfl fun a E=>pr 1 E rfl fun a E=>have H:=H.frs [0,1] rfl;bd hm fun G J hm=>?_
 refine xk E rfl rfl rfl rfl rfl Qb (gA H J) fun w H a E=>pr 5 E rfl fun a E=>nt<|aV (fun a w=>∃ u y c,Env 80 a [(0,pt t 0),(2,.func (.func 263) #[] #[]),(7,.int .i64 G.1)]∧Sep w (Blk t 251 [m,u,n,o,p,q,s]::Row 77 aI u y::Fo) c∧(∀ r,r ∈ rs→r ∈ c)∧kW G y=some r) ?_ ?_
 ·refine sq<|pr 2 E rfl fun a E=>nt<|wif E hm rfl (fun hm=>?_) fun hm=>?_
  ·refine wp_region_lit<|pr 5 E rfl fun a E=>lb E H 1 rfl rfl rfl rfl rfl rfl rfl U23 rfl fun a E=>pr 2 E rfl fun a E=>sv E rfl rfl rfl (cL E rfl (E.evs rfl) (v:=.agg #[.string b,.int .i64 0]) (by kernel_rfl)) fun a E=>hJ (e:=77) (d:=aI) (cs:=[.string b,.int .i64 0]) (xs:=[(⟨b,0⟩:aJ)]) E H (wn rfl) rfl rfl rfl (E.evs rfl) (by kernel_rfl) rfl rfl (fun ok hr=>(Rows.single (d:=aI) (cs:=[.string b,.int .i64 0]) (x:=(⟨b,0⟩:aJ)) tN)) fun T w a H E=>bk hm fun K hm=>aW E (wn rfl) rfl rfl (cB E rfl rfl (Qc _)) (Tn.insert_a (ix:=1) (iu:=0) H rfl rfl (by decide) K) fun U w H a E=>pr 3 E rfl fun a E=>?_
   obtain ⟨q55,V,rfl⟩:=H.rowform (i:=1) rfl
   exact bA (i:=2) E H (wn rfl) rfl rfl rfl rfl rfl rfl T1 rfl rfl fun w H=>nt<|have H:=H.drop 0;have H:=H.frs [0,1] rfl;X3 ⟨E.to rfl,H,Y0,hm⟩
  ·exact wp_skip<|aC<|have H:=H.frs [0,1] rfl;X3 ⟨E.to rfl,H,Y0,hm⟩
 ·clear E H hm
  rintro a w ⟨u,y,c,E,H,z,hm⟩
  unfold kW at hm
  refine sq<|pr 4 E rfl fun a E=>lb E H 0 rfl rfl rfl rfl rfl rfl rfl U23 rfl fun a E=>pr 1 E rfl fun a E=>bd hm fun I f hm=>?_
  obtain ⟨W,X,A⟩:=H.rowformNE (i:=1) rfl f
  refine sv E rfl rfl rfl (dG (d:=aI) E A rfl rfl rfl rfl U23 oG f) fun a E=>pr 1 E rfl fun a E=>sv E rfl rfl rfl (pO (d:=aI) (i:=1) (k:=1) E H dU A rfl rfl rfl f rfl U2 rfl) fun a E=>pr 1 E rfl fun a E=>nt<|aV (fun a w=>∃ B C g,Env 80 a [(9,.int .i64 I.Next)]∧Sep w (Blk t 251 [m,B,n,o,p,q,s]::Row 77 aI B C::Fo) g∧(∀ r,r ∈ rs→r ∈ g)∧nP I C=some r) ?_ ?_
  ·refine wp_seq<|dw [(0,0),(1,0),(2,0),(3,0),(4,0),(5,0),(6,0),(7,0),(8,1),(9,2),(10,2),(11,2)] [0] [] H (by kernel_rfl) (fun _ _ _ h=>False.elim h.2) fun w W0 hI H=>fn 4 E rfl fun a E=>fb E rfl (wn rfl) rfl rfl rfl rfl m0 rfl U23 rfl fun a E=>fn 3 E rfl fun a E=>bY rfl<|bd hm fun R L hm=>aW E (wn rfl) rfl rfl (bR E rfl rfl rfl (IM _)) (Ce H L)<|?_
   rintro _ w ⟨rfl,H⟩ a E
   refine nt<|?_
   refine ⟨⟨_,_,H,(aB m0 (aL)),(aM)⟩,?_⟩
   refine bO rfl<|bd hm fun S j hm=>?_
   obtain ⟨Y,Z,D⟩:=H.rowformNE (i:=1) rfl j
   refine sv E rfl rfl rfl (dG (d:=aI) E D rfl rfl rfl rfl U23 oG j) fun a E=>nt<|bO rfl<|pr 1 E rfl fun a E=>nt<|bO rfl<|E3 (d:=aI) (i:=1) (k:=1) (z':=({ S with Next:=R }:aJ)) E H dU (wn rfl) rfl D rfl rfl rfl rfl rfl rfl j rfl rfl sz2 fun w H=>nt<|bP<|?_
   clear hI
   refine aC<|sq<|pr 4 E rfl fun a E=>lb E H 0 rfl rfl rfl rfl rfl rfl rfl U23 rfl fun a E=>pr 1 E rfl fun a E=>bd hm fun b0 l hm=>?_
   obtain ⟨b1,b2,F⟩:=H.rowformNE (i:=1) rfl l
   refine sv E rfl rfl rfl (dG (d:=aI) E F rfl rfl rfl rfl U23 oG l) fun a E=>pr 1 E rfl fun a E=>sv E rfl rfl rfl (pO (d:=aI) (i:=1) (k:=1) E H dU F rfl rfl rfl l rfl U2 rfl) fun a E=>pr 1 E rfl fun a E=>nt<|wif E hm rfl (fun hm=>?_) fun hm=>?_
   ·refine wp_region_lit<|pr 5 E rfl fun a E=>lb E H 0 rfl rfl rfl rfl rfl rfl rfl U23 rfl fun a E=>pr 3 E rfl fun a E=>bk hm fun M hm=>aW E (wn rfl) rfl rfl (cB E rfl rfl (Qd _)) (Tn.delete_c (ix:=1) H rfl M) fun b3 w H a E=>pr 3 E rfl fun a E=>?_
    obtain ⟨q49,b4,rfl⟩:=H.rowform (i:=1) rfl
    exact bA (i:=0) E H (wn rfl) rfl rfl rfl rfl rfl rfl T1 rfl rfl fun w H=>nt<|X3 ⟨E.to rfl,H,z,hm⟩
   ·exact wp_skip<|aC<|X3 ⟨E.to rfl,H,z,hm⟩
  ·clear E H hm
   rintro a w ⟨B,C,g,E,H,N,hm⟩
   unfold nP at hm
   refine sq<|pr 2 E rfl fun a E=>nt<|wp_ret<|aY E rfl rfl<|?_
   cases hm
   exact ⟨_,rfl,H.reads N⟩

def sG(d:ByteArray)(c:ByteArray)(e:Bool):Option (ByteArray×Bool):=
  if e=true then (some ((ByteArray.mk #[]),false)) else ((fD d (ByteArray.mk #[47])).bind fun b=>(ck (b.size+(ByteArray.mk #[47]).size ≤ 4611686018427387904)).bind fun f=>(ck ((b ++ (ByteArray.mk #[47])).size+c.size ≤ 4611686018427387904)).bind fun g=>some ((b ++ (ByteArray.mk #[47])) ++ c,true))
def xK(b:ByteArray)(c:ByteArray):Option (ByteArray×Bool):=
  (vA b).bind fun d=>if (!d.2)=true then (sG b c true) else ((uI c).bind fun e=>if (!e)=true then (sG b c true) else (sG b c ((d.1.length:Int) == 6)))
theorem Cp{f g:ByteArray}(H:Sep w (Fo) rs){r:ByteArray×Bool}(hm:xK f g=some r) :
    Calls Tryz.prog 185 [.string f,.string g].toArray w (Ret fun v w'=>.tuple #[.string r.1,.bool r.2]=v∧Sep w' (Fo) (rs)):=by
 unfold xK at hm
 refine ent Tryz.func185 rfl Tryz.ntmps185 rfl rfl fun a E=>sq<|pr 2 E rfl fun a E=>nx<|pr 1 E rfl fun a E=>bd hm fun s p hm=>cF E rfl rfl rfl rfl rfl Ww (Z7 H p)<|?_
 rintro _ w ⟨t,rfl,H⟩ a E
 refine pr 5 E rfl fun a E=>nt<|wp_seq<|aV (fun a w=>∃ k e,Env 30 a [(0,.string f),(1,.string g),(24,.bool k)]∧Sep w (Fo) e∧(∀ r,r ∈ rs→r ∈ e)∧sG f g k=some r) ?_ ?_
 ·refine wp_region_lit<|pr 3 E rfl fun a E=>cs hm (fun b hm=>?_) fun b hm=>?_
  ·exact pk 9 E (kc 15 rfl b) rfl fun a E=>nt<|have H:=H.drop 0;⟨_,_,E.to rfl,H,Y0,hm⟩
  ·refine pk 1 E (kc 15 rfl b) rfl fun a E=>bd hm fun q l hm=>aW E (ws' (d:=15) E rfl rfl rfl rfl b) rfl rfl (cB E rfl rfl (Pe _)) (N7 H l)<|?_
   rintro _ w ⟨rfl,H⟩ a E
   refine pk 3 E (kc 15 rfl b) rfl fun a E=>cs hm (fun c hm=>?_) fun c hm=>?_
   ·exact pk 4 E (kc 20 rfl c) rfl fun a E=>nt<|have H:=H.drop 0;⟨_,_,E.to rfl,H,Y0,hm⟩
   ·exact pk 1 E (kc 20 rfl c) rfl fun a E=>aQ E (ws' (d:=20) E rfl rfl rfl rfl c) rfl rfl (kK (i:=0) E H rfl rfl rfl U33) fun a E=>pk 2 E (kc 20 rfl c) rfl fun a E=>nt<|have H:=H.drop 0;⟨_,_,E.to rfl,H,Y0,hm⟩
 ·clear E H hm
  rintro a w ⟨k,e,E,H,j,hm⟩
  unfold sG at hm
  refine wif E hm rfl (fun hm=>?_) fun hm=>?_
  ·refine sq<|pr 2 E rfl fun a E=>nt<|wp_ret<|aP<|hG E rfl rfl rfl<|?_
   cases hm
   exact ⟨rfl,H.reads j⟩
  ·refine wp_skip<|aC<|sq<|pr 1 E rfl fun a E=>bd hm fun u m hm=>xk E rfl rfl rfl rfl rfl Xa (z7 H m) fun w H a E=>bk hm fun n hm=>sv E rfl rfl rfl (Ol E rfl rfl rfl n) fun a E=>pr 1 E rfl fun a E=>?_
   refine bk hm fun o hm=>sv E rfl rfl rfl (Ol E rfl rfl rfl o) fun a E=>pr 2 E rfl fun a E=>nt<|wp_ret<|hG E rfl rfl rfl<|?_
   cases hm
   exact ⟨rfl,H.reads j⟩

def qK(b:Int)(c:ByteArray)(e:Bool):Option (ByteArray×Bool):=
  if e=true then (some ((ByteArray.mk #[]),false)) else ((ck (-9223372036854775808 ≤ IntKind.i64.wrap (10000+b)∧IntKind.i64.wrap (10000+b) ≤ 9223372036854775807)).bind fun g=>(ck (0 ≤ (1:Int)∧(1:Int) ≤ (ByteArray.mk (Lib.itoa (IntKind.i64.wrap (10000+b))).toArray).size)).bind fun i=>(ck (c.size+((ByteArray.mk (Lib.itoa (IntKind.i64.wrap (10000+b))).toArray).extract (1:Int).toNat (ByteArray.mk (Lib.itoa (IntKind.i64.wrap (10000+b))).toArray).size).size ≤ 4611686018427387904)).bind fun f=>(uI (c ++ ((ByteArray.mk (Lib.itoa (IntKind.i64.wrap (10000+b))).toArray).extract (1:Int).toNat (ByteArray.mk (Lib.itoa (IntKind.i64.wrap (10000+b))).toArray).size))).bind fun d=>if (!d)=true then (some ((ByteArray.mk #[]),false)) else (some (c ++ ((ByteArray.mk (Lib.itoa (IntKind.i64.wrap (10000+b))).toArray).extract (1:Int).toNat (ByteArray.mk (Lib.itoa (IntKind.i64.wrap (10000+b))).toArray).size),true)))
def uA(c:ByteArray)(b:Int):Option (ByteArray×Bool):=
  if (decide (b < 0))=true then (qK b c true) else (qK b c (decide (b > 9999)))
theorem Fw{f:ByteArray}{d:Int}(H:Sep w (Fo) rs)(l:u7 Tryz.prog ∈ rs){r:ByteArray×Bool}(hm:uA f d=some r) :
    Calls Tryz.prog 260 [.string f,.int .i64 d].toArray w (Ret fun v w'=>.tuple #[.string r.1,.bool r.2]=v∧Sep w' (Fo) (rs)):=by
 unfold uA at hm
 refine ent Tryz.func260 rfl Tryz.ntmps260 rfl rfl fun a E=>sq<|pr 2 E rfl fun a E=>nt<|wp_seq<|aV (fun a w=>∃ g e,Env 23 a [(0,.string f),(1,.int .i64 d),(12,.bool g)]∧Sep w (Fo) e∧(∀ r,r ∈ rs→r ∈ e)∧qK d f g=some r) ?_ ?_
 ·refine wp_region_lit<|pr 3 E rfl fun a E=>cs hm (fun b hm=>?_) fun b hm=>?_
  ·exact pk 3 E (kc 9 rfl b) rfl fun a E=>nt<|⟨_,_,E.to rfl,H,Y0,hm⟩
  ·exact pk 3 E (kc 9 rfl b) rfl fun a E=>nt<|⟨_,_,E.to rfl,H,Y0,hm⟩
 ·clear E H hm
  rintro a w ⟨g,e,E,H,c,hm⟩
  unfold qK at hm
  refine wif E hm rfl (fun hm=>?_) fun hm=>?_
  ·refine sq<|pr 2 E rfl fun a E=>nt<|wp_ret<|aP<|hG E rfl rfl rfl<|?_
   cases hm
   exact ⟨rfl,H.reads c⟩
  ·refine wp_skip<|aC<|sq<|pr 3 E rfl fun a E=>bk hm fun m hm=>cF E rfl rfl rfl rfl rfl IL (EF H (c _ l) (IntKind.i64.wrap (10000+d)) m)<|?_
   rintro _ w ⟨rfl,H⟩ a E
   refine bk hm fun i hm=>sv E rfl rfl rfl (P5 E rfl rfl rfl U9 i) fun a E=>bk hm fun j hm=>sv E rfl rfl rfl (Ol E rfl rfl rfl j) fun a E=>pr 1 E rfl fun a E=>nt<|wp_seq<|sq<|pr 1 E rfl fun a E=>?_
   refine bd hm fun n k hm=>xk E rfl rfl rfl rfl rfl Pe (N7 H k) fun w H a E=>pr 1 E rfl fun a E=>nt<|wif E hm rfl (fun hm=>?_) fun hm=>?_
   ·refine sq<|pr 2 E rfl fun a E=>nt<|wp_ret<|aP<|hG E rfl rfl rfl<|?_
    cases hm
    exact ⟨rfl,H.reads c⟩
   ·refine wp_skip<|aC<|sq<|pr 3 E rfl fun a E=>nt<|wp_ret<|hG E rfl rfl rfl<|?_
    cases hm
    exact ⟨rfl,H.reads c⟩

def qL(b:Int×Bool)(c:List aF)(d:ByteArray)(e:bI)(i:Int)(j:ByteArray)(k:Int)(f:List ByteArray)(g:(List aJ)):Option ((List aF)×(List aJ)×Int×ByteArray×ByteArray×Int×(List ByteArray)):=
  (ck (0 ≤ b.1∧b.1 ≤ c.length∧c.length ≤ 1000000)).bind fun l=>some (c.take b.1.toNat ++ (⟨d,e.Data,0,0,e.Owner⟩:aF)::c.drop b.1.toNat,g,i,d,j,k,f)
def nQ(f:List aF)(b:bI)(i:Int)(j:ByteArray)(k:Int)(g:List ByteArray)(l:ByteArray×Bool)(c:ByteArray)(d:(List aJ)):Option ((List aF)×(List aJ)×Int×ByteArray×ByteArray×Int×(List ByteArray)):=
  (kA f c).bind fun e=>if e.2=true then ((fQ 61).bind fun m=>some (f,d,m,(ByteArray.mk #[]),(ByteArray.mk #[]),0,[])) else (if b.Turns=true then ((qJ d l.1).bind fun n=>qL e f c b i j k g n.2) else (qL e f c b i j k g d))
def uB(g:List aF)(i:List aJ)(j:Int)(k:ByteArray)(l:Int)(e:List ByteArray)(b:bI):Option ((List aF)×(List aJ)×Int×ByteArray×ByteArray×Int×(List ByteArray)):=
  (oU b.Path).bind fun c=>if b.Turns=true then ((qI i c.1).bind fun d=>(uL b.Path).bind fun m=>(uA m d.1).bind fun f=>(xK c.1 f.1).bind fun n=>if (!f.2)=true then ((fQ 66).bind fun o=>some (g,d.2,o,(ByteArray.mk #[]),(ByteArray.mk #[]),0,[])) else (nQ g b j k l e c n.1 d.2)) else (nQ g b j k l e c b.Path i)
theorem Fx{j:Nat}{o S f u:Value}{p:List aF}{T:List aJ}{q s:Int}{t:ByteArray}{g:List ByteArray}{b:bI}(H:Sep w (Blk j 251 [o,S,.int .i64 q,u,.string t,.int .i64 s,f]::Row 95 aE o p::Row 77 aI S T::Row 9 kS f g::Fo) rs)(F:u7 Tryz.prog ∈ rs){r:(List aF)×(List aJ)×Int×ByteArray×ByteArray×Int×(List ByteArray)}(hm:uB p T q t s g b=some r) :
    Calls Tryz.prog 194 [pt j 0,.agg (cK b).toArray].toArray w (Ret fun v w'=>∃ U V W,.tuple #[]=v∧Sep w' (Blk j 251 [U,V,.int .i64 r.2.2.1,.string r.2.2.2.1,.string r.2.2.2.2.1,.int .i64 r.2.2.2.2.2.1,W]::Row 95 aE U r.1::Row 77 aI V r.2.1::Row 9 kS W r.2.2.2.2.2.2::Fo) (rs)):=by
 unfold uB at hm
 refine ent Tryz.func194 rfl Tryz.ntmps194 rfl rfl fun a E=>sq<|bS E H (wn rfl) rfl rfl rfl rfl rfl fun n w a H E=>nx<|pr 1 E rfl fun a E=>lb E H 0 rfl rfl rfl rfl rfl rfl rfl U9 rfl fun a E=>pr 1 E rfl fun a E=>nx<|pr 1 E rfl fun a E=>?_
 refine lb E H 0 rfl rfl rfl rfl rfl rfl rfl U9 rfl fun a E=>bd hm fun C G hm=>xk E rfl rfl rfl rfl rfl Jc (r9 H G) fun w H a E=>pr 5 E rfl fun a E=>nt<|aV (fun a w=>∃ y c z k,Env 80 a [(0,pt j 0),(3,pt n 0),(4,.string c),(5,.string C.1)]∧Sep w (Blk j 251 [o,y,.int .i64 q,u,.string t,.int .i64 s,f]::Blk n 85 (cK b)::Row 95 aE o p::Row 77 aI y z::Row 9 kS f g::Fo) k∧(∀ r,r ∈ rs→r ∈ k)∧nQ p b q t s g C c z=some r) ?_ ?_
 ·refine sq<|pr 1 E rfl fun a E=>lb E H 0 rfl rfl rfl rfl rfl rfl rfl U4 rfl fun a E=>nt<|wif E hm rfl (fun hm=>?_) fun hm=>?_
  ·refine sq<|pr 2 E rfl fun a E=>have H:=H.frs [4,3,2,4,4] rfl;bd hm fun X I hm=>cF E rfl rfl rfl rfl rfl Qa (Ac H I)<|?_
   rintro _ w ⟨Y,rfl,H⟩ a E
   refine pr 1 E rfl fun a E=>nx<|pr 1 E rfl fun a E=>lb E H 2 rfl rfl rfl rfl rfl rfl rfl U9 rfl fun a E=>bd hm fun Z J hm=>xk E rfl rfl rfl rfl rfl Py (O5 H J) fun w H a E=>pr 1 E rfl fun a E=>bd hm fun b0 K hm=>xk E rfl rfl rfl rfl rfl IK (Fw H F K) fun w H a E=>?_
   refine pr 5 E rfl fun a E=>nx<|pr 2 E rfl fun a E=>bd hm fun b1 L hm=>xk E rfl rfl rfl rfl rfl Xj (Cp H L) fun w H a E=>pr 4 E rfl fun a E=>nx<|pr 2 E rfl fun a E=>nt<|wif E hm rfl (fun hm=>?_) fun hm=>?_
   ·refine sq<|pr 1 E rfl fun a E=>bd hm fun b2 M hm=>xk E rfl rfl rfl rfl rfl S9 (nJ H M) fun w H a E=>nt<|wp_ret<|aP<|Ek E rfl<|have H:=H.nilRow 9 kS;?_
    refine have H:=H.drs [3,4];have H:=H.frs [0,2,3,3] rfl;?_
    cases hm
    exact X3 ⟨rfl,H.reads Y0⟩
   ·exact wp_skip<|aC<|have H:=H.frs [4,2,4,4,4] rfl;X4 ⟨E.to rfl,H,Y0,hm⟩
  ·exact wp_skip<|aC<|have H:=H.frs [4,4,4,3,4] rfl;X4 ⟨E.to rfl,H,Y0,hm⟩
 ·clear E H hm
  rintro a w ⟨y,c,z,k,E,H,l,hm⟩
  unfold nQ at hm
  refine sq<|pr 2 E rfl fun a E=>have H:=H.frs [4,4,3,4,4] rfl;bd hm fun D N hm=>xk E rfl rfl rfl rfl rfl Pz (q3 H N) fun w H a E=>pr 5 E rfl fun a E=>nt<|wp_seq<|sq<|?_
  refine pr 1 E rfl fun a E=>nt<|wif E hm rfl (fun hm=>?_) fun hm=>?_
  ·refine sq<|pr 1 E rfl fun a E=>bd hm fun b3 O hm=>xk E rfl rfl rfl rfl rfl S9 (nJ H O) fun w H a E=>nt<|wp_ret<|aP<|Ek E rfl<|have H:=H.nilRow 9 kS;?_
   refine have H:=H.drs [3,4];have H:=H.frs [0,3,3,3] rfl;?_
   cases hm
   exact X3 ⟨rfl,H.reads l⟩
  ·refine wp_skip<|aC<|aV (fun a w=>∃ A B m,Env 80 a [(0,pt j 0),(3,pt n 0),(4,.string c),(10,.int .i64 D.1)]∧Sep w (Blk j 251 [o,A,.int .i64 q,u,.string t,.int .i64 s,f]::Blk n 85 (cK b)::Row 95 aE o p::Row 77 aI A B::Row 9 kS f g::Fo) m∧(∀ r,r ∈ rs→r ∈ m)∧qL D p c b q t s g B=some r) ?_ ?_
   ·refine sq<|pr 1 E rfl fun a E=>lb E H 2 rfl rfl rfl rfl rfl rfl rfl U4 rfl fun a E=>nt<|wif E hm rfl (fun hm=>?_) fun hm=>?_
    ·refine wp_region_lit<|pr 2 E rfl fun a E=>have H:=H.frs [4,3,3,4,4] rfl;bd hm fun b4 P hm=>cF E rfl rfl rfl rfl rfl Qa (Ad H P)<|?_
     rintro _ w ⟨b5,rfl,H⟩ a E
     exact nt<|have H:=H.frs [4,2,3,4,4] rfl;X3 ⟨E.to rfl,H,l,hm⟩
    ·exact wp_skip<|aC<|have H:=H.frs [4,4,3,4,4] rfl;X3 ⟨E.to rfl,H,l,hm⟩
   ·clear E H hm
    rintro a w ⟨A,B,m,E,H,Q,hm⟩
    unfold qL at hm
    refine wp_seq<|dw [(0,0),(1,0),(2,0),(3,0),(4,0),(5,0),(6,0),(7,0),(8,0),(9,0),(10,0),(11,0),(12,0),(13,1),(14,1),(15,2),(16,2),(17,2),(18,2)] [0,1] [] H (by kernel_rfl) (fun _ _ _ h=>False.elim h.2) fun w W0 hI H=>fn 5 E rfl fun a E=>fb E rfl (wn rfl) rfl rfl rfl rfl m0 rfl U22 rfl fun a E=>fn 3 E rfl fun a E=>fb E rfl (wn rfl) rfl rfl rfl rfl mm1 rfl U9 rfl fun a E=>fn 1 E rfl fun a E=>fb E rfl (wn rfl) rfl rfl rfl rfl mm1 rfl U2 rfl fun a E=>bT E rfl (wn rfl) rfl rfl (fun w hW=>(cL E rfl (E.evs rfl) (v:=.agg #[.string c,.string b.Data,.int .i64 0,.int .i64 0,.int .i64 b.Owner]) (by kernel_rfl))) fun a E=>?_
    refine bY rfl<|hJ (e:=95) (d:=aE) (cs:=[.string c,.string b.Data,.int .i64 0,.int .i64 0,.int .i64 b.Owner]) (xs:=[(⟨c,b.Data,0,0,b.Owner⟩:aF)]) E H (wn rfl) rfl rfl rfl (E.evs rfl) (by kernel_rfl) rfl rfl (fun ok hr=>(Rows.single (d:=aE) (cs:=[.string c,.string b.Data,.int .i64 0,.int .i64 0,.int .i64 b.Owner]) (x:=(⟨c,b.Data,0,0,b.Owner⟩:aF)) wU)) fun b6 w a H E=>nt<|?_
    refine ⟨⟨_,_,H,(aB mm1 (aB mm2 (aL))),(aM)⟩,?_⟩
    refine bY rfl<|bk hm fun R hm=>aW E (wn rfl) rfl rfl (cB E rfl rfl (IP _)) (insert_a (ix:=3) (iu:=0) H rfl rfl (by decide) R) fun b7 w H a E=>nt<|?_
    refine ⟨⟨_,_,H,(aB mm1 (aB mm2 (aL))),(aM)⟩,?_⟩
    refine bO rfl<|pr 1 E rfl fun a E=>nt<|bO rfl<|pr 1 E rfl fun a E=>nt<|bO rfl<|pr 1 E rfl fun a E=>nt<|?_
    refine bO rfl<|?_
    obtain ⟨q35,b8,rfl⟩:=H.rowform (i:=3) rfl
    refine bA (i:=1) E H (wn rfl) rfl rfl rfl rfl rfl rfl Gp rfl rfl fun w H=>nt<|bP<|?_
    clear hI
    refine aC<|wp_region_lit<|pr 5 E rfl fun a E=>bA (i:=1) E H (wn rfl) rfl rfl rfl rfl rfl rfl sz9 rfl rfl fun w H=>wpList_nil<|rC E rfl<|have H:=H.drs [0,1];?_
    cases hm
    exact X3 ⟨rfl,H.reads Q⟩

def sS(d:List aF)(g:Int)(i:ByteArray)(j:ByteArray)(k:Int)(e:List ByteArray)(f:bI):Option (Int×ByteArray×ByteArray×Int×(List ByteArray)):=
  (gJ d g i j k e f).bind fun b=>if (decide (0 ≤ b.1))=true then ((idx d b.1).bind fun c=>some (b.2.1,b.2.2.1,c.Data,c.Version,b.2.2.2.2.2)) else (some (b.2.1,b.2.2.1,b.2.2.2.1,b.2.2.2.2.1,b.2.2.2.2.2))
theorem Dz{m:Nat}{f g j:Value}{n:List aF}{p q:Int}{s t:ByteArray}{l:List ByteArray}{e:bI}(H:Sep w (Blk m 251 [f,j,.int .i64 p,.string s,.string t,.int .i64 q,g]::Row 95 aE f n::Row 9 kS g l::Fo) rs){r:Int×ByteArray×ByteArray×Int×(List ByteArray)}(hm:sS n p s t q l e=some r) :
    Calls Tryz.prog 199 [pt m 0,.agg (cK e).toArray].toArray w (Ret fun v w'=>∃ u,.tuple #[]=v∧Sep w' (Blk m 251 [f,j,.int .i64 r.1,.string r.2.1,.string r.2.2.1,.int .i64 r.2.2.2.1,u]::Row 95 aE f n::Row 9 kS u r.2.2.2.2::Fo) (rs)):=by
 unfold sS at hm
 refine ent Tryz.func199 rfl Tryz.ntmps199 rfl rfl fun a E=>sq<|bS E H (wn rfl) rfl rfl rfl rfl rfl fun x w a H E=>nx<|pr 1 E rfl fun a E=>sv E rfl rfl rfl (cC (i:=0) (us:=(cK e)) E H rfl rfl rfl rfl U85 rfl jR) fun a E=>have H:=H.frs [0,3,3,3] rfl;bd hm fun y o hm=>cF E rfl rfl rfl rfl rfl Bi (pR H o)<|?_
 rintro _ w ⟨z,rfl,H⟩ a E
 refine pr 1 E rfl fun a E=>nx<|pr 1 E rfl fun a E=>sv E rfl rfl rfl (Es E Fj Fk rfl rfl rfl) fun a E=>nt<|wif E hm rfl (fun hm=>?_) fun hm=>?_
 ·refine dw [(0,0),(1,0),(2,0),(3,0),(4,0),(5,0),(6,0),(7,0),(8,0),(9,0),(10,0),(11,0),(12,0),(13,1),(14,2),(15,2),(16,2),(17,2)] [1] [] H (by kernel_rfl) (fun _ _ _ h=>False.elim h.2) fun w W0 hI H=>fn 3 E rfl fun a E=>bd hm fun A b hm=>?_
  obtain ⟨B,C,c⟩:=H.rowformNE (i:=1) rfl b
  rw [Z2 5 c b] at E
  refine fn 2 E rfl fun a E=>bT E rfl (wn rfl) rfl rfl (fun w hW=>Cz (d:=aE) (k:=1) E cO c b m0 rfl rfl rfl U9 rfl hW) fun a E=>?_
  refine fn 3 E rfl fun a E=>bT E rfl (wn rfl) rfl rfl (fun w hW=>Cz (d:=aE) (k:=2) E cO c b m0 rfl rfl rfl U2 rfl hW) fun a E=>?_
  refine fn 3 E rfl fun a E=>bY rfl<|bA (i:=0) E H (wn rfl) rfl rfl rfl rfl rfl rfl sz9 rfl rfl fun w H=>nt<|?_
  refine ⟨⟨_,_,H,(aB mm1 (aL)),(aM)⟩,?_⟩
  refine bO rfl<|pr 1 E rfl fun a E=>nt<|bO rfl<|pr 1 E rfl fun a E=>nt<|bO rfl<|pr 1 E rfl fun a E=>nt<|?_
  refine bO rfl<|bA (i:=0) E H (wn rfl) rfl rfl rfl rfl rfl rfl sz2 rfl rfl fun w H=>nt<|bP<|?_
  clear hI
  refine rC E rfl<|have H:=H.drop 3;?_
  cases hm
  exact ⟨_,rfl,H.reads Y0⟩
 ·refine wp_skip<|rC E rfl<|have H:=H.drop 3;?_
  cases hm
  exact ⟨_,rfl,H.reads Y0⟩

def qM(d:List aF)(g:Int)(i:ByteArray)(j:ByteArray)(k:Int)(f:List ByteArray)(e:bI):Option ((List aF)×Int×ByteArray×ByteArray×Int×(List ByteArray)):=
  (gJ d g i j k f e).bind fun b=>if (decide (0 ≤ b.1))=true then ((kA d e.Path).bind fun c=>(ck (0 ≤ c.1∧c.1 < d.length∧IntKind.i64.wrap (c.1+1)=c.1+1)).bind fun l=>some (d.eraseIdx c.1.toNat,b.2.1,b.2.2.1,b.2.2.2.1,b.2.2.2.2.1,b.2.2.2.2.2)) else (some (d,b.2.1,b.2.2.1,b.2.2.2.1,b.2.2.2.2.1,b.2.2.2.2.2))
theorem Ae{f:Nat}{l c d:Value}{m:List aF}{n o:Int}{p q:ByteArray}{e:List ByteArray}{b:bI}(H:Sep w (Blk f 251 [l,d,.int .i64 n,.string p,.string q,.int .i64 o,c]::Row 95 aE l m::Row 9 kS c e::Fo) rs){r:(List aF)×Int×ByteArray×ByteArray×Int×(List ByteArray)}(hm:qM m n p q o e b=some r) :
    Calls Tryz.prog 195 [pt f 0,.agg (cK b).toArray].toArray w (Ret fun v w'=>∃ s t,.tuple #[]=v∧Sep w' (Blk f 251 [s,d,.int .i64 r.2.1,.string r.2.2.1,.string r.2.2.2.1,.int .i64 r.2.2.2.2.1,t]::Row 95 aE s r.1::Row 9 kS t r.2.2.2.2.2::Fo) (rs)):=by
 unfold qM at hm
 refine ent Tryz.func195 rfl Tryz.ntmps195 rfl rfl fun a E=>sq<|bS E H (wn rfl) rfl rfl rfl rfl rfl fun u w a H E=>nx<|pr 1 E rfl fun a E=>sv E rfl rfl rfl (cC (i:=0) (us:=(cK b)) E H rfl rfl rfl rfl U85 rfl jR) fun a E=>have H:=H.frs [0,3,3,3] rfl;bd hm fun x g hm=>cF E rfl rfl rfl rfl rfl Bi (pR H g)<|?_
 rintro _ w ⟨y,rfl,H⟩ a E
 refine sv E rfl rfl rfl (Es E Fj Fk rfl rfl rfl) fun a E=>nt<|wif E hm rfl (fun hm=>?_) fun hm=>?_
 ·refine sq<|pr 2 E rfl fun a E=>lb E H 3 rfl rfl rfl rfl rfl rfl rfl U9 rfl fun a E=>bd hm fun z j hm=>xk E rfl rfl rfl rfl rfl Pz (q3 H j) fun w H a E=>pr 5 E rfl fun a E=>nt<|wp_region_lit<|pr 5 E rfl fun a E=>?_
  refine lb E H 0 rfl rfl rfl rfl rfl rfl rfl U22 rfl fun a E=>pr 3 E rfl fun a E=>bk hm fun k hm=>aW E (wn rfl) rfl rfl (cB E rfl rfl (IH _)) (delete_c (ix:=1) H rfl k) fun A w H a E=>pr 3 E rfl fun a E=>?_
  obtain ⟨q23,B,rfl⟩:=H.rowform (i:=1) rfl
  refine bA (i:=0) E H (wn rfl) rfl rfl rfl rfl rfl rfl Gp rfl rfl fun w H=>wpList_nil<|rC E rfl<|have H:=H.drop 3;?_
  cases hm
  exact ⟨_,_,rfl,H.reads Y0⟩
 ·refine wp_skip<|rC E rfl<|have H:=H.drop 3;?_
  cases hm
  exact ⟨_,_,rfl,H.reads Y0⟩

def iQ(x1:aR)(g:(List aF))(i:(List aJ))(b:Int)(c:ByteArray)(d:ByteArray)(e:Int)(f:(List ByteArray)):Option (aR×cP):=
  if (b != 0)=true then (some (x1,(⟨b,c,d,e,f⟩:cP))) else (some ((⟨g,i⟩:aR),(⟨b,c,d,e,f⟩:cP)))
def yX(x1:aR)(b:bI)(m:Bool):Option (aR×cP):=
  if m=true then (some ((⟨[],[]⟩:aR),(⟨1,(ByteArray.mk #[]),(ByteArray.mk #[]),0,[]⟩:cP))) else ((ck (x1.Nodes.length ≤ LIM)).bind fun o=>(ck (x1.Turns.length ≤ LIM)).bind fun p=>if (b.Kind == 1)=true then ((rN x1.Nodes 0 (ByteArray.mk #[]) (ByteArray.mk #[]) 0 [] b).bind fun g=>iQ x1 x1.Nodes x1.Turns g.1 g.2.1 g.2.2.1 g.2.2.2.1 g.2.2.2.2) else (if (b.Kind == 2)=true then ((uB x1.Nodes x1.Turns 0 (ByteArray.mk #[]) 0 [] b).bind fun c=>iQ x1 c.1 c.2.1 c.2.2.1 c.2.2.2.1 c.2.2.2.2.1 c.2.2.2.2.2.1 c.2.2.2.2.2.2) else (if (b.Kind == 3)=true then ((qM x1.Nodes 0 (ByteArray.mk #[]) (ByteArray.mk #[]) 0 [] b).bind fun d=>iQ x1 d.1 x1.Turns d.2.1 d.2.2.1 d.2.2.2.1 d.2.2.2.2.1 d.2.2.2.2.2) else (if (b.Kind == 4)=true then ((uR x1.Nodes x1.Turns 0 (ByteArray.mk #[]) (ByteArray.mk #[]) 0 [] b).bind fun e=>iQ x1 x1.Nodes e.1 e.2.1 e.2.2.1 e.2.2.2.1 e.2.2.2.2.1 e.2.2.2.2.2) else (if (b.Kind == 5)=true then ((rL x1.Nodes 0 (ByteArray.mk #[]) (ByteArray.mk #[]) 0 [] b).bind fun f=>iQ x1 f.1 x1.Turns f.2.1 f.2.2.1 f.2.2.2.1 f.2.2.2.2.1 f.2.2.2.2.2) else (if (b.Kind == 6)=true then ((sR x1.Nodes 0 (ByteArray.mk #[]) (ByteArray.mk #[]) 0 [] b).bind fun i=>iQ x1 x1.Nodes x1.Turns i.1 i.2.1 i.2.2.1 i.2.2.2.1 i.2.2.2.2) else (if (b.Kind == 7)=true then ((sS x1.Nodes 0 (ByteArray.mk #[]) (ByteArray.mk #[]) 0 [] b).bind fun j=>iQ x1 x1.Nodes x1.Turns j.1 j.2.1 j.2.2.1 j.2.2.2.1 j.2.2.2.2) else (if (b.Kind == 8)=true then ((tZ x1.Nodes 0 (ByteArray.mk #[]) (ByteArray.mk #[]) 0 [] b).bind fun k=>iQ x1 x1.Nodes x1.Turns k.1 k.2.1 k.2.2.1 k.2.2.2.1 k.2.2.2.2) else (if (b.Kind == 9)=true then ((rO x1.Nodes [] b).bind fun n=>iQ x1 x1.Nodes x1.Turns 0 (ByteArray.mk #[]) (ByteArray.mk #[]) 0 n) else (if (b.Kind == 10)=true then ((rM x1.Nodes [] b).bind fun l=>iQ x1 l.1 x1.Turns 0 (ByteArray.mk #[]) (ByteArray.mk #[]) 0 l.2) else none))))))))))
def E8(x1:aR)(b:bI):Option (aR×cP):=
  (mZ x1).bind fun c=>if (!c)=true then (yX x1 b true) else ((zM b).bind fun d=>yX x1 b (!d))
theorem Sm{x1:aR}{p q:Value}{c:bI}(H:Sep w (Fo) rs)(u:rSl aE p x1.Nodes ∈ rs)(x:rSl aI q x1.Turns ∈ rs)(c0:u7 Tryz.prog ∈ rs){r:aR×cP}(hm:E8 x1 c=some r) :
    Calls Tryz.prog 138 [.agg #[p,q],.agg (cK c).toArray].toArray w (Ret fun v w'=>∃ c1 c2 c3,.tuple #[.agg #[c1,c2],.agg (Z3 r.2 c3).toArray]=v∧Sep w' (Fo) (rSl aE c1 r.1.Nodes::rSl aI c2 r.1.Turns::rSl kS c3 r.2.Names::rs)):=by
 unfold E8 at hm
 refine ent Tryz.func138 rfl Tryz.ntmps138 rfl rfl fun a E=>sq<|bS E H (wn rfl) rfl rfl rfl rfl rfl fun R w a H E=>bS E H (wn rfl) rfl rfl rfl rfl rfl fun c4 w a H E=>al E H rfl rfl rfl rfl lF fun y w a H E=>al E H rfl rfl rfl rfl DF fun z w a H E=>nx<|sv E rfl rfl rfl (cL E rfl (E.evs rfl) (v:=.agg #[.nilFunc,.func (.func 193) #[] #[],.func (.func 194) #[] #[],.func (.func 195) #[] #[],.func (.func 196) #[] #[],.func (.func 197) #[] #[],.func (.func 198) #[] #[],.func (.func 199) #[] #[],.func (.func 200) #[] #[],.func (.func 201) #[] #[],.func (.func 202) #[] #[]]) (by kernel_rfl)) fun a E=>al E H rfl rfl rfl rfl HQ fun S w a H E=>?_
 refine bA (i:=0) E H (wn rfl) rfl rfl rfl rfl rfl rfl HR rfl rfl fun w H=>nt<|wp_seq<|aV (fun a w=>∃ F s,Env 54 a [(2,pt R 0),(3,pt c4 0),(4,pt y 0),(5,pt z 0),(6,pt S 0),(16,.bool F)]∧Sep w (Blk R 25 [p,q]::Blk c4 85 (cK c)::Blk y 25 [.slice none 0 0,.slice none 0 0]::Blk z 81 Z4::Blk S 249 [.nilFunc,.func (.func 193) #[] #[],.func (.func 194) #[] #[],.func (.func 195) #[] #[],.func (.func 196) #[] #[],.func (.func 197) #[] #[],.func (.func 198) #[] #[],.func (.func 199) #[] #[],.func (.func 200) #[] #[],.func (.func 201) #[] #[],.func (.func 202) #[] #[]]::Fo) s∧(∀ r,r ∈ rs→r ∈ s)∧yX x1 c F=some r) ?_ ?_
 ·refine wp_region_lit<|sv E rfl rfl rfl (cC (i:=4) (us:=[p,q]) E H rfl rfl rfl rfl U25 rfl dJ) fun a E=>bd hm fun c9 W hm=>xk E rfl rfl rfl rfl rfl Pb (y9 H u x W) fun w H a E=>pr 2 E rfl fun a E=>cs hm (fun f hm=>?_) fun f hm=>?_
  ·exact pk 4 E (kc 12 rfl f) rfl fun a E=>nt<|have H:=H.frs [0,1,2,3,4] rfl;⟨_,_,E.to rfl,H,Y0,hm⟩
  ·refine aQ E (ws' (d:=12) E rfl rfl rfl rfl f) rfl rfl (cC (i:=3) (us:=(cK c)) E H rfl rfl rfl rfl U85 rfl jR) fun a E=>bd hm fun d0 X hm=>aW E (ws' (d:=12) E rfl rfl rfl rfl f) rfl rfl (cB E rfl rfl (CK _)) (Ft H X)<|?_
   rintro _ w ⟨rfl,H⟩ a E
   exact pk 2 E (kc 12 rfl f) rfl fun a E=>nt<|have H:=H.frs [0,1,2,3,4] rfl;⟨_,_,E.to rfl,H,Y0,hm⟩
 ·clear E H hm
  rintro a w ⟨F,s,E,H,b,hm⟩
  unfold yX at hm
  refine wif E hm rfl (fun hm=>?_) fun hm=>?_
  ·refine sq<|sv E rfl rfl rfl (cL E rfl (E.evs rfl) (v:=.agg #[.slice none 0 0,.slice none 0 0]) (by kernel_rfl)) fun a E=>sv E rfl rfl rfl (cL E rfl (E.evs rfl) (v:=.agg #[.int .i64 1,.string (ByteArray.mk #[]),.string (ByteArray.mk #[]),.int .i64 0,.slice none 0 0]) (by kernel_rfl)) fun a E=>bA (i:=2) E H (wn rfl) rfl rfl rfl rfl rfl rfl dJ rfl rfl fun w H=>bA (i:=3) E H (wn rfl) rfl rfl rfl rfl rfl rfl C2 rfl rfl fun w H=>nt<|wp_ret<|aP<|uN E rfl (dD (i:=2) (us:=[.slice none 0 0,.slice none 0 0]) H rfl rfl rfl U25 rfl dJ) (dD (i:=3) (us:=[.int .i64 1,.string (ByteArray.mk #[]),.string (ByteArray.mk #[]),.int .i64 0,.slice none 0 0]) H rfl rfl rfl U81 rfl C2)<|?_
   refine have H:=H.nilSl aE;have H:=H.nilSl aI;have H:=H.nilSl kS;have H:=H.drs [0,0,0,0,0];?_
   cases hm
   exact X3 ⟨rfl,H.reads (aA mm2 (aA mm1 (aA m0 (fun r hr=>(t3 (b r hr))))))⟩
  ·refine wp_skip<|aC<|wp_seq<|dw [(0,0),(1,0),(3,0),(4,0),(2,1),(5,1),(6,0),(7,0),(8,1),(9,2)] [0] [] H (by kernel_rfl) (fun _ _ _ h=>False.elim h.2) fun w W0 hI H=>fn 1 E rfl fun a E=>fb E rfl (wn rfl) rfl rfl rfl rfl m0 rfl U22 rfl fun a E=>fn 1 E rfl fun a E=>fb E rfl (wn rfl) rfl rfl rfl rfl m0 rfl U23 rfl fun a E=>bY rfl<|?_
   refine bk hm fun Y hm=>aW E (wn rfl) rfl rfl (cB E rfl rfl (DG _)) (pV H (b _ u) Y) fun d1 w H a E=>nt<|?_
   refine ⟨⟨_,_,H,(aB mm1 (aL)),(aM)⟩,?_⟩
   refine bY rfl<|bk hm fun Z hm=>aW E (wn rfl) rfl rfl (cB E rfl rfl (DH _)) (pW H (b _ x) Z) fun d2 w H a E=>nt<|?_
   refine ⟨⟨_,_,H,(aB mm2 (aL)),(aM)⟩,?_⟩
   obtain ⟨q22,T,rfl⟩:=H.rowform (i:=1) rfl
   obtain ⟨q24,U,rfl⟩:=H.rowform (i:=0) rfl
   refine bT E rfl (wn rfl) rfl rfl (fun w hW=>(cL E rfl (E.evs rfl) (v:=.agg #[(.slice q22 x1.Nodes.length T),(.slice q24 x1.Turns.length U)]) (by kernel_rfl))) fun a E=>?_
   refine bT E rfl (wn rfl) rfl rfl (fun w hW=>(cL E rfl (E.evs rfl) (v:=.agg #[(.slice q22 x1.Nodes.length T),(.slice q24 x1.Turns.length U),.int .i64 0,.string (ByteArray.mk #[]),.string (ByteArray.mk #[]),.int .i64 0,.slice none 0 0]) (by kernel_rfl))) fun a E=>?_
   refine bY rfl<|bS E H (wn rfl) rfl rfl rfl rfl rfl fun V w a H E=>nt<|?_
   refine ⟨⟨_,_,H,(aB mm3 (aL)),(aM)⟩,?_⟩
   refine bO rfl<|pr 1 E rfl fun a E=>nt<|bP<|?_
   clear hI
   refine aC<|wp_seq<|aV (fun a w=>∃ A B n C D g k l m o t,Env 54 a [(2,pt R 0),(4,pt y 0),(5,pt z 0),(7,pt V 0)]∧Sep w (Blk R 25 [p,q]::Blk y 25 [.slice none 0 0,.slice none 0 0]::Blk z 81 Z4::Blk V 251 [A,B,.int .i64 g,.string k,.string l,.int .i64 m,n]::Row 95 aE A C::Row 77 aI B D::Row 9 kS n o::Fo) t∧(∀ r,r ∈ rs→r ∈ t)∧iQ x1 C D g k l m o=some r) ?_ ?_
   ·refine dw [(0,0),(1,0),(2,0),(3,0),(4,0),(5,0),(6,1)] [4,7] [] H (by kernel_rfl) (fun _ _ _ h=>False.elim h.2) fun w W0 hI H=>fn 1 E rfl fun a E=>fb E rfl (wn rfl) rfl rfl rfl rfl m0 rfl U3 rfl fun a E=>cs hm (fun G hm=>?_) fun G hm=>?_
    ·refine bT E rfl (wn rfl) rfl rfl (fun w hW=>qU (j:=1) E rfl rfl rfl G rfl N3 D6) fun a E=>?_
     refine fb E rfl (wn rfl) rfl rfl rfl rfl mm1 rfl N4 rfl fun a E=>fn 1 E rfl fun a E=>fbn E (cK c) rfl (wn rfl) rfl rfl rfl rfl m0 rfl U85 rfl jR fun a E=>bY rfl<|have H:=H.nilRow 9 kS;have H:=H.frs [8,8,8,8,8,7,6,8,8] rfl;bd hm fun d3 b0 hm=>aW E (wn rfl) rfl rfl (bR E rfl rfl rfl (IQ _)) (Ca H b0)<|?_
     rintro _ w ⟨d4,rfl,H⟩ a E
     refine nt<|?_
     refine ⟨⟨_,_,H,(aB mm5 (aB (t2 mm6) (aL))),(aM)⟩,?_⟩
     refine bP<|?_
     clear hI
     exact aC<|have H:=H.drs [5,7];have H:=H.frs [2,3,3,3,6,6,6] rfl;X11 ⟨E.to rfl,H,b,hm⟩
    ·refine cs hm (fun I hm=>?_) fun I hm=>?_
     ·refine bT E rfl (wn rfl) rfl rfl (fun w hW=>qU (j:=2) E rfl rfl rfl I rfl N3 D6) fun a E=>?_
      refine fb E rfl (wn rfl) rfl rfl rfl rfl mm1 rfl N4 rfl fun a E=>fn 1 E rfl fun a E=>fbn E (cK c) rfl (wn rfl) rfl rfl rfl rfl m0 rfl U85 rfl jR fun a E=>bY rfl<|have H:=H.nilRow 9 kS;have H:=H.frs [8,8,8,8,8,5,7,8,8] rfl;bd hm fun d5 b1 hm=>aW E (wn rfl) rfl rfl (bR E rfl rfl rfl (II _)) (Fx H (b _ c0) b1)<|?_
      rintro _ w ⟨d6,d7,d8,rfl,H⟩ a E
      refine nt<|?_
      refine ⟨⟨_,_,H,(aB mm5 (aB (t2 mm6) (aL))),(aM)⟩,?_⟩
      refine bP<|?_
      clear hI
      exact aC<|have H:=H.drs [5,7];have H:=H.frs [3,3,3,3,6,6,6] rfl;X11 ⟨E.to rfl,H,b,hm⟩
     ·refine cs hm (fun J hm=>?_) fun J hm=>?_
      ·refine bT E rfl (wn rfl) rfl rfl (fun w hW=>qU (j:=3) E rfl rfl rfl J rfl N3 D6) fun a E=>?_
       refine fb E rfl (wn rfl) rfl rfl rfl rfl mm1 rfl N4 rfl fun a E=>fn 1 E rfl fun a E=>fbn E (cK c) rfl (wn rfl) rfl rfl rfl rfl m0 rfl U85 rfl jR fun a E=>bY rfl<|have H:=H.nilRow 9 kS;have H:=H.frs [8,8,8,8,8,7,6,8,8] rfl;bd hm fun d9 b2 hm=>aW E (wn rfl) rfl rfl (bR E rfl rfl rfl (IG _)) (Ae H b2)<|?_
       rintro _ w ⟨e0,e1,rfl,H⟩ a E
       refine nt<|?_
       refine ⟨⟨_,_,H,(aB mm5 (aB (t2 mm6) (aL))),(aM)⟩,?_⟩
       refine bP<|?_
       clear hI
       exact aC<|have H:=H.drs [5,7];have H:=H.frs [2,3,3,3,6,6,6] rfl;X11 ⟨E.to rfl,H,b,hm⟩
      ·refine cs hm (fun K hm=>?_) fun K hm=>?_
       ·refine bT E rfl (wn rfl) rfl rfl (fun w hW=>qU (j:=4) E rfl rfl rfl K rfl N3 D6) fun a E=>?_
        refine fb E rfl (wn rfl) rfl rfl rfl rfl mm1 rfl N4 rfl fun a E=>fn 1 E rfl fun a E=>fbn E (cK c) rfl (wn rfl) rfl rfl rfl rfl m0 rfl U85 rfl jR fun a E=>bY rfl<|have H:=H.nilRow 9 kS;have H:=H.frs [8,8,8,8,8,5,7,8,8] rfl;bd hm fun e2 b3 hm=>aW E (wn rfl) rfl rfl (bR E rfl rfl rfl (IE _)) (Bz H b3)<|?_
        rintro _ w ⟨e3,e4,rfl,H⟩ a E
        refine nt<|?_
        refine ⟨⟨_,_,H,(aB mm5 (aB (t2 mm6) (aL))),(aM)⟩,?_⟩
        refine bP<|?_
        clear hI
        exact aC<|have H:=H.drs [5,7];have H:=H.frs [3,3,3,3,6,6,6] rfl;X11 ⟨E.to rfl,H,b,hm⟩
       ·refine cs hm (fun L hm=>?_) fun L hm=>?_
        ·refine bT E rfl (wn rfl) rfl rfl (fun w hW=>qU (j:=5) E rfl rfl rfl L rfl N3 D6) fun a E=>?_
         refine fb E rfl (wn rfl) rfl rfl rfl rfl mm1 rfl N4 rfl fun a E=>fn 1 E rfl fun a E=>fbn E (cK c) rfl (wn rfl) rfl rfl rfl rfl m0 rfl U85 rfl jR fun a E=>bY rfl<|have H:=H.nilRow 9 kS;have H:=H.frs [8,8,8,8,8,7,6,8,8] rfl;bd hm fun e5 b4 hm=>aW E (wn rfl) rfl rfl (bR E rfl rfl rfl (ID _)) (Bw H b4)<|?_
         rintro _ w ⟨e6,rfl,H⟩ a E
         refine nt<|?_
         refine ⟨⟨_,_,H,(aB mm5 (aB (t2 mm6) (aL))),(aM)⟩,?_⟩
         refine bP<|?_
         clear hI
         exact aC<|have H:=H.drs [5,7];have H:=H.frs [2,3,3,3,6,6,6] rfl;X11 ⟨E.to rfl,H,b,hm⟩
        ·refine cs hm (fun M hm=>?_) fun M hm=>?_
         ·refine bT E rfl (wn rfl) rfl rfl (fun w hW=>qU (j:=6) E rfl rfl rfl M rfl N3 D6) fun a E=>?_
          refine fb E rfl (wn rfl) rfl rfl rfl rfl mm1 rfl N4 rfl fun a E=>fn 1 E rfl fun a E=>fbn E (cK c) rfl (wn rfl) rfl rfl rfl rfl m0 rfl U85 rfl jR fun a E=>bY rfl<|have H:=H.nilRow 9 kS;have H:=H.frs [8,8,8,8,8,7,6,8,8] rfl;bd hm fun e7 b5 hm=>aW E (wn rfl) rfl rfl (bR E rfl rfl rfl (IC _)) (Dy H b5)<|?_
          rintro _ w ⟨e8,rfl,H⟩ a E
          refine nt<|?_
          refine ⟨⟨_,_,H,(aB mm5 (aB (t2 mm6) (aL))),(aM)⟩,?_⟩
          refine bP<|?_
          clear hI
          exact aC<|have H:=H.drs [5,7];have H:=H.frs [2,3,3,3,6,6,6] rfl;X11 ⟨E.to rfl,H,b,hm⟩
         ·refine cs hm (fun N hm=>?_) fun N hm=>?_
          ·refine bT E rfl (wn rfl) rfl rfl (fun w hW=>qU (j:=7) E rfl rfl rfl N rfl N3 D6) fun a E=>?_
           refine fb E rfl (wn rfl) rfl rfl rfl rfl mm1 rfl N4 rfl fun a E=>fn 1 E rfl fun a E=>fbn E (cK c) rfl (wn rfl) rfl rfl rfl rfl m0 rfl U85 rfl jR fun a E=>bY rfl<|have H:=H.nilRow 9 kS;have H:=H.frs [8,8,8,8,8,7,6,8,8] rfl;bd hm fun e9 b6 hm=>aW E (wn rfl) rfl rfl (bR E rfl rfl rfl (IB _)) (Dz H b6)<|?_
           rintro _ w ⟨f0,rfl,H⟩ a E
           refine nt<|?_
           refine ⟨⟨_,_,H,(aB mm5 (aB (t2 mm6) (aL))),(aM)⟩,?_⟩
           refine bP<|?_
           clear hI
           exact aC<|have H:=H.drs [5,7];have H:=H.frs [2,3,3,3,6,6,6] rfl;X11 ⟨E.to rfl,H,b,hm⟩
          ·refine cs hm (fun O hm=>?_) fun O hm=>?_
           ·refine bT E rfl (wn rfl) rfl rfl (fun w hW=>qU (j:=8) E rfl rfl rfl O rfl N3 D6) fun a E=>?_
            refine fb E rfl (wn rfl) rfl rfl rfl rfl mm1 rfl N4 rfl fun a E=>fn 1 E rfl fun a E=>fbn E (cK c) rfl (wn rfl) rfl rfl rfl rfl m0 rfl U85 rfl jR fun a E=>bY rfl<|have H:=H.nilRow 9 kS;have H:=H.frs [8,8,8,8,8,7,6,8,8] rfl;bd hm fun f1 b7 hm=>aW E (wn rfl) rfl rfl (bR E rfl rfl rfl (HY _)) (Fv H b7)<|?_
            rintro _ w ⟨f2,rfl,H⟩ a E
            refine nt<|?_
            refine ⟨⟨_,_,H,(aB mm5 (aB (t2 mm6) (aL))),(aM)⟩,?_⟩
            refine bP<|?_
            clear hI
            exact aC<|have H:=H.drs [5,7];have H:=H.frs [2,3,3,3,6,6,6] rfl;X11 ⟨E.to rfl,H,b,hm⟩
           ·refine cs hm (fun P hm=>?_) fun P hm=>?_
            ·refine bT E rfl (wn rfl) rfl rfl (fun w hW=>qU (j:=9) E rfl rfl rfl P rfl N3 D6) fun a E=>?_
             refine fb E rfl (wn rfl) rfl rfl rfl rfl mm1 rfl N4 rfl fun a E=>fn 1 E rfl fun a E=>fbn E (cK c) rfl (wn rfl) rfl rfl rfl rfl m0 rfl U85 rfl jR fun a E=>bY rfl<|have H:=H.nilRow 9 kS;have H:=H.frs [8,8,8,8,8,7,6,8,8] rfl;bd hm fun f3 b8 hm=>aW E (wn rfl) rfl rfl (bR E rfl rfl rfl (HX _)) (Cc H b8)<|?_
             rintro _ w ⟨f4,rfl,H⟩ a E
             refine nt<|?_
             refine ⟨⟨_,_,H,(aB mm5 (aB (t2 mm6) (aL))),(aM)⟩,?_⟩
             refine bP<|?_
             clear hI
             exact aC<|have H:=H.drs [5,7];have H:=H.frs [2,3,3,3,6,6,6] rfl;X11 ⟨E.to rfl,H,b,hm⟩
            ·refine cs hm (fun Q hm=>?_) fun Q hm=>?_
             ·refine bT E rfl (wn rfl) rfl rfl (fun w hW=>qU (j:=10) E rfl rfl rfl Q rfl N3 D6) fun a E=>?_
              refine fb E rfl (wn rfl) rfl rfl rfl rfl mm1 rfl N4 rfl fun a E=>fn 1 E rfl fun a E=>fbn E (cK c) rfl (wn rfl) rfl rfl rfl rfl m0 rfl U85 rfl jR fun a E=>bY rfl<|have H:=H.nilRow 9 kS;have H:=H.frs [8,8,8,8,8,7,6,8,8] rfl;bd hm fun f5 b9 hm=>aW E (wn rfl) rfl rfl (bR E rfl rfl rfl (HS _)) (Bx H b9)<|?_
              rintro _ w ⟨f6,f7,rfl,H⟩ a E
              refine nt<|?_
              refine ⟨⟨_,_,H,(aB mm5 (aB (t2 mm6) (aL))),(aM)⟩,?_⟩
              refine bP<|?_
              clear hI
              exact aC<|have H:=H.drs [5,7];have H:=H.frs [2,3,3,3,6,6,6] rfl;X11 ⟨E.to rfl,H,b,hm⟩
             ·exact (bU hm rfl).elim
   ·clear E H hm
    rintro a w ⟨A,B,n,C,D,g,k,l,m,o,t,E,H,e,hm⟩
    unfold iQ at hm
    refine sq<|pr 4 E rfl fun a E=>lb E H 3 rfl rfl rfl rfl rfl rfl rfl U41 rfl fun a E=>pr 1 E rfl fun a E=>nt<|wif E hm rfl (fun hm=>?_) fun hm=>?_
    ·refine wp_seq<|dw [(0,0),(1,0),(2,0),(3,0),(4,0),(5,1),(6,2)] [0,3] [] H (by kernel_rfl) (fun _ _ _ h=>False.elim h.2) fun w W0 hI H=>fbn E [p,q] rfl (wn rfl) rfl rfl rfl rfl m0 rfl U25 rfl dJ fun a E=>fn 3 E rfl fun a E=>fbn E [.int .i64 g,.string k,.string l,.int .i64 m,n] rfl (wn rfl) rfl rfl rfl rfl mm1 rfl U81 rfl C2 fun a E=>bY rfl<|bA (i:=1) E H (wn rfl) rfl rfl rfl rfl rfl rfl dJ rfl (jQ H (e _ u) (e _ x)) fun w H=>nt<|?_
     refine ⟨⟨_,_,H,(aB m0 (aB mm3 (aL))),(aM)⟩,?_⟩
     refine bO rfl<|?_
     obtain ⟨q39,c5,rfl⟩:=H.rowform (i:=6) rfl
     refine bA (i:=2) E H (wn rfl) rfl rfl rfl rfl rfl rfl C2 rfl rfl fun w H=>nt<|bP<|?_
     clear hI
     refine aC<|wp_ret<|aP<|uN E rfl (dD (i:=1) (us:=[p,q]) H rfl rfl rfl U25 rfl dJ) (dD (i:=2) (us:=[.int .i64 g,.string k,.string l,.int .i64 m,(.slice q39 o.length c5)]) H rfl rfl rfl U81 rfl C2)<|have H:=H.thaw (i:=6) rfl;have H:=H.drs [0,0,0,0,0,0];?_
     cases hm
     exact X3 ⟨rfl,H.reads (aA (t1 (e _ u)) (aA (t1 (e _ x)) (aA m0 (fun r hr=>(t1 (e r hr))))))⟩
    ·refine wp_skip<|aC<|wp_seq<|dw [(0,0),(1,0),(2,0),(3,0),(4,0),(5,0),(6,0),(7,0),(8,1),(9,2)] [3] [] H (by kernel_rfl) (fun _ _ _ h=>False.elim h.2) fun w W0 hI H=>fn 3 E rfl fun a E=>fbn E [A,B] rfl (wn rfl) rfl rfl rfl rfl m0 rfl U25 rfl dJ fun a E=>fn 3 E rfl fun a E=>fbn E [.int .i64 g,.string k,.string l,.int .i64 m,n] rfl (wn rfl) rfl rfl rfl rfl m0 rfl U81 rfl C2 fun a E=>bY rfl<|?_
     obtain ⟨q41,c6,rfl⟩:=H.rowform (i:=4) rfl
     obtain ⟨q43,c7,rfl⟩:=H.rowform (i:=5) rfl
     refine bA (i:=1) E H (wn rfl) rfl rfl rfl rfl rfl rfl dJ rfl rfl fun w H=>nt<|?_
     refine ⟨⟨_,_,H,(aB mm3 (aL)),(aM)⟩,?_⟩
     refine bO rfl<|?_
     obtain ⟨q45,c8,rfl⟩:=H.rowform (i:=6) rfl
     refine bA (i:=2) E H (wn rfl) rfl rfl rfl rfl rfl rfl C2 rfl rfl fun w H=>nt<|bP<|?_
     clear hI
     refine aC<|wp_ret<|uN E rfl (dD (i:=1) (us:=[(.slice q41 C.length c6),(.slice q43 D.length c7)]) H rfl rfl rfl U25 rfl dJ) (dD (i:=2) (us:=[.int .i64 g,.string k,.string l,.int .i64 m,(.slice q45 o.length c8)]) H rfl rfl rfl U81 rfl C2)<|have H:=H.thaw (i:=4) rfl;have H:=H.thaw (i:=4) rfl;have H:=H.thaw (i:=4) rfl;have H:=H.drs [0,0,0,0];?_
     cases hm
     exact X3 ⟨rfl,H.reads (aA mm2 (aA mm1 (aA m0 (fun r hr=>(t3 (e r hr))))))⟩

def sH(g:List cE)(x1:aR):Nat→(List cP)→Int→(List aF)→(List aJ)→Option (aR×(List cP)×Int×Int)
  | 0,_,_,_,_=>none
  | j+1,d,c,e,f=>
    if (decide (c < (g.length:Int)))=true then ((idx g c).bind fun i=>(E8 (⟨e,f⟩:aR) i.Part).bind fun b=>if (b.2.Err != 0)=true then (some (x1,[],b.2.Err,c)) else ((ck (d.length+([b.2]:List cP).length ≤ LIM)).bind fun k=>sH g x1 j (d ++ ([b.2]:List cP)) (IntKind.i64.wrap (c+1)) b.1.Nodes b.1.Turns)) else (some ((⟨e,f⟩:aR),d,0,0))
def xL(x1:aR)(b:List cE):Option (aR×(List cP)×Int×Int):=
  sH b x1 (((b.length:Int) - 0:Int).toNat+1) [] 0 x1.Nodes x1.Turns
theorem O6{x1:aR}{q s I:Value}{u:List cE}(H:Sep w (Fo) rs)(m:rSl aE q x1.Nodes ∈ rs)(n:rSl aI s x1.Turns ∈ rs)(B:rSl cA I u ∈ rs)(M:u7 Tryz.prog ∈ rs){r:aR×(List cP)×Int×Int}(hm:xL x1 u=some r) :
    Calls Tryz.prog 72 [.agg #[q,s],I].toArray w (Ret fun v w'=>∃ N O P,.tuple #[.agg #[N,O],P,.int .i64 r.2.2.1,.int .i64 r.2.2.2]=v∧Sep w' (Row 81 bF P r.2.1::Fo) (rSl aE N r.1.Nodes::rSl aI O r.1.Turns::rs)):=by
 unfold xL at hm
 refine ent Tryz.func72 rfl Tryz.ntmps72 rfl rfl fun a E=>sq<|bS E H (wn rfl) rfl rfl rfl rfl rfl fun C w a H E=>al E H rfl rfl rfl rfl lF fun D w a H E=>pr 3 E rfl fun a E=>nx<|sv E rfl rfl rfl (cC (i:=1) (us:=[q,s]) E H rfl rfl rfl rfl U25 rfl dJ) fun a E=>al E H rfl rfl rfl rfl lF fun F w a H E=>bA (i:=0) E H (wn rfl) rfl rfl rfl rfl rfl rfl dJ rfl (jQ H m n) fun w H=>?_
 refine nx<|pr 1 E rfl fun a E=>nt<|wp_seq<|sq<|pr 1 E rfl fun a E=>sv E rfl rfl rfl (cV E H rfl rfl B U26) fun a E=>pr 1 E rfl fun a E=>nt<|?_
 refine wp_block<|bX (fun t a w=>∃ y g j z A o p f,Env 44 a [(2,pt C 0),(4,pt D 0),(8,pt F 0),(9,y),(15,I),(16,.int .i64 (u.length:Int)),(17,.int .i64 A)]∧Sep w (Blk C 25 [q,s]::Blk D 25 [.slice none 0 0,.slice none 0 0]::Blk F 25 [g,j]::Row 81 bF y z::Fo) f∧(∀ r,r ∈ rs→r ∈ f)∧rSl aE g o ∈ f∧rSl aI j p ∈ f∧sH u x1 t z A o p=some r) (((u.length:Int) - 0:Int).toNat+1) ?_ ?_
 ·exact have H:=H.nilRow 81 bF;have H:=H.frs [0,1,2,3] rfl;X8 ⟨E.to rfl,H,Y0,m,n,hm⟩
 ·clear E H hm
  rintro t a w ⟨y,g,j,z,A,o,p,f,E,H,c,k,l,hm⟩
  cases t with
  | zero=>exact (bU hm rfl).elim
  | succ t=>
   unfold sH at hm
   refine sq<|pr 1 E rfl fun a E=>nt<|wp_seq<|wif E hm rfl (fun hm=>?_) fun hm=>?_
   ·refine wp_skip<|aC<|wp_seq<|wp_block<|sq<|pr 1 E rfl fun a E=>bd hm fun Q J hm=>dR E H (wn rfl) rfl rfl rfl rfl rfl (c _ B) U26 F4 J fun q26 a H E=>ldf wB E H rfl rfl rfl rfl rfl m0 U87 rfl F4 fun a E=>?_
    refine al E H rfl rfl rfl rfl Pj fun U w a H E=>pr 1 E rfl fun a E=>bA (i:=0) E H (wn rfl) rfl rfl rfl rfl rfl rfl F4 rfl rfl fun w H=>nx<|sv E rfl rfl rfl (cC (i:=3) (us:=[g,j]) E H rfl rfl rfl rfl U25 rfl dJ) fun a E=>pr 1 E rfl fun a E=>sv E rfl rfl rfl (cC (i:=0) (us:=(cK Q.Part)) E H rfl rfl rfl rfl U85 rfl jR) fun a E=>bd hm fun b K hm=>cF E rfl rfl rfl rfl rfl HP (Sm (x1:=(⟨o,p⟩:aR)) H (t1 k) (t1 l) (t1 (c _ M)) K)<|?_
    rintro _ w ⟨R,S,T,rfl,H⟩ a E
    refine pr 3 E rfl fun a E=>al E H rfl rfl rfl rfl lF fun V w a H E=>al E H rfl rfl rfl rfl DF fun W w a H E=>bA (i:=1) E H (wn rfl) rfl rfl rfl rfl rfl rfl dJ rfl (jQ H m0 mm1) fun w H=>bA (i:=0) E H (wn rfl) rfl rfl rfl rfl rfl rfl C2 rfl (Gk H mm2) fun w H=>nt<|wp_seq<|sq<|pr 1 E rfl fun a E=>?_
    refine lb E H 0 rfl rfl rfl rfl rfl rfl rfl U41 rfl fun a E=>pr 1 E rfl fun a E=>nt<|wif E hm rfl (fun hm=>?_) fun hm=>?_
    ·refine wp_seq<|dw [(0,0),(1,0),(2,0),(3,0),(4,1),(5,1),(6,1),(7,2)] [0,3] [] H (by kernel_rfl) (fun _ _ _ h=>False.elim h.2) fun w W0 hI H=>fbn E [q,s] rfl (wn rfl) rfl rfl rfl rfl mm1 rfl U25 rfl dJ fun a E=>fn 1 E rfl fun a E=>fb E rfl (wn rfl) rfl rfl rfl rfl m0 rfl U41 rfl fun a E=>fn 1 E rfl fun a E=>bY rfl<|bA (i:=4) E H (wn rfl) rfl rfl rfl rfl rfl rfl dJ rfl (jQ H (t4 (c _ m)) (t4 (c _ n))) fun w H=>nt<|?_
     refine ⟨⟨_,_,H,(aB m0 (aB mm3 (aL))),(aM)⟩,?_⟩
     refine bY rfl<|pr 1 E rfl fun a E=>nt<|?_
     refine ⟨⟨_,_,H,(aB m0 (aB mm3 (aL))),(aM)⟩,?_⟩
     refine bY rfl<|pr 1 E rfl fun a E=>nt<|?_
     refine ⟨⟨_,_,H,(aB m0 (aB mm3 (aL))),(aM)⟩,?_⟩
     refine bO rfl<|pr 1 E rfl fun a E=>nt<|bP<|?_
     clear hI
     refine aC<|wp_ret<|aP<|bW<|aP<|aP<|bW<|aP<|Wv E rfl (dD (i:=4) (us:=[q,s]) H rfl rfl rfl U25 rfl dJ) (rvT rfl) (rvT rfl) (rvT rfl)<|?_
     refine have H:=H.nilRow 81 bF;have H:=H.drs [1,1,1,1,1,1,1];?_
     cases hm
     exact X3 ⟨rfl,H.reads (aA (t4 (c _ m)) (aA (t4 (c _ n)) (fun r hr=>(t4 (c r hr)))))⟩
    ·refine wp_skip<|aC<|sq<|sv E rfl rfl rfl (cC (i:=1) (us:=[R,S]) E H rfl rfl rfl rfl U25 rfl dJ) fun a E=>bA (i:=5) E H (wn rfl) rfl rfl rfl rfl rfl rfl dJ rfl (jQ H m0 mm1) fun w H=>nt<|wp_region_lit<|pr 1 E rfl fun a E=>sv E rfl rfl rfl (cC (i:=0) (us:=(Z3 b.2 T)) E H rfl rfl rfl rfl U81 rfl C2) fun a E=>?_
     obtain ⟨q35,G,rfl⟩:=H.slform mm2
     refine sM (e:=81) (d:=bF) (cs:=[.int .i64 b.2.Err,.string b.2.Path,.string b.2.Data,.int .i64 b.2.Version,(.slice q35 b.2.Names.length G)]) (xs:=[b.2]) E H (wn rfl) rfl rfl rfl (E.evs rfl) (by kernel_rfl) rfl (fun ok hr=>(Rows.single (d:=bF) (cs:=[.int .i64 b.2.Err,.string b.2.Path,.string b.2.Data,.int .i64 b.2.Version,(.slice q35 b.2.Names.length G)]) (x:=b.2) (Fa (hr _ mm2)))) fun X w a H E=>bk hm fun L hm=>eK (i:=6) E H (wn rfl) rfl rfl rfl rfl rfl rfl (lB m0) U40 IU rfl L rfl fun Y w a H E=>pr 1 E rfl fun a E=>wpList_nil<|bZ<|aC<|wp_region_lit<|pr 2 E rfl fun a E=>?_
     exact nt<|have H:=H.drs [0,0,0];⟨t,Nat.lt_succ_self t,X8 ⟨E.to rfl,H,(Y5 c),mm1,mm2,hm⟩⟩
   ·refine wp_exit<|bG<|bG<|dN<|aC<|sq<|sv E rfl rfl rfl (cC (i:=2) (us:=[g,j]) E H rfl rfl rfl rfl U25 rfl dJ) fun a E=>pr 1 E rfl fun a E=>bA (i:=1) E H (wn rfl) rfl rfl rfl rfl rfl rfl dJ rfl (jQ H k l) fun w H=>?_
    refine pr 3 E rfl fun a E=>nt<|wp_ret<|Wv E rfl (dD (i:=1) (us:=[g,j]) H rfl rfl rfl U25 rfl dJ) (rvT rfl) (rvT rfl) (rvT rfl)<|have H:=H.drs [0,0,0];?_
    cases hm
    exact X3 ⟨rfl,H.reads (aA k (aA l (c)))⟩

def uU(x1:Int):Option Bool:=
  some (x1 != x1)
theorem G5{x1:Int}(H:Sep w (Fo) rs){r:Bool}(hm:uU x1=some r) :
    Calls Tryz.prog 284 [.int .i64 x1].toArray w (Ret fun v w'=>.bool r=v∧Sep w' (Fo) (rs)):=by
 unfold uU at hm
 refine ent Tryz.func284 rfl Tryz.ntmps284 rfl rfl fun a E=>sq<|pr 1 E rfl fun a E=>nx<|pr 4 E rfl fun a E=>nt<|wp_ret<|aY E rfl rfl<|?_
 cases hm
 exact ⟨rfl,H.reads Y0⟩

def xU(x1:Int)(b:Int):Option Int:=
  (uU x1).bind fun d=>(uU b).bind fun c=>if d=true then (if c=true then (some (0)) else (some ((-1)))) else (if c=true then (some (1)) else (if (decide (x1 < b))=true then (some ((-1))) else (if (decide (x1 > b))=true then (some (1)) else (some (0)))))
theorem W5{x1 b:Int}(H:Sep w (Fo) rs){r:Int}(hm:xU x1 b=some r) :
    Calls Tryz.prog 232 [.int .i64 x1,.int .i64 b].toArray w (Ret fun v w'=>.int .i64 r=v∧Sep w' (Fo) (rs)):=by
 unfold xU at hm
 refine ent Tryz.func232 rfl Tryz.ntmps232 rfl rfl fun a E=>sq<|pr 1 E rfl fun a E=>nx<|pr 1 E rfl fun a E=>bd hm fun e c hm=>xk E rfl rfl rfl rfl rfl Xc (G5 H c) fun w H a E=>pr 1 E rfl fun a E=>nx<|?_
 refine pr 1 E rfl fun a E=>bd hm fun f d hm=>xk E rfl rfl rfl rfl rfl Xc (G5 H d) fun w H a E=>pr 1 E rfl fun a E=>nt<|wp_seq<|sq<|pr 1 E rfl fun a E=>nt<|wif E hm rfl (fun hm=>?_) fun hm=>?_
 ·refine wp_seq<|sq<|pr 1 E rfl fun a E=>nt<|wif E hm rfl (fun hm=>?_) fun hm=>?_
  ·refine sq<|pr 1 E rfl fun a E=>nt<|wp_ret<|aP<|aP<|aY E rfl rfl<|?_
   cases hm
   exact ⟨rfl,H.reads Y0⟩
  ·refine wp_skip<|aC<|sq<|pr 1 E rfl fun a E=>nt<|wp_ret<|aP<|aY E rfl rfl<|?_
   cases hm
   exact ⟨rfl,H.reads Y0⟩
 ·refine wp_skip<|aC<|wp_seq<|sq<|pr 1 E rfl fun a E=>nt<|wif E hm rfl (fun hm=>?_) fun hm=>?_
  ·refine sq<|pr 1 E rfl fun a E=>nt<|wp_ret<|aP<|aY E rfl rfl<|?_
   cases hm
   exact ⟨rfl,H.reads Y0⟩
  ·refine wp_skip<|aC<|wp_seq<|sq<|pr 3 E rfl fun a E=>nt<|wif E hm rfl (fun hm=>?_) fun hm=>?_
   ·refine sq<|pr 1 E rfl fun a E=>nt<|wp_ret<|aP<|aY E rfl rfl<|?_
    cases hm
    exact ⟨rfl,H.reads Y0⟩
   ·refine wp_skip<|aC<|wp_seq<|sq<|pr 3 E rfl fun a E=>nt<|wif E hm rfl (fun hm=>?_) fun hm=>?_
    ·refine sq<|pr 1 E rfl fun a E=>nt<|wp_ret<|aP<|aY E rfl rfl<|?_
     cases hm
     exact ⟨rfl,H.reads Y0⟩
    ·refine wp_skip<|aC<|sq<|pr 1 E rfl fun a E=>nt<|wp_ret<|aY E rfl rfl<|?_
     cases hm
     exact ⟨rfl,H.reads Y0⟩

def zR(x1:aD)(x3:Int):Option Int:=
  (xU x1.Num x3).bind fun b=>some (b)
theorem G9{x1:aD}{c:Value}{x3:Int}(H:Sep w (Fo) rs){r:Int}(hm:zR x1 x3=some r) :
    Calls Tryz.prog 164 [.agg (nD x1 c).toArray,.int .i64 x3].toArray w (Ret fun v w'=>.int .i64 r=v∧Sep w' (Fo) (rs)):=by
 unfold zR at hm
 refine ent Tryz.func164 rfl Tryz.ntmps164 rfl rfl fun a E=>sq<|bS E H (wn rfl) rfl rfl rfl rfl rfl fun d w a H E=>pr 1 E rfl fun a E=>nx<|pr 1 E rfl fun a E=>lb E H 0 rfl rfl rfl rfl rfl rfl rfl U2 rfl fun a E=>pr 1 E rfl fun a E=>bd hm fun e b hm=>?_
 refine xk E rfl rfl rfl rfl rfl HE (W5 H b) fun w H a E=>pr 1 E rfl fun a E=>nt<|wp_ret<|aY E rfl rfl<|have H:=H.drop 0;?_
 cases hm
 exact ⟨rfl,H.reads Y0⟩

def dA(c:List aD)(x3:Int):Nat→Int→Int→Option (Int×Bool)
  | 0,_,_=>none
  | e+1,b,d=>
    if (decide (b < d))=true then ((idx c (IntKind.i64.wrap (rD .u64 (IntKind.u64.wrap (IntKind.i64.wrap (b+d))) 1))).bind fun j=>(zR j x3).bind fun f=>if (decide (f < 0))=true then (dA c x3 e (IntKind.i64.wrap ((IntKind.i64.wrap (rD .u64 (IntKind.u64.wrap (IntKind.i64.wrap (b+d))) 1))+1)) d) else (dA c x3 e b (IntKind.i64.wrap (rD .u64 (IntKind.u64.wrap (IntKind.i64.wrap (b+d))) 1)))) else (if (decide (b < (c.length:Int)))=true then ((idx c b).bind fun g=>(zR g x3).bind fun i=>some (b,i == 0)) else (some (b,false)))
def eW(b:List aD)(x3:Int):Option (Int×Bool):=
  dA b x3 (((b.length:Int) - 0:Int).toNat+1) 0 (b.length:Int)
theorem pM{j:Value}{e:List aD}{x3:Int}(H:Sep w (Row 215 aO j e::Fo) rs){r:Int×Bool}(hm:eW e x3=some r) :
    Calls Tryz.prog 163 [j,.int .i64 x3,.func (.func 164) #[] #[]].toArray w (Ret fun v w'=>.tuple #[.int .i64 r.1,.bool r.2]=v∧Sep w' (Row 215 aO j e::Fo) (rs)):=by
 unfold eW at hm
 refine ent Tryz.func163 rfl Tryz.ntmps163 rfl rfl fun a E=>sq<|pr 2 E rfl fun a E=>nx<|pr 1 E rfl fun a E=>sv E rfl rfl rfl (kK (i:=0) E H rfl rfl rfl U71) fun a E=>pr 1 E rfl fun a E=>nx<|pr 3 E rfl fun a E=>?_
 refine nt<|wp_seq<|wp_block<|bX (fun c a w=>∃ u x l,Env 49 a [(0,j),(1,.int .i64 x3),(2,.func (.func 164) #[] #[]),(8,.int .i64 (e.length:Int)),(9,.int .i64 u),(10,.int .i64 x)]∧Sep w (Row 215 aO j e::Fo) l∧(∀ r,r ∈ rs→r ∈ l)∧dA e x3 c u x=some r) (((e.length:Int) - 0:Int).toNat+1) ?_ ?_
 ·exact X3 ⟨E.to rfl,H,Y0,hm⟩
 ·clear E H hm
  rintro c a w ⟨u,x,l,E,H,g,hm⟩
  cases c with
  | zero=>exact (bU hm rfl).elim
  | succ c=>
   unfold dA at hm
   refine wp_seq<|sq<|pr 3 E rfl fun a E=>nt<|wif E hm rfl (fun hm=>?_) fun hm=>?_
   ·refine wp_skip<|aC<|wp_block<|sq<|pr 4 E rfl fun a E=>sv E rfl rfl rfl (S4 E rfl rfl rfl (by decide)) fun a E=>pr 2 E rfl fun a E=>nx<|pr 3 E rfl fun a E=>?_
    refine bd hm fun A m hm=>?_
    obtain ⟨B,C,n⟩:=H.rowformNE (i:=0) rfl m
    refine sv E rfl rfl rfl (dG (d:=aO) E n rfl rfl rfl rfl U71 uP m) fun a E=>Ew (i:=0) (k:=0) (s:=3) E H n (wn rfl) rfl rfl rfl rfl rfl m rfl Gm rfl uP fun D a H E=>?_
    obtain ⟨_,hcs⟩:=H.rd (.head _)
    obtain ⟨p,rfl,-⟩:=dS hcs
    clear hcs
    refine have H:=H.derive1 m0 (rSl aX p A.Events) (fun ok h=>hU h);?_
    replace E:Env 49 a ((28,.agg (nD A p).toArray)::_):=E
    refine pr 1 E rfl fun a E=>bd hm fun F y hm=>aW E (wn rfl) rfl rfl (bR E rfl rfl rfl (Jf _)) (G9 H y)<|?_
    rintro _ w ⟨rfl,H⟩ a E
    refine pr 1 E rfl fun a E=>nt<|wif E hm rfl (fun hm=>?_) fun hm=>?_
    ·exact wp_region_lit<|pr 3 E rfl fun a E=>wpList_nil<|bZ<|aC<|⟨c,Nat.lt_succ_self c,X3 ⟨E.to rfl,H,(Y2 g),hm⟩⟩
    ·exact wp_region_lit<|pr 2 E rfl fun a E=>wpList_nil<|bZ<|aC<|⟨c,Nat.lt_succ_self c,X3 ⟨E.to rfl,H,(Y2 g),hm⟩⟩
   ·refine wp_exit<|bG<|bG<|dN<|aC<|sq<|pr 5 E rfl fun a E=>cs hm (fun b hm=>?_) fun b hm=>?_
    ·refine pk 3 E (kc 39 rfl b) rfl fun a E=>bd hm fun q f hm=>?_
     obtain ⟨G,I,o⟩:=H.rowformNE (i:=0) rfl f
     refine aQ E (ws' (d:=39) E rfl rfl rfl rfl b) rfl rfl (dG (d:=aO) E o rfl rfl rfl rfl U71 uP f) fun a E=>Ew (i:=0) (k:=0) (s:=3) E H o (ws' (d:=39) E rfl rfl rfl rfl b) rfl rfl rfl rfl rfl f rfl Gm rfl uP fun J a H E=>?_
     obtain ⟨_,hcs⟩:=H.rd (.head _)
     obtain ⟨t,rfl,-⟩:=dS hcs
     clear hcs
     refine have H:=H.derive1 m0 (rSl aX t q.Events) (fun ok h=>hU h);?_
     replace E:Env 49 a ((44,.agg (nD q t).toArray)::_):=E
     refine pk 1 E (kc 39 rfl b) rfl fun a E=>bd hm fun K z hm=>aW E (ws' (d:=39) E rfl rfl rfl rfl b) rfl rfl (bR E rfl rfl rfl (Jf _)) (G9 H z)<|?_
     rintro _ w ⟨rfl,H⟩ a E
     refine pk 4 E (kc 39 rfl b) rfl fun a E=>nt<|wp_ret<|hG E rfl rfl rfl<|?_
     cases hm
     exact ⟨rfl,H.reads (Y2 g)⟩
    ·refine pk 11 E (kc 39 rfl b) rfl fun a E=>nt<|wp_ret<|hG E rfl rfl rfl<|?_
     cases hm
     exact ⟨rfl,H.reads g⟩

def yF(c:aK)(d:aD)(b:(List aD)):Option (Bool×(List aD)):=
  if c.Deep=true then (some (decide ((d.Events.length:Int) < 7),b)) else (some (false,b))
def yG(c:aK)(b:aD)(d:Int)(e:ByteArray)(f:List aD)(g:Int)(i:Bool):Option (Bool×(List aD)):=
  if i=true then ((ck ((({ b with Count:=IntKind.i64.wrap (b.Count+1) }:aD).Events).length ≤ LIM)).bind fun j=>(ck ((({ b with Count:=IntKind.i64.wrap (b.Count+1) }:aD).Events).length+([(⟨IntKind.i64.wrap (b.Count+1),d,e,c.Num⟩:bL)]:List bL).length ≤ LIM)).bind fun k=>yF c b ((f.set g.toNat ({ b with Count:=IntKind.i64.wrap (b.Count+1) }:aD)).set g.toNat ({ ({ b with Count:=IntKind.i64.wrap (b.Count+1) }:aD) with Events:=(({ b with Count:=IntKind.i64.wrap (b.Count+1) }:aD).Events) ++ ([(⟨IntKind.i64.wrap (b.Count+1),d,e,c.Num⟩:bL)]:List bL) }:aD))) else (yF c b f)
def yH(c:aK)(b:aD)(f:List aD)(g:Int)(d:Int)(e:ByteArray):Option (Bool×(List aD)):=
  if (decide ((b.Events.length:Int) < 8))=true then (yG c b d e f g (decide (b.Count < 281474976710656))) else (yG c b d e f g false)
def K1(d:List aD)(e:Int)(c:aD)(b:aK)(f:Int)(g:ByteArray):Option (Bool×(List aD)):=
  if ((c.Events.length:Int) == 7)=true then (yH b c d e 4 b.Path) else (yH b c d e f g)
theorem Lj{m:Value}{F V X:Nat}{t:List aD}{s G:Int}{b:aD}{c:aK}{I:ByteArray}(j:idx t s=some b)(l:m= .slice (some ⟨F,0,none⟩) V X)(H:Sep w (Row 215 aO m t::Fo) rs){r:Bool×(List aD)}(hm:K1 t s b c G I=some r) :
    Calls Tryz.prog 297 [.pointer (some ⟨F,s.toNat * 3,none⟩),.agg (dX c).toArray,.int .i64 G,.string I].toArray w (Ret fun v w'=>.bool r.1=v∧Sep w' (Row 215 aO m r.2::Fo) (rs)):=by
 unfold K1 at hm
 refine ent Tryz.func297 rfl Tryz.ntmps297 rfl rfl fun a E=>sq<|bS E H (wn rfl) rfl rfl rfl rfl rfl fun o w a H E=>pr 1 E rfl fun a E=>nx<|pr 3 E rfl fun a E=>x5 (i:=1) (k:=2) E H l (wn rfl) rfl rfl rfl rfl rfl j rfl U44 rfl fun Y a H E=>?_
 obtain ⟨_,hcs⟩:=H.rd (.head _)
 obtain ⟨N,rfl,-⟩:=dS hcs
 clear hcs
 refine have H:=H.derive1 m0 (rSl aX N b.Events) (fun ok h=>hU h);?_
 replace E:Env 65 a ((14,N)::_):=E
 refine sv E rfl rfl rfl (cV E H rfl rfl m0 U44) fun a E=>pr 1 E rfl fun a E=>nt<|wp_seq<|dw [(0,0),(1,0),(2,0),(3,0),(4,0),(5,0),(6,0),(7,0),(8,0),(9,0),(10,1),(11,2)] [0,1] [] H (by kernel_rfl) (fun _ _ _ h=>False.elim h.2) fun w W0 hI H=>fn 3 E rfl fun a E=>bT E rfl (wn rfl) rfl rfl (fun w hW=>Rw (d:=aO) (k:=1) (u:=.int .i64 b.Count) E l j mm1 (fun w ok cs h=>by obtain ⟨m,rfl,-⟩:=dS h;rfl) rfl rfl U2 rfl hW) fun a E=>?_
 refine fn 4 E rfl fun a E=>fb E rfl (wn rfl) rfl rfl rfl rfl m0 rfl U2 rfl fun a E=>bT E rfl (wn rfl) rfl rfl (fun w hW=>(cL E rfl (E.evs rfl) (v:=.agg #[.int .i64 (IntKind.i64.wrap (b.Count+1)),.int .i64 G,.string I,.int .i64 c.Num]) (by kernel_rfl))) fun a E=>?_
 refine bY rfl<|al E H rfl rfl rfl rfl Pn fun p w a H E=>nt<|?_
 refine ⟨⟨_,_,H,(aB mm1 (aB mm2 (aL))),(aM)⟩,?_⟩
 refine bO rfl<|bA (i:=0) E H (wn rfl) rfl rfl rfl rfl rfl rfl uQ rfl rfl fun w H=>nt<|bP<|?_
 clear hI
 refine aC<|aV (fun a w=>∃ f g y,Env 65 a [(0,.pointer (some ⟨F,s.toNat * 3,none⟩)),(5,pt o 0),(9,.int .i64 (b.Events.length:Int)),(10,pt p 0)]∧Sep w (Row 215 aO m t::Blk o 35 (dX c)::Blk p 223 [.int .i64 (IntKind.i64.wrap (b.Count+1)),.int .i64 f,.string g,.int .i64 c.Num]::Fo) y∧(∀ r,r ∈ rs→r ∈ y)∧yH c b t s f g=some r) ?_ ?_
 ·refine sq<|pr 2 E rfl fun a E=>nt<|wif E hm rfl (fun hm=>?_) fun hm=>?_
  ·refine dw [(0,0),(1,0),(2,0),(3,1),(4,2),(5,2)] [1] [] H (by kernel_rfl) (fun _ _ _ h=>False.elim h.2) fun w W0 hI H=>fn 1 E rfl fun a E=>fb E rfl (wn rfl) rfl rfl rfl rfl m0 rfl U9 rfl fun a E=>fn 1 E rfl fun a E=>bY rfl<|bA (i:=0) E H (wn rfl) rfl rfl rfl rfl rfl rfl sz3 rfl rfl fun w H=>nt<|?_
   refine ⟨⟨_,_,H,(aB mm1 (aL)),(aM)⟩,?_⟩
   refine bO rfl<|pr 1 E rfl fun a E=>nt<|bO rfl<|bA (i:=0) E H (wn rfl) rfl rfl rfl rfl rfl rfl sz9 rfl rfl fun w H=>nt<|bP<|?_
   clear hI
   exact aC<|have H:=H.frs [0,1,2] rfl;X3 ⟨E.to rfl,H,(Y2 Y0),hm⟩
  ·exact wp_skip<|aC<|have H:=H.frs [0,1,2] rfl;X3 ⟨E.to rfl,H,(Y2 Y0),hm⟩
 ·clear E H hm
  rintro a w ⟨f,g,y,E,H,J,hm⟩
  unfold yH at hm
  refine aV (fun a w=>∃ K z,Env 65 a [(5,pt o 0),(9,.int .i64 (b.Events.length:Int))]∧Sep w (Blk o 35 (dX c)::Row 215 aO m K::Fo) z∧(∀ r,r ∈ rs→r ∈ z)∧yF c b K=some r) ?_ ?_
  ·refine aV (fun a w=>∃ L A,Env 65 a [(0,.pointer (some ⟨F,s.toNat * 3,none⟩)),(5,pt o 0),(9,.int .i64 (b.Events.length:Int)),(10,pt p 0),(40,.bool L)]∧Sep w (Row 215 aO m t::Blk o 35 (dX c)::Blk p 223 [.int .i64 (IntKind.i64.wrap (b.Count+1)),.int .i64 f,.string g,.int .i64 c.Num]::Fo) A∧(∀ r,r ∈ rs→r ∈ A)∧yG c b f g t s L=some r) ?_ ?_
   ·refine wp_region_lit<|pr 3 E rfl fun a E=>cs hm (fun n hm=>?_) fun n hm=>?_
    ·refine pk 3 E (kc 34 rfl n) rfl fun a E=>x5 (i:=0) (k:=1) E H l (ws' (d:=34) E rfl rfl rfl rfl n) rfl rfl rfl rfl rfl j rfl U2 rfl fun Z a H E=>?_
     obtain ⟨_,hcs⟩:=H.rd (.head _)
     obtain ⟨Q,rfl,-⟩:=dS hcs
     clear hcs
     refine have H:=H.derive1 m0 (rSl aX Q b.Events) (fun ok h=>hU h);?_
     replace E:Env 65 a ((38,.int .i64 b.Count)::_):=E
     exact pk 2 E (kc 34 rfl n) rfl fun a E=>nt<|⟨_,_,E.to rfl,H,(Y2 J),hm⟩
    ·exact pk 6 E (kc 34 rfl n) rfl fun a E=>nt<|⟨_,_,E.to rfl,H,J,hm⟩
   ·clear E H hm
    rintro a w ⟨L,A,E,H,q,hm⟩
    unfold yG at hm
    refine wif E hm rfl (fun hm=>?_) fun hm=>?_
    ·refine sq<|pr 3 E rfl fun a E=>x5 (i:=0) (k:=1) E H l (wn rfl) rfl rfl rfl rfl rfl j rfl U2 rfl fun b0 a H E=>?_
     obtain ⟨_,hcs⟩:=H.rd (.head _)
     obtain ⟨R,rfl,-⟩:=dS hcs
     clear hcs
     refine have H:=H.derive1 m0 (rSl aX R b.Events) (fun ok h=>hU h);?_
     replace E:Env 65 a ((44,.int .i64 b.Count)::_):=E
     refine pr 3 E rfl fun a E=>y3 (i:=0) (k:=1) (us:=[.int .i64 (IntKind.i64.wrap (b.Count+1))]) (y':=({ b with Count:=IntKind.i64.wrap (b.Count+1) }:aD)) E H l (wn rfl) rfl rfl rfl rfl rfl rfl j rfl sz2 rfl (fun ok cs hr h=>by obtain ⟨m,rfl,g1⟩:=dS h;exact lC (x:=({ b with Count:=IntKind.i64.wrap (b.Count+1) }:aD)) g1) fun w H=>nt<|bk hm fun B hm=>bk hm fun C hm=>?_
     have hI:eD [Blk p 223 [.int .i64 (IntKind.i64.wrap (b.Count+1)),.int .i64 f,.string g,.int .i64 c.Num]] [] { w with drawn:=w.drawn+1 }:=⟨_,_,H.kept (Kp.drawn _ w _),(aB mm2 (aL)),(aM)⟩
     refine mA _ (.go 0 0 (.go 1 0 (.go 2 0 (.go 3 0 (.go 6 0 (.alt 4 (.alt 5 (.go 7 1 (.go 8 1 (.go 9 2 (.go 10 2 (.go 11 2 .nil))))) 7 (.go 5 1 (.go 8 1 (.go 9 2 (.go 10 2 (.go 11 2 .nil)))))) 7 (.go 4 1 (.go 5 1 (.go 8 1 (.go 9 2 (.go 10 2 (.go 11 2 .nil)))))))))))) [9,10,11] mH (by kernel_rfl) (fun _ _ _ h=>False.elim h.2) hI<|have H:=H.kept (Kp.drawn _ w (w.drawn+1));?_
     generalize ({ w with drawn:=w.drawn+1 }:World)=w at H hI ⊢
     replace hI:∃ W,eD [Blk p 223 [.int .i64 (IntKind.i64.wrap (b.Count+1)),.int .i64 f,.string g,.int .i64 c.Num]] [] W:=⟨_,hI⟩
     obtain ⟨W0,hI⟩:=hI
     refine aZ E rfl (wn rfl) rfl rfl (fun w hW=>(bE E rfl rfl)) fun a E=>aZ E rfl (wn rfl) rfl rfl (fun w hW=>(bE E rfl rfl)) fun a E=>aZ E rfl (wn rfl) rfl rfl (fun w hW=>(vX E rfl rfl)) fun a E=>aZ E rfl (wn rfl) rfl rfl (fun w hW=>lA E rfl rfl (v:=.pointer (some ⟨F,s.toNat * 3+2,none⟩)) (Nn _ _)) fun a E=>aZ E rfl (wn rfl) rfl rfl (fun w hW=>fC E rfl rfl (y0 (us:=[.int .i64 (IntKind.i64.wrap (b.Count+1)),.int .i64 f,.string g,.int .i64 c.Num]) m0 rfl Gn rfl uQ w hW)) fun a E=>?_
     refine mU rfl rfl ?_ ?_
     ·refine x5 (i:=0) (k:=2) E H l (wn rfl) rfl rfl rfl rfl rfl (wA j) rfl U44 rfl fun b1 a H E=>?_
      obtain ⟨_,hcs⟩:=H.rd (.head _)
      obtain ⟨O,rfl,-⟩:=dS hcs
      clear hcs
      refine have H:=H.derive1 m0 (rSl aX O (({ b with Count:=IntKind.i64.wrap (b.Count+1) }:aD).Events)) (fun ok h=>hU h);?_
      replace E:Env 65 a ((52,O)::_):=E
      refine nt<|?_
      refine ⟨⟨_,_,H,(aB mm2 (aL)),(aM)⟩,?_⟩
      refine mU rfl rfl ?_ ?_
      ·refine aW E (wn rfl) rfl rfl (cB E rfl rfl (Ff _)) (eV H m0 B) fun b2 w H a E=>nt<|?_
       refine ⟨⟨_,_,H,(aB mm3 (aL)),(aM)⟩,?_⟩
       refine cN rfl<|sM (e:=223) (d:=aX) (cs:=[.int .i64 (IntKind.i64.wrap (b.Count+1)),.int .i64 f,.string g,.int .i64 c.Num]) (xs:=[(⟨IntKind.i64.wrap (b.Count+1),f,g,c.Num⟩:bL)]) E H (wn rfl) rfl rfl rfl (E.evs rfl) (by kernel_rfl) rfl (fun ok hr=>(Rows.single (d:=aX) (cs:=[.int .i64 (IntKind.i64.wrap (b.Count+1)),.int .i64 f,.string g,.int .i64 c.Num]) (x:=(⟨IntKind.i64.wrap (b.Count+1),f,g,c.Num⟩:bL)) zH)) fun b3 w a H E=>nt<|?_
       refine ⟨⟨_,_,H,(aB mm3 (aL)),(aM)⟩,?_⟩
       refine cN rfl<|eK (i:=0) E H (wn rfl) rfl rfl rfl rfl rfl rfl (lB m0) U44 Fg rfl C rfl fun b4 w a H E=>nt<|?_
       refine ⟨⟨_,_,H,(aB mm3 (aL)),(aM)⟩,?_⟩
       refine cX rfl<|pr 1 E rfl fun a E=>nt<|cX rfl<|pr 1 E rfl fun a E=>nt<|cX rfl<|?_
       obtain ⟨q70,S,rfl⟩:=H.rowform (i:=0) rfl
       refine have H:=H.thaw (i:=0) rfl;y3 (i:=0) (k:=2) (us:=[(.slice q70 ((({ b with Count:=IntKind.i64.wrap (b.Count+1) }:aD).Events) ++ ([(⟨IntKind.i64.wrap (b.Count+1),f,g,c.Num⟩:bL)]:List bL)).length S)]) (y':=({ ({ b with Count:=IntKind.i64.wrap (b.Count+1) }:aD) with Events:=(({ b with Count:=IntKind.i64.wrap (b.Count+1) }:aD).Events) ++ ([(⟨IntKind.i64.wrap (b.Count+1),f,g,c.Num⟩:bL)]:List bL) }:aD)) E H l (wn rfl) rfl rfl rfl rfl rfl rfl (wA j) rfl Pp rfl (fun ok cs hr h=>by obtain ⟨m,rfl,g1⟩:=dS h;exact lC (x:=({ ({ b with Count:=IntKind.i64.wrap (b.Count+1) }:aD) with Events:=(({ b with Count:=IntKind.i64.wrap (b.Count+1) }:aD).Events) ++ ([(⟨IntKind.i64.wrap (b.Count+1),f,g,c.Num⟩:bL)]:List bL) }:aD)) (hr _ m0)) fun w H=>nt<|eL<|?_
       clear hI
       exact aC<|have H:=H.drop 2;have H:=H.frs [0,1] rfl;⟨_,_,E.to rfl,H,(Y6 q),hm⟩
      ·refine sM (e:=223) (d:=aX) (cs:=[.int .i64 (IntKind.i64.wrap (b.Count+1)),.int .i64 f,.string g,.int .i64 c.Num]) (xs:=[(⟨IntKind.i64.wrap (b.Count+1),f,g,c.Num⟩:bL)]) E H (wn rfl) rfl rfl rfl (E.evs rfl) (by kernel_rfl) rfl (fun ok hr=>(Rows.single (d:=aX) (cs:=[.int .i64 (IntKind.i64.wrap (b.Count+1)),.int .i64 f,.string g,.int .i64 c.Num]) (x:=(⟨IntKind.i64.wrap (b.Count+1),f,g,c.Num⟩:bL)) zH)) fun b5 w a H E=>nt<|?_
       refine ⟨⟨_,_,H,(aB mm2 (aL)),(aM)⟩,?_⟩
       refine cN rfl<|aW E (wn rfl) rfl rfl (cB E rfl rfl (Ff _)) (eV H mm1 B) fun b6 w H a E=>nt<|?_
       refine ⟨⟨_,_,H,(aB mm3 (aL)),(aM)⟩,?_⟩
       refine cN rfl<|eK (i:=0) E H (wn rfl) rfl rfl rfl rfl rfl rfl (lB m0) U44 Fg rfl C rfl fun b7 w a H E=>nt<|?_
       refine ⟨⟨_,_,H,(aB mm3 (aL)),(aM)⟩,?_⟩
       refine cX rfl<|pr 1 E rfl fun a E=>nt<|cX rfl<|pr 1 E rfl fun a E=>nt<|cX rfl<|?_
       obtain ⟨q79,T,rfl⟩:=H.rowform (i:=0) rfl
       refine have H:=H.thaw (i:=0) rfl;y3 (i:=0) (k:=2) (us:=[(.slice q79 ((({ b with Count:=IntKind.i64.wrap (b.Count+1) }:aD).Events) ++ ([(⟨IntKind.i64.wrap (b.Count+1),f,g,c.Num⟩:bL)]:List bL)).length T)]) (y':=({ ({ b with Count:=IntKind.i64.wrap (b.Count+1) }:aD) with Events:=(({ b with Count:=IntKind.i64.wrap (b.Count+1) }:aD).Events) ++ ([(⟨IntKind.i64.wrap (b.Count+1),f,g,c.Num⟩:bL)]:List bL) }:aD)) E H l (wn rfl) rfl rfl rfl rfl rfl rfl (wA j) rfl Pp rfl (fun ok cs hr h=>by obtain ⟨m,rfl,g1⟩:=dS h;exact lC (x:=({ ({ b with Count:=IntKind.i64.wrap (b.Count+1) }:aD) with Events:=(({ b with Count:=IntKind.i64.wrap (b.Count+1) }:aD).Events) ++ ([(⟨IntKind.i64.wrap (b.Count+1),f,g,c.Num⟩:bL)]:List bL) }:aD)) (hr _ m0)) fun w H=>nt<|eL<|?_
       clear hI
       exact aC<|have H:=H.drop 2;have H:=H.frs [0,1] rfl;⟨_,_,E.to rfl,H,(Y6 q),hm⟩
     ·refine sM (e:=223) (d:=aX) (cs:=[.int .i64 (IntKind.i64.wrap (b.Count+1)),.int .i64 f,.string g,.int .i64 c.Num]) (xs:=[(⟨IntKind.i64.wrap (b.Count+1),f,g,c.Num⟩:bL)]) E H (wn rfl) rfl rfl rfl (E.evs rfl) (by kernel_rfl) rfl (fun ok hr=>(Rows.single (d:=aX) (cs:=[.int .i64 (IntKind.i64.wrap (b.Count+1)),.int .i64 f,.string g,.int .i64 c.Num]) (x:=(⟨IntKind.i64.wrap (b.Count+1),f,g,c.Num⟩:bL)) zH)) fun b8 w a H E=>nt<|?_
      refine ⟨⟨_,_,H,(aB mm2 (aL)),(aM)⟩,?_⟩
      refine cN rfl<|x5 (i:=0) (k:=2) E H l (wn rfl) rfl rfl rfl rfl rfl (wA j) rfl U44 rfl fun b9 a H E=>?_
      obtain ⟨_,hcs⟩:=H.rd (.head _)
      obtain ⟨P,rfl,-⟩:=dS hcs
      clear hcs
      refine have H:=H.derive1 m0 (rSl aX P (({ b with Count:=IntKind.i64.wrap (b.Count+1) }:aD).Events)) (fun ok h=>hU h);?_
      replace E:Env 65 a ((52,P)::_):=E
      refine nt<|?_
      refine ⟨⟨_,_,H,(aB mm2 (aL)),(aM)⟩,?_⟩
      refine cN rfl<|aW E (wn rfl) rfl rfl (cB E rfl rfl (Ff _)) (eV H m0 B) fun c0 w H a E=>nt<|?_
      refine ⟨⟨_,_,H,(aB mm3 (aL)),(aM)⟩,?_⟩
      refine cN rfl<|eK (i:=0) E H (wn rfl) rfl rfl rfl rfl rfl rfl (lB mm2) U44 Fg rfl C rfl fun c1 w a H E=>nt<|?_
      refine ⟨⟨_,_,H,(aB mm3 (aL)),(aM)⟩,?_⟩
      refine cX rfl<|pr 1 E rfl fun a E=>nt<|cX rfl<|pr 1 E rfl fun a E=>nt<|cX rfl<|?_
      obtain ⟨q90,U,rfl⟩:=H.rowform (i:=0) rfl
      refine have H:=H.thaw (i:=0) rfl;y3 (i:=0) (k:=2) (us:=[(.slice q90 ((({ b with Count:=IntKind.i64.wrap (b.Count+1) }:aD).Events) ++ ([(⟨IntKind.i64.wrap (b.Count+1),f,g,c.Num⟩:bL)]:List bL)).length U)]) (y':=({ ({ b with Count:=IntKind.i64.wrap (b.Count+1) }:aD) with Events:=(({ b with Count:=IntKind.i64.wrap (b.Count+1) }:aD).Events) ++ ([(⟨IntKind.i64.wrap (b.Count+1),f,g,c.Num⟩:bL)]:List bL) }:aD)) E H l (wn rfl) rfl rfl rfl rfl rfl rfl (wA j) rfl Pp rfl (fun ok cs hr h=>by obtain ⟨m,rfl,g1⟩:=dS h;exact lC (x:=({ ({ b with Count:=IntKind.i64.wrap (b.Count+1) }:aD) with Events:=(({ b with Count:=IntKind.i64.wrap (b.Count+1) }:aD).Events) ++ ([(⟨IntKind.i64.wrap (b.Count+1),f,g,c.Num⟩:bL)]:List bL) }:aD)) (hr _ m0)) fun w H=>nt<|eL<|?_
      clear hI
      exact aC<|have H:=H.drop 2;have H:=H.frs [0,1] rfl;⟨_,_,E.to rfl,H,(Y6 q),hm⟩
    ·exact wp_skip<|aC<|have H:=H.drop 2;have H:=H.frs [0,1] rfl;⟨_,_,E.to rfl,H,q,hm⟩
  ·clear E H hm
   rintro a w ⟨K,z,E,H,M,hm⟩
   unfold yF at hm
   refine sq<|pr 1 E rfl fun a E=>lb E H 0 rfl rfl rfl rfl rfl rfl rfl U4 rfl fun a E=>pr 1 E rfl fun a E=>cs hm (fun D hm=>?_) fun D hm=>?_
   ·refine pk 4 E (kc 61 rfl D) rfl fun a E=>nt<|wp_ret<|aY E rfl rfl<|have H:=H.drop 0;?_
    cases hm
    exact ⟨rfl,H.reads M⟩
   ·refine pk 4 E (kc 61 rfl D) rfl fun a E=>nt<|wp_ret<|aY E rfl rfl<|have H:=H.drop 0;?_
    cases hm
    exact ⟨rfl,H.reads M⟩

def uV(b:Int×Bool)(x1:aK)(e:Int)(g:ByteArray)(c:(List aD)):Option (Bool×(List aD)):=
  (idx c b.1).bind fun f=>(K1 c b.1 f x1 e g).bind fun d=>some (!d.1,d.2)
def rP(x1:aK)(d:Int)(e:ByteArray)(c:List aD)(f:Bool):Option (Bool×(List aD)):=
  if f=true then (some (false,c)) else ((eW c x1.Session).bind fun b=>if (!b.2)=true then ((ck (0 ≤ b.1∧b.1 ≤ c.length∧c.length ≤ 1000000)).bind fun g=>uV b x1 d e (c.take b.1.toNat ++ (⟨x1.Session,0,[]⟩:aD)::c.drop b.1.toNat)) else (uV b x1 d e c))
def zS(x1:aK)(b:ByteArray)(d:List aD)(c:Int):Option (Bool×(List aD)):=
  if (!(sEq x1.Path b))=true then (if (!x1.Deep)=true then (rP x1 c b d true) else ((yU b x1.Path).bind fun e=>rP x1 c b d (!e))) else (rP x1 c b d false)
theorem Q8{x1:aK}{g j k:Nat}{l:ByteArray}{A q:Value}{B:List aD}{f:Int}(H:Sep w (Blk g 9 [.string l]::Blk j 73 [q,A]::Row 215 aO A B::Blk k 3 [.int .i64 f]::Fo) rs){r:Bool×(List aD)}(hm:zS x1 l B f=some r) :
    Calls Tryz.prog 296 [.agg (dX x1).toArray,pt g 0,pt j 0,pt k 0].toArray w (Ret fun v w'=>∃ K,.bool r.1=v∧Sep w' (Blk g 9 [.string l]::Blk j 73 [q,K]::Blk k 3 [.int .i64 f]::Row 215 aO K r.2::Fo) (rs)):=by
 unfold zS at hm
 refine ent Tryz.func296 rfl Tryz.ntmps296 rfl rfl fun a E=>sq<|bS E H (wn rfl) rfl rfl rfl rfl rfl fun s w a H E=>pr 1 E rfl fun a E=>nt<|wp_seq<|aV (fun a w=>∃ t m,Env 52 a [(1,pt g 0),(2,pt j 0),(3,pt k 0),(4,pt s 0),(23,.bool t)]∧Sep w (Blk g 9 [.string l]::Blk j 73 [q,A]::Blk k 3 [.int .i64 f]::Blk s 35 (dX x1)::Row 215 aO A B::Fo) m∧(∀ r,r ∈ rs→r ∈ m)∧rP x1 f l B t=some r) ?_ ?_
 ·refine wp_region_lit<|pr 1 E rfl fun a E=>lb E H 0 rfl rfl rfl rfl rfl rfl rfl U9 rfl fun a E=>lb E H 1 rfl rfl rfl rfl rfl rfl rfl U9 rfl fun a E=>pr 2 E rfl fun a E=>cs hm (fun b hm=>?_) fun b hm=>?_
  ·refine pk 1 E (kc 12 rfl b) rfl fun a E=>aQ E (ws' (d:=12) E rfl rfl rfl rfl b) rfl rfl (cD (i:=0) E H rfl rfl rfl rfl U4 rfl) fun a E=>pk 2 E (kc 12 rfl b) rfl fun a E=>cs hm (fun c hm=>?_) fun c hm=>?_
   ·exact pk 7 E (kc' (kc 16 rfl c) 12 rfl b) rfl fun a E=>nt<|have H:=H.frs [3,1,4,4,4] rfl;⟨_,_,E.to rfl,H,Y0,hm⟩
   ·refine aQ E (ws' (d:=16) E rfl rfl rfl rfl c) rfl rfl (cD (i:=1) E H rfl rfl rfl rfl U9 rfl) fun a E=>pk 1 E (kc 16 rfl c) rfl fun a E=>aQ E (ws' (d:=16) E rfl rfl rfl rfl c) rfl rfl (cD (i:=0) E H rfl rfl rfl rfl U9 rfl) fun a E=>bd hm fun L D hm=>aW E (ws' (d:=16) E rfl rfl rfl rfl c) rfl rfl (cB E rfl rfl (Vb _)) (Z9 H D)<|?_
    rintro _ w ⟨rfl,H⟩ a E
    exact pk 3 E (kc' (kc 16 rfl c) 12 rfl b) rfl fun a E=>nt<|have H:=H.frs [3,1,4,4,4] rfl;⟨_,_,E.to rfl,H,Y0,hm⟩
  ·exact pk 11 E (kc 12 rfl b) rfl fun a E=>nt<|have H:=H.frs [3,1,4,4,4] rfl;⟨_,_,E.to rfl,H,Y0,hm⟩
 ·clear E H hm
  rintro a w ⟨t,m,E,H,n,hm⟩
  unfold rP at hm
  refine wif E hm rfl (fun hm=>?_) fun hm=>?_
  ·refine sq<|pr 1 E rfl fun a E=>nt<|wp_ret<|aP<|aY E rfl rfl<|have H:=H.drop 3;?_
   cases hm
   exact ⟨_,rfl,H.reads n⟩
  ·refine wp_skip<|aC<|sq<|pr 1 E rfl fun a E=>lb E H 1 rfl rfl rfl rfl rfl rfl rfl U71 rfl fun a E=>pr 1 E rfl fun a E=>lb E H 3 rfl rfl rfl rfl rfl rfl rfl U2 rfl fun a E=>have H:=H.frs [3,3,3,3,4] rfl;bd hm fun C F hm=>?_
   refine xk E rfl rfl rfl rfl rfl Po (pM H F) fun w H a E=>pr 5 E rfl fun a E=>nt<|aV (fun a w=>∃ u y o,Env 52 a [(1,pt g 0),(2,pt j 0),(3,pt k 0),(4,pt s 0),(6,.int .i64 C.1)]∧Sep w (Blk g 9 [.string l]::Blk j 73 [q,u]::Blk k 3 [.int .i64 f]::Blk s 35 (dX x1)::Row 215 aO u y::Fo) o∧(∀ r,r ∈ rs→r ∈ o)∧uV C x1 f l y=some r) ?_ ?_
   ·refine sq<|pr 2 E rfl fun a E=>nt<|wif E hm rfl (fun hm=>?_) fun hm=>?_
    ·refine wp_region_lit<|pr 1 E rfl fun a E=>lb E H 2 rfl rfl rfl rfl rfl rfl rfl U71 rfl fun a E=>pr 2 E rfl fun a E=>lb E H 4 rfl rfl rfl rfl rfl rfl rfl U2 rfl fun a E=>sv E rfl rfl rfl (cL E rfl (E.evs rfl) (v:=.agg #[.int .i64 x1.Session,.int .i64 0,.slice none 0 0]) (by kernel_rfl)) fun a E=>hJ (e:=215) (d:=aO) (cs:=[.int .i64 x1.Session,.int .i64 0,.slice none 0 0]) (xs:=[(⟨x1.Session,0,[]⟩:aD)]) E H (wn rfl) rfl rfl rfl (E.evs rfl) (by kernel_rfl) rfl rfl (fun ok hr=>(Rows.single (d:=aO) (cs:=[.int .i64 x1.Session,.int .i64 0,.slice none 0 0]) (x:=(⟨x1.Session,0,[]⟩:aD)) (lC (Sl.nil _ _ _)))) fun M w a H E=>bk hm fun G hm=>aW E (wn rfl) rfl rfl (cB E rfl rfl (Ps _)) (Se.insert_a (ix:=1) (iu:=0) H rfl rfl (by decide) G) fun N w H a E=>?_
     refine pr 1 E rfl fun a E=>?_
     obtain ⟨q33,O,rfl⟩:=H.rowform (i:=1) rfl
     exact bA (i:=3) E H (wn rfl) rfl rfl rfl rfl rfl rfl Lc rfl rfl fun w H=>nt<|have H:=H.drop 0;have H:=H.frs [0,4,4,4,4] rfl;X3 ⟨E.to rfl,H,n,hm⟩
    ·exact wp_skip<|aC<|have H:=H.frs [0,4,4,4,4] rfl;X3 ⟨E.to rfl,H,n,hm⟩
   ·clear E H hm
    rintro a w ⟨u,y,o,E,H,I,hm⟩
    unfold uV at hm
    refine wp_seq<|dw [(0,0),(1,0),(2,0),(3,0),(4,0),(5,0),(6,0),(7,1),(8,0),(9,2)] [0,1,2,3] [] H (by kernel_rfl) (fun _ _ _ h=>False.elim h.2) fun w W0 hI H=>fn 1 E rfl fun a E=>fb E rfl (wn rfl) rfl rfl rfl rfl mm1 rfl U71 rfl fun a E=>fn 1 E rfl fun a E=>bd hm fun P p hm=>?_
    obtain ⟨Q,R,z⟩:=H.rowformNE (i:=4) rfl p
    refine bT E rfl (wn rfl) rfl rfl (fun w hW=>dG (d:=aO) E z rfl rfl rfl rfl U71 uP p) fun a E=>?_
    refine fbn E (dX x1) rfl (wn rfl) rfl rfl rfl rfl mm3 rfl U35 rfl sO fun a E=>fb E rfl (wn rfl) rfl rfl rfl rfl mm2 rfl U3 rfl fun a E=>fb E rfl (wn rfl) rfl rfl rfl rfl m0 rfl U9 rfl fun a E=>bY rfl<|have H:=H.frs [3,3,3,3,4] rfl;bd hm fun S J hm=>xk E rfl rfl rfl rfl rfl IY (Lj p z H J) fun w H a E=>nt<|?_
    refine ⟨⟨_,_,H,(aB mm1 (aB mm2 (aB mm3 (aB mm4 (aL))))),(aM)⟩,?_⟩
    refine fn 1 E rfl fun a E=>bO rfl<|pr 1 E rfl fun a E=>nt<|bP<|?_
    clear hI
    refine aC<|wp_ret<|aY E rfl rfl<|have H:=H.drop 4;have H:=H.frs [0,3,3,3] rfl;?_
    cases hm
    exact ⟨_,rfl,H.reads I⟩

def fI(f:List aK)(g:ByteArray)(d:Int):Nat→Int→(List aD)→Option (Int×(List aD))
  | 0,_,_=>none
  | j+1,b,e=>
    if (decide (b < (f.length:Int)))=true then ((idx f b).bind fun i=>(zS i g e d).bind fun c=>if c.1=true then (some (b,c.2)) else (fI f g d j (IntKind.i64.wrap (b+1)) c.2)) else (some ((-1),e))
def jN(b:List aK)(d:ByteArray)(e:List aD)(c:Int):Option (Int×(List aD)):=
  fI b d c (((b.length:Int) - 0:Int).toNat+1) 0 e
theorem wF{m z n:Value}{e:List aK}{o p b:Nat}{q:ByteArray}{A:List aD}{c:Int}(H:Sep w (Row 35 bB m e::Blk o 9 [.string q]::Blk p 73 [n,z]::Row 215 aO z A::Blk b 3 [.int .i64 c]::Fo) rs){r:Int×(List aD)}(hm:jN e q A c=some r) :
    Calls Tryz.prog 230 [m,.func (.func 296) #[] #[pt o 0,pt p 0,pt b 0]].toArray w (Ret fun v w'=>∃ B,.int .i64 r.1=v∧Sep w' (Blk o 9 [.string q]::Blk p 73 [n,B]::Blk b 3 [.int .i64 c]::Row 35 bB m e::Row 215 aO B r.2::Fo) (rs)):=by
 unfold jN at hm
 refine ent Tryz.func230 rfl Tryz.ntmps230 rfl rfl fun a E=>sq<|pr 1 E rfl fun a E=>nt<|wp_seq<|sq<|pr 1 E rfl fun a E=>sv E rfl rfl rfl (kK (i:=0) E H rfl rfl rfl U70) fun a E=>pr 1 E rfl fun a E=>?_
 refine nt<|wp_block<|bX (fun l a w=>∃ s t u f,Env 19 a [(0,m),(1,.func (.func 296) #[] #[pt o 0,pt p 0,pt b 0]),(7,.int .i64 (e.length:Int)),(8,.int .i64 t)]∧Sep w (Row 35 bB m e::Blk o 9 [.string q]::Blk p 73 [n,s]::Blk b 3 [.int .i64 c]::Row 215 aO s u::Fo) f∧(∀ r,r ∈ rs→r ∈ f)∧fI e q c l t u=some r) (((e.length:Int) - 0:Int).toNat+1) ?_ ?_
 ·exact have H:=H.frs [3,4,4,4,4] rfl;X4 ⟨E.to rfl,H,Y0,hm⟩
 ·clear E H hm
  rintro l a w ⟨s,t,u,f,E,H,g,hm⟩
  cases l with
  | zero=>exact (bU hm rfl).elim
  | succ l=>
   unfold fI at hm
   refine sq<|pr 1 E rfl fun a E=>nt<|wp_seq<|wif E hm rfl (fun hm=>?_) fun hm=>?_
   ·refine wp_skip<|aC<|wp_seq<|wp_block<|sq<|pr 2 E rfl fun a E=>nx<|pr 3 E rfl fun a E=>bd hm fun k j hm=>?_
    obtain ⟨C,D,x⟩:=H.rowformNE (i:=0) rfl j
    refine sv E rfl rfl rfl (dG (d:=bB) E x rfl rfl rfl rfl U70 sO j) fun a E=>sv E rfl rfl rfl (hP (i:=0) E H jJ x rfl rfl rfl j (us:=[.int .i64 k.Session,.int .i64 k.Num,.string k.Path,.bool k.Deep]) rfl U35 rfl sO) fun a E=>have H:=H.frs [0,3,4,4,4] rfl;bd hm fun F y hm=>aW E (wn rfl) rfl rfl (bR E rfl rfl rfl (Xk _)) (Q8 H y)<|?_
    rintro _ w ⟨G,rfl,H⟩ a E
    refine nt<|wif E hm rfl (fun hm=>?_) fun hm=>?_
    ·refine sq<|pr 2 E rfl fun a E=>nt<|wp_ret<|bW<|aP<|aP<|bW<|aP<|?_
     refine aY E rfl rfl<|have H:=H.frs [3,4,4,4,4] rfl;?_
     cases hm
     exact ⟨_,rfl,H.reads g⟩
    ·exact wp_skip<|bZ<|aC<|wp_region_lit<|pr 2 E rfl fun a E=>nt<|have H:=H.frs [3,3,3,3,4] rfl;⟨l,Nat.lt_succ_self l,X4 ⟨E.to rfl,H,g,hm⟩⟩
   ·refine wp_exit<|bG<|bG<|dN<|aC<|sq<|pr 1 E rfl fun a E=>nt<|wp_ret<|?_
    refine aY E rfl rfl<|have H:=H.frs [4,1,4,4,4] rfl;?_
    cases hm
    exact ⟨_,rfl,H.reads g⟩

def fL(rec_1:(List aK)→Int→Int→(List aD)→Option ((List aK)×(List aD)))(b:Int)(c:(List aK))(d:Int)(e:(List aD)):Option ((List aK)×(List aD)):=
  rec_1 c d (IntKind.i64.wrap (b+1)) e
def eA(j:ByteArray)(e:Int):Nat→(List aK)→Int→Int→(List aD)→Option ((List aK)×(List aD))
  | 0,_,_,_,_=>none
  | k+1,c,b,d,g=>
    if (decide (d < (c.length:Int)))=true then ((idx c d).bind fun i=>(zS i j g e).bind fun f=>if (!f.1)=true then ((idx c b).bind fun l=>fL (eA j e k) d (c.set b.toNat i) (IntKind.i64.wrap (b+1)) f.2) else (fL (eA j e k) d c b f.2)) else ((ck (0 ≤ b∧b ≤ c.length)).bind fun m=>(ck (0 ≤ b∧b ≤ (c.take b.toNat ++ List.replicate (c.length - b.toNat) (⟨0,0,⟨#[]⟩,false⟩:aK)).length)).bind fun n=>some ((c.take b.toNat ++ List.replicate (c.length - b.toNat) (⟨0,0,⟨#[]⟩,false⟩:aK)).take b.toNat,g))
def jS(c:List aK)(e:ByteArray)(f:List aD)(d:Int):Option ((List aK)×(List aD)):=
  (jN c e f d).bind fun b=>if (b.1 == (-1))=true then (some (c,b.2)) else (eA e d (((c.length:Int) - (IntKind.i64.wrap (b.1+1)):Int).toNat+1) c b.1 (IntKind.i64.wrap (b.1+1)) b.2)
theorem xB{t O s:Value}{J:List aK}{g j c:Nat}{k:ByteArray}{P:List aD}{e:Int}(H:Sep w (Row 35 bB t J::Blk g 9 [.string k]::Blk j 73 [s,O]::Row 215 aO O P::Blk c 3 [.int .i64 e]::Fo) rs){r:(List aK)×(List aD)}(hm:jS J k P e=some r) :
    Calls Tryz.prog 295 [t,.func (.func 296) #[] #[pt g 0,pt j 0,pt c 0]].toArray w (Ret fun v w'=>∃ Q R,Q=v∧Sep w' (Row 35 bB Q r.1::Blk g 9 [.string k]::Blk j 73 [s,R]::Blk c 3 [.int .i64 e]::Row 215 aO R r.2::Fo) (rs)):=by
 unfold jS at hm
 refine ent Tryz.func295 rfl Tryz.ntmps295 rfl rfl fun a E=>sq<|pr 1 E rfl fun a E=>nx<|pr 2 E rfl fun a E=>bd hm fun S K hm=>cF E rfl rfl rfl rfl rfl Pm (wF H K)<|?_
 rintro _ w ⟨T,rfl,H⟩ a E
 refine pr 1 E rfl fun a E=>nt<|wp_seq<|sq<|pr 2 E rfl fun a E=>nt<|wif E hm rfl (fun hm=>?_) fun hm=>?_
 ·refine sq<|pr 2 E rfl fun a E=>nt<|wp_ret<|aP<|aY E rfl rfl<|have H:=H.frs [4,3,3,3,4] rfl;?_
  cases hm
  exact ⟨_,_,rfl,H.reads Y0⟩
 ·refine wp_skip<|aC<|wp_seq<|sq<|pr 3 E rfl fun a E=>nt<|wp_block<|bX (fun l a w=>∃ u x y f z m,Env 42 a [(0,t),(1,.func (.func 296) #[] #[pt g 0,pt j 0,pt c 0]),(5,.int .i64 y),(6,.int .i64 f)]∧Sep w (Row 35 bB t x::Blk g 9 [.string k]::Blk j 73 [s,u]::Blk c 3 [.int .i64 e]::Row 215 aO u z::Fo) m∧(∀ r,r ∈ rs→r ∈ m)∧eA k e l x y f z=some r) (((J.length:Int) - (IntKind.i64.wrap (S.1+1)):Int).toNat+1) ?_ ?_
  ·exact have H:=H.frs [4,3,3,3,4] rfl;X6 ⟨E.to rfl,H,Y0,hm⟩
  ·clear E H hm
   rintro l a w ⟨u,x,y,f,z,m,E,H,n,hm⟩
   cases l with
   | zero=>exact (bU hm rfl).elim
   | succ l=>
    unfold eA at hm
    refine wp_seq<|sq<|pr 2 E rfl fun a E=>sv E rfl rfl rfl (kK (i:=0) E H rfl rfl rfl U70) fun a E=>pr 1 E rfl fun a E=>nt<|wif E hm rfl (fun hm=>?_) fun hm=>?_
    ·refine wp_skip<|aC<|aV (fun a w=>∃ A B C D o,Env 42 a [(0,t),(1,.func (.func 296) #[] #[pt g 0,pt j 0,pt c 0]),(5,.int .i64 C),(6,.int .i64 f)]∧Sep w (Row 35 bB t B::Blk g 9 [.string k]::Blk j 73 [s,A]::Blk c 3 [.int .i64 e]::Row 215 aO A D::Fo) o∧(∀ r,r ∈ rs→r ∈ o)∧fL (eA k e l) f B C D=some r) ?_ ?_
     ·refine wp_block<|sq<|pr 2 E rfl fun a E=>bd hm fun b p hm=>?_
      obtain ⟨U,V,F⟩:=H.rowformNE (i:=0) rfl p
      refine sv E rfl rfl rfl (dG (d:=bB) E F rfl rfl rfl rfl U70 sO p) fun a E=>sv E rfl rfl rfl (hP (i:=0) E H jJ F rfl rfl rfl p (us:=[.int .i64 b.Session,.int .i64 b.Num,.string b.Path,.bool b.Deep]) rfl U35 rfl sO) fun a E=>al E H rfl rfl rfl rfl CV fun W w a H E=>bA (i:=0) E H (wn rfl) rfl rfl rfl rfl rfl rfl sO rfl rfl fun w H=>nx<|pr 1 E rfl fun a E=>sv E rfl rfl rfl (cC (i:=0) (us:=(dX b)) E H rfl rfl rfl rfl U35 rfl sO) fun a E=>have H:=H.frs [1,1,4,5,5,5] rfl;bd hm fun X L hm=>?_
      refine aW E (wn rfl) rfl rfl (bR E rfl rfl rfl (Xk _)) (Q8 H L)<|?_
      rintro _ w ⟨Y,rfl,H⟩ a E
      refine pr 1 E rfl fun a E=>nt<|wif E hm rfl (fun hm=>?_) fun hm=>?_
      ·refine sq<|pr 2 E rfl fun a E=>sv E rfl rfl rfl (cC (i:=4) (us:=(dX b)) E H rfl rfl rfl rfl U35 rfl sO) fun a E=>bd hm fun Z q hm=>?_
       obtain ⟨b0,b1,G⟩:=H.rowformNE (i:=5) rfl q
       refine sv E rfl rfl rfl (dG (d:=bB) E G rfl rfl rfl rfl U70 sO q) fun a E=>y2 (d:=bB) (i:=5) (us:=[.int .i64 b.Session,.int .i64 b.Num,.string b.Path,.bool b.Deep]) (z':=b) E H jJ (wn rfl) rfl G rfl rfl rfl rfl rfl rfl rfl q sO fun w H=>nt<|wp_region_lit<|pr 3 E rfl fun a E=>wpList_nil<|bZ<|aC<|have H:=H.drop 4;?_
       exact have H:=H.frs [3,3,3,3,4] rfl;X5 ⟨E.to rfl,H,n,hm⟩
      ·exact wp_skip<|bZ<|aC<|have H:=H.drop 4;have H:=H.frs [3,3,3,3,4] rfl;X5 ⟨E.to rfl,H,n,hm⟩
     ·clear E H hm
      rintro a w ⟨A,B,C,D,o,E,H,M,hm⟩
      unfold fL at hm
      exact wp_region_lit<|pr 3 E rfl fun a E=>nt<|⟨l,Nat.lt_succ_self l,X6 ⟨E.to rfl,H,M,hm⟩⟩
    ·refine wp_exit<|bG<|bG<|dN<|aC<|sq<|pr 2 E rfl fun a E=>bk hm fun I hm=>sv E rfl rfl rfl (S6 (d:=bB) (i:=0) E H rfl rfl rfl rfl U70 sO I) fun a E=>?_
     refine D4 (i:=0) (z0:=(⟨0,0,⟨#[]⟩,false⟩:aK)) E H jJ (wn rfl) rfl rfl rfl U70 IZ rfl rfl rfl I fun w H=>nx<|pr 2 E rfl fun a E=>bk hm fun N hm=>L5 (i:=0) E H jJ (wn rfl) rfl rfl rfl rfl rfl rfl U70 sO N fun b2 a H E=>pr 1 E rfl fun a E=>nt<|wp_ret<|aY E rfl rfl<|?_
     cases hm
     exact ⟨_,_,rfl,H.reads n⟩

def sI(x1:Int):Option Bool:=
  if (decide (x1 ≥ 1))=true then (some (decide (x1 ≤ 281474976710656))) else (some (false))
theorem zT{x1:Int}(H:Sep w (Fo) rs){r:Bool}(hm:sI x1=some r) :
    Calls Tryz.prog 229 [.int .i64 x1].toArray w (Ret fun v w'=>.bool r=v∧Sep w' (Fo) (rs)):=by
 unfold sI at hm
 refine ent Tryz.func229 rfl Tryz.ntmps229 rfl rfl fun a E=>sq<|pr 1 E rfl fun a E=>nx<|pr 3 E rfl fun a E=>cs hm (fun b hm=>?_) fun b hm=>?_
 ·refine pk 4 E (kc 5 rfl b) rfl fun a E=>nt<|wp_ret<|aY E rfl rfl<|?_
  cases hm
  exact ⟨rfl,H.reads Y0⟩
 ·refine pk 4 E (kc 5 rfl b) rfl fun a E=>nt<|wp_ret<|aY E rfl rfl<|?_
  cases hm
  exact ⟨rfl,H.reads Y0⟩

def jF(rec_1:Int→Option Bool)(c:Int)(b:Bool):Option Bool:=
  if b=true then (some (false)) else (rec_1 (IntKind.i64.wrap (c+1)))
def gC(x1:aD):Nat→Int→Option Bool
  | 0,_=>none
  | d+1,c=>
    if (decide (c < (x1.Events.length:Int)))=true then ((idx x1.Events c).bind fun b=>if (b.Num != (IntKind.i64.wrap ((IntKind.i64.wrap ((IntKind.i64.wrap (x1.Count - (x1.Events.length:Int)))+1))+c)))=true then (jF (gC x1 d) c true) else (if (decide (b.Num < 1))=true then (jF (gC x1 d) c true) else (if (decide (b.Kind < 1))=true then (jF (gC x1 d) c true) else (if (decide (b.Kind > 4))=true then (jF (gC x1 d) c true) else ((eG b.Path).bind fun e=>if (!e)=true then (jF (gC x1 d) c true) else ((sI b.Watch).bind fun f=>jF (gC x1 d) c (!f))))))) else (some (true))
def nR(x1:aD)(b:Bool):Option Bool:=
  if b=true then (some (false)) else (gC x1 (((x1.Events.length:Int) - 0:Int).toNat+1) 0)
def z8(x1:aD):Option Bool:=
  (sI x1.Num).bind fun b=>if (!b)=true then (nR x1 true) else (if (decide (x1.Count < 0))=true then (nR x1 true) else (if (decide (x1.Count > 281474976710656))=true then (nR x1 true) else (nR x1 (decide ((x1.Events.length:Int) > 8)))))
theorem Fy{x1:aD}{s:Value}(H:Sep w (Fo) rs)(p:rSl aX s x1.Events ∈ rs){r:Bool}(hm:z8 x1=some r) :
    Calls Tryz.prog 228 [.agg (nD x1 s).toArray].toArray w (Ret fun v w'=>.bool r=v∧Sep w' (Fo) (rs)):=by
 unfold z8 at hm
 refine ent Tryz.func228 rfl Tryz.ntmps228 rfl rfl fun a E=>sq<|bS E H (wn rfl) rfl rfl rfl rfl rfl fun G w a H E=>pr 1 E rfl fun a E=>nt<|wp_seq<|aV (fun a w=>∃ A t,Env 75 a [(1,pt G 0),(25,.bool A)]∧Sep w (Blk G 215 (nD x1 s)::Fo) t∧(∀ r,r ∈ rs→r ∈ t)∧nR x1 A=some r) ?_ ?_
 ·refine wp_region_lit<|pr 1 E rfl fun a E=>lb E H 0 rfl rfl rfl rfl rfl rfl rfl U2 rfl fun a E=>bd hm fun I B hm=>xk E rfl rfl rfl rfl rfl Je (zT H B) fun w H a E=>pr 2 E rfl fun a E=>cs hm (fun g hm=>?_) fun g hm=>?_
  ·exact pk 15 E (kc 10 rfl g) rfl fun a E=>nt<|⟨_,_,E.to rfl,H,Y0,hm⟩
  ·refine pk 1 E (kc 10 rfl g) rfl fun a E=>aQ E (ws' (d:=10) E rfl rfl rfl rfl g) rfl rfl (cD (i:=0) E H rfl rfl rfl rfl U2 rfl) fun a E=>pk 3 E (kc 10 rfl g) rfl fun a E=>cs hm (fun j hm=>?_) fun j hm=>?_
   ·exact pk 10 E (kc 15 rfl j) rfl fun a E=>nt<|⟨_,_,E.to rfl,H,Y0,hm⟩
   ·refine pk 1 E (kc 15 rfl j) rfl fun a E=>aQ E (ws' (d:=15) E rfl rfl rfl rfl j) rfl rfl (cD (i:=0) E H rfl rfl rfl rfl U2 rfl) fun a E=>pk 3 E (kc 15 rfl j) rfl fun a E=>cs hm (fun c hm=>?_) fun c hm=>?_
    ·exact pk 5 E (kc 20 rfl c) rfl fun a E=>nt<|⟨_,_,E.to rfl,H,Y0,hm⟩
    ·exact pk 1 E (kc 20 rfl c) rfl fun a E=>aQ E (ws' (d:=20) E rfl rfl rfl rfl c) rfl rfl (cD (i:=0) E H rfl rfl rfl rfl U44 rfl) fun a E=>aQ E (ws' (d:=20) E rfl rfl rfl rfl c) rfl rfl (cV E H rfl rfl p U44) fun a E=>pk 2 E (kc 20 rfl c) rfl fun a E=>nt<|⟨_,_,E.to rfl,H,Y0,hm⟩
 ·clear E H hm
  rintro a w ⟨A,t,E,H,q,hm⟩
  unfold nR at hm
  refine wif E hm rfl (fun hm=>?_) fun hm=>?_
  ·refine sq<|pr 1 E rfl fun a E=>nt<|wp_ret<|aP<|aY E rfl rfl<|have H:=H.drop 0;?_
   cases hm
   exact ⟨rfl,H.reads q⟩
  ·refine wp_skip<|aC<|sq<|pr 1 E rfl fun a E=>lb E H 0 rfl rfl rfl rfl rfl rfl rfl U2 rfl fun a E=>pr 1 E rfl fun a E=>lb E H 0 rfl rfl rfl rfl rfl rfl rfl U44 rfl fun a E=>sv E rfl rfl rfl (cV E H rfl rfl (q _ p) U44) fun a E=>pr 3 E rfl fun a E=>?_
   refine nt<|wp_seq<|sq<|pr 1 E rfl fun a E=>lb E H 0 rfl rfl rfl rfl rfl rfl rfl U44 rfl fun a E=>sv E rfl rfl rfl (cV E H rfl rfl (q _ p) U44) fun a E=>pr 1 E rfl fun a E=>nt<|wp_block<|bX (fun n a w=>∃ u x,Env 75 a [(3,.int .i64 (IntKind.i64.wrap ((IntKind.i64.wrap (x1.Count - (x1.Events.length:Int)))+1))),(34,s),(35,.int .i64 (x1.Events.length:Int)),(36,.int .i64 u)]∧Sep w (Fo) x∧(∀ r,r ∈ rs→r ∈ x)∧gC x1 n u=some r) (((x1.Events.length:Int) - 0:Int).toNat+1) ?_ ?_
   ·exact have H:=H.drop 0;⟨_,_,E.to rfl,H,q,hm⟩
   ·clear E H hm
    rintro n a w ⟨u,x,E,H,b,hm⟩
    cases n with
    | zero=>exact (bU hm rfl).elim
    | succ n=>
     unfold gC at hm
     refine sq<|pr 1 E rfl fun a E=>nt<|wp_seq<|wif E hm rfl (fun hm=>?_) fun hm=>?_
     ·refine wp_skip<|aC<|wp_seq<|wp_block<|sq<|pr 1 E rfl fun a E=>bd hm fun J C hm=>dR E H (wn rfl) rfl rfl rfl rfl rfl (b _ p) U44 uQ C fun q13 a H E=>ldf pQ E H rfl rfl rfl rfl rfl m0 Gn rfl uQ fun a E=>?_
      refine al E H rfl rfl rfl rfl Pn fun K w a H E=>pr 1 E rfl fun a E=>bA (i:=0) E H (wn rfl) rfl rfl rfl rfl rfl rfl uQ rfl rfl fun w H=>nt<|aV (fun a w=>∃ y o,Env 75 a [(3,.int .i64 (IntKind.i64.wrap ((IntKind.i64.wrap (x1.Count - (x1.Events.length:Int)))+1))),(34,s),(35,.int .i64 (x1.Events.length:Int)),(36,.int .i64 u),(73,.bool y)]∧Sep w (Fo) o∧(∀ r,r ∈ rs→r ∈ o)∧jF (gC x1 n) u y=some r) ?_ ?_
      ·refine wp_region_lit<|pr 1 E rfl fun a E=>lb E H 0 rfl rfl rfl rfl rfl rfl rfl U2 rfl fun a E=>pr 5 E rfl fun a E=>cs hm (fun k hm=>?_) fun k hm=>?_
       ·exact pk 26 E (kc 47 rfl k) rfl fun a E=>nt<|have H:=H.drop 0;⟨_,_,E.to rfl,H,(Y1 b),hm⟩
       ·refine pk 1 E (kc 47 rfl k) rfl fun a E=>aQ E (ws' (d:=47) E rfl rfl rfl rfl k) rfl rfl (cD (i:=0) E H rfl rfl rfl rfl U2 rfl) fun a E=>pk 3 E (kc 47 rfl k) rfl fun a E=>cs hm (fun l hm=>?_) fun l hm=>?_
        ·exact pk 21 E (kc 52 rfl l) rfl fun a E=>nt<|have H:=H.drop 0;⟨_,_,E.to rfl,H,(Y1 b),hm⟩
        ·refine pk 1 E (kc 52 rfl l) rfl fun a E=>aQ E (ws' (d:=52) E rfl rfl rfl rfl l) rfl rfl (cD (i:=0) E H rfl rfl rfl rfl U3 rfl) fun a E=>pk 3 E (kc 52 rfl l) rfl fun a E=>cs hm (fun m hm=>?_) fun m hm=>?_
         ·exact pk 16 E (kc 57 rfl m) rfl fun a E=>nt<|have H:=H.drop 0;⟨_,_,E.to rfl,H,(Y1 b),hm⟩
         ·refine pk 1 E (kc 57 rfl m) rfl fun a E=>aQ E (ws' (d:=57) E rfl rfl rfl rfl m) rfl rfl (cD (i:=0) E H rfl rfl rfl rfl U3 rfl) fun a E=>pk 3 E (kc 57 rfl m) rfl fun a E=>cs hm (fun e hm=>?_) fun e hm=>?_
          ·exact pk 11 E (kc 62 rfl e) rfl fun a E=>nt<|have H:=H.drop 0;⟨_,_,E.to rfl,H,(Y1 b),hm⟩
          ·refine pk 1 E (kc 62 rfl e) rfl fun a E=>aQ E (ws' (d:=62) E rfl rfl rfl rfl e) rfl rfl (cD (i:=0) E H rfl rfl rfl rfl U9 rfl) fun a E=>bd hm fun L D hm=>aW E (ws' (d:=62) E rfl rfl rfl rfl e) rfl rfl (cB E rfl rfl (y7 _)) (hZ H D)<|?_
           rintro _ w ⟨rfl,H⟩ a E
           refine pk 3 E (kc 62 rfl e) rfl fun a E=>cs hm (fun f hm=>?_) fun f hm=>?_
           ·exact pk 5 E (kc 68 rfl f) rfl fun a E=>nt<|have H:=H.drop 0;⟨_,_,E.to rfl,H,(Y1 b),hm⟩
           ·refine pk 1 E (kc 68 rfl f) rfl fun a E=>aQ E (ws' (d:=68) E rfl rfl rfl rfl f) rfl rfl (cD (i:=0) E H rfl rfl rfl rfl U2 rfl) fun a E=>bd hm fun M F hm=>aW E (ws' (d:=68) E rfl rfl rfl rfl f) rfl rfl (cB E rfl rfl (Je _)) (zT H F)<|?_
            rintro _ w ⟨rfl,H⟩ a E
            exact pk 2 E (kc 68 rfl f) rfl fun a E=>nt<|have H:=H.drop 0;⟨_,_,E.to rfl,H,(Y1 b),hm⟩
      ·clear E H hm
       rintro a w ⟨y,o,E,H,z,hm⟩
       unfold jF at hm
       refine wif E hm rfl (fun hm=>?_) fun hm=>?_
       ·refine sq<|pr 1 E rfl fun a E=>nt<|wp_ret<|bW<|aP<|aP<|bW<|aP<|?_
        refine aY E rfl rfl<|?_
        cases hm
        exact ⟨rfl,H.reads z⟩
       ·exact wp_skip<|bZ<|aC<|wp_region_lit<|pr 2 E rfl fun a E=>nt<|⟨n,Nat.lt_succ_self n,_,_,E.to rfl,H,z,hm⟩
     ·refine wp_exit<|bG<|bG<|dN<|aC<|sq<|pr 1 E rfl fun a E=>nt<|wp_ret<|?_
      refine aY E rfl rfl<|?_
      cases hm
      exact ⟨rfl,H.reads b⟩

def rU(x1:aD):Option Bool:=
  (z8 x1).bind fun b=>some (!b)
theorem H8{x1:aD}{b:Value}{c:Nat}(H:Sep w (Blk c 277 [.func (.func 228) #[] #[]]::Fo) rs)(d:rSl aX b x1.Events ∈ rs){r:Bool}(hm:rU x1=some r) :
    Calls Tryz.prog 283 [.agg (nD x1 b).toArray,pt c 0].toArray w (Ret fun v w'=>.bool r=v∧Sep w' (Blk c 277 [.func (.func 228) #[] #[]]::Fo) (rs)):=by
 unfold rU at hm
 refine ent Tryz.func283 rfl Tryz.ntmps283 rfl rfl fun a E=>sq<|bS E H (wn rfl) rfl rfl rfl rfl rfl fun f w a H E=>pr 1 E rfl fun a E=>nx<|lb E H 1 rfl rfl rfl rfl rfl rfl rfl LC rfl fun a E=>sv E rfl rfl rfl (cC (i:=0) (us:=(nD x1 b)) E H rfl rfl rfl rfl Gm rfl uP) fun a E=>bd hm fun g e hm=>aW E (wn rfl) rfl rfl (bR E rfl rfl rfl (HD _)) (Fy H d e)<|?_
 rintro _ w ⟨rfl,H⟩ a E
 refine pr 2 E rfl fun a E=>nt<|wp_ret<|aY E rfl rfl<|have H:=H.drop 0;?_
 cases hm
 exact ⟨rfl,H.reads Y0⟩

def eY(c:List aD):Nat→Int→Option Int
  | 0,_=>none
  | e+1,b=>
    if (decide (b < (c.length:Int)))=true then ((idx c b).bind fun f=>(rU f).bind fun d=>if d=true then (some (b)) else (eY c e (IntKind.i64.wrap (b+1)))) else (some ((-1)))
def iR(b:List aD):Option Int:=
  eY b (((b.length:Int) - 0:Int).toNat+1) 0
theorem vH{i:Value}{d:List aD}{e:Nat}(H:Sep w (Blk e 277 [.func (.func 228) #[] #[]]::Fo) rs)(g:rSl aO i d ∈ rs){r:Int}(hm:iR d=some r) :
    Calls Tryz.prog 322 [i,.func (.func 283) #[] #[pt e 0]].toArray w (Ret fun v w'=>.int .i64 r=v∧Sep w' (Blk e 277 [.func (.func 228) #[] #[]]::Fo) (rs)):=by
 unfold iR at hm
 refine ent Tryz.func322 rfl Tryz.ntmps322 rfl rfl fun a E=>sq<|pr 1 E rfl fun a E=>nt<|wp_seq<|sq<|pr 1 E rfl fun a E=>sv E rfl rfl rfl (cV E H rfl rfl g U71) fun a E=>pr 1 E rfl fun a E=>?_
 refine nt<|wp_block<|bX (fun c a w=>∃ j f,Env 19 a [(0,i),(1,.func (.func 283) #[] #[pt e 0]),(7,.int .i64 (d.length:Int)),(8,.int .i64 j)]∧Sep w (Blk e 277 [.func (.func 228) #[] #[]]::Fo) f∧(∀ r,r ∈ rs→r ∈ f)∧eY d c j=some r) (((d.length:Int) - 0:Int).toNat+1) ?_ ?_
 ·exact ⟨_,_,E.to rfl,H,Y0,hm⟩
 ·clear E H hm
  rintro c a w ⟨j,f,E,H,b,hm⟩
  cases c with
  | zero=>exact (bU hm rfl).elim
  | succ c=>
   unfold eY at hm
   refine sq<|pr 1 E rfl fun a E=>nt<|wp_seq<|wif E hm rfl (fun hm=>?_) fun hm=>?_
   ·refine wp_skip<|aC<|wp_seq<|wp_block<|sq<|pr 2 E rfl fun a E=>nx<|pr 3 E rfl fun a E=>bd hm fun p l hm=>?_
    refine dR E H (wn rfl) rfl rfl rfl rfl rfl (b _ g) U71 uP l fun q10 a H E=>W9 E H (wn rfl) rfl rfl rfl rfl m0 Gm rfl uP fun m a H E=>?_
    obtain ⟨n,rfl,h⟩:=F2 H;clear H;have H:=h
    refine bd hm fun o k hm=>aW E (wn rfl) rfl rfl (bR E rfl rfl rfl (HC _)) (H8 H m0 k)<|?_
    rintro _ w ⟨rfl,H⟩ a E
    refine nt<|wif E hm rfl (fun hm=>?_) fun hm=>?_
    ·refine sq<|pr 2 E rfl fun a E=>nt<|wp_ret<|bW<|aP<|aP<|bW<|aP<|?_
     refine aY E rfl rfl<|?_
     cases hm
     exact ⟨rfl,H.reads (Y3 b)⟩
    ·exact wp_skip<|bZ<|aC<|wp_region_lit<|pr 2 E rfl fun a E=>nt<|⟨c,Nat.lt_succ_self c,_,_,E.to rfl,H,(Y3 b),hm⟩
   ·refine wp_exit<|bG<|bG<|dN<|aC<|sq<|pr 1 E rfl fun a E=>nt<|wp_ret<|?_
    refine aY E rfl rfl<|?_
    cases hm
    exact ⟨rfl,H.reads b⟩

def iD(b:List aD):Option Bool:=
  (iR b).bind fun c=>some (decide (c ≥ 0))
theorem uC{c:Value}{d:List aD}{b:Nat}(H:Sep w (Blk b 277 [.func (.func 228) #[] #[]]::Fo) rs)(e:rSl aO c d ∈ rs){r:Bool}(hm:iD d=some r) :
    Calls Tryz.prog 282 [c,.func (.func 283) #[] #[pt b 0]].toArray w (Ret fun v w'=>.bool r=v∧Sep w' (Blk b 277 [.func (.func 228) #[] #[]]::Fo) (rs)):=by
 unfold iD at hm
 refine ent Tryz.func282 rfl Tryz.ntmps282 rfl rfl fun a E=>sq<|pr 1 E rfl fun a E=>nx<|pr 2 E rfl fun a E=>bd hm fun g f hm=>xk E rfl rfl rfl rfl rfl HB (vH H e f) fun w H a E=>pr 2 E rfl fun a E=>nt<|?_
 refine wp_ret<|aY E rfl rfl<|?_
 cases hm
 exact ⟨rfl,H.reads Y0⟩

def tG(b:List aD):Option Bool:=
  (iD b).bind fun c=>some (!c)
theorem K9{b:Value}{c:List aD}(H:Sep w (Fo) rs)(d:rSl aO b c ∈ rs){r:Bool}(hm:tG c=some r) :
    Calls Tryz.prog 227 [b,.func (.func 228) #[] #[]].toArray w (Ret fun v w'=>.bool r=v∧Sep w' (Fo) (rs)):=by
 unfold tG at hm
 refine ent Tryz.func227 rfl Tryz.ntmps227 rfl rfl fun a E=>sq<|bS E H (wn rfl) rfl rfl rfl rfl rfl fun f w a H E=>pr 1 E rfl fun a E=>nx<|pr 1 E rfl fun a E=>sv E rfl rfl rfl (kJ E rfl rfl rfl) fun a E=>bd hm fun g e hm=>xk E rfl rfl rfl rfl rfl HA (uC H d e) fun w H a E=>?_
 refine pr 2 E rfl fun a E=>nt<|wp_ret<|aY E rfl rfl<|have H:=H.drop 0;?_
 cases hm
 exact ⟨rfl,H.reads Y0⟩

def s2(x1:aK):Option Bool:=
  (sI x1.Session).bind fun b=>if b=true then ((sI x1.Num).bind fun c=>if c=true then ((eG x1.Path).bind fun d=>some (d)) else (some (false))) else (some (false))
theorem V8{x1:aK}(H:Sep w (Fo) rs){r:Bool}(hm:s2 x1=some r) :
    Calls Tryz.prog 161 [.agg (dX x1).toArray].toArray w (Ret fun v w'=>.bool r=v∧Sep w' (Fo) (rs)):=by
 unfold s2 at hm
 refine ent Tryz.func161 rfl Tryz.ntmps161 rfl rfl fun a E=>sq<|bS E H (wn rfl) rfl rfl rfl rfl rfl fun j w a H E=>pr 1 E rfl fun a E=>nx<|pr 1 E rfl fun a E=>lb E H 0 rfl rfl rfl rfl rfl rfl rfl U2 rfl fun a E=>bd hm fun k f hm=>xk E rfl rfl rfl rfl rfl Je (zT H f) fun w H a E=>?_
 refine pr 1 E rfl fun a E=>cs hm (fun b hm=>?_) fun b hm=>?_
 ·refine pk 1 E (kc 6 rfl b) rfl fun a E=>aQ E (ws' (d:=6) E rfl rfl rfl rfl b) rfl rfl (cD (i:=0) E H rfl rfl rfl rfl U2 rfl) fun a E=>bd hm fun l g hm=>aW E (ws' (d:=6) E rfl rfl rfl rfl b) rfl rfl (cB E rfl rfl (Je _)) (zT H g)<|?_
  rintro _ w ⟨rfl,H⟩ a E
  refine pk 2 E (kc 6 rfl b) rfl fun a E=>cs hm (fun c hm=>?_) fun c hm=>?_
  ·refine pk 1 E (kc 11 rfl c) rfl fun a E=>aQ E (ws' (d:=11) E rfl rfl rfl rfl c) rfl rfl (cD (i:=0) E H rfl rfl rfl rfl U9 rfl) fun a E=>bd hm fun m e hm=>aW E (ws' (d:=11) E rfl rfl rfl rfl c) rfl rfl (cB E rfl rfl (y7 _)) (hZ H e)<|?_
   rintro _ w ⟨rfl,H⟩ a E
   refine pk 2 E (kc 11 rfl c) rfl fun a E=>nt<|wp_ret<|aY E rfl rfl<|have H:=H.drop 0;?_
   cases hm
   exact ⟨rfl,H.reads Y0⟩
  ·refine pk 5 E (kc 11 rfl c) rfl fun a E=>nt<|wp_ret<|aY E rfl rfl<|have H:=H.drop 0;?_
   cases hm
   exact ⟨rfl,H.reads Y0⟩
 ·refine pk 10 E (kc 6 rfl b) rfl fun a E=>nt<|wp_ret<|aY E rfl rfl<|have H:=H.drop 0;?_
  cases hm
  exact ⟨rfl,H.reads Y0⟩

def tH(x1:aK):Option Bool:=
  (s2 x1).bind fun b=>some (!b)
theorem L1{x1:aK}{b:Nat}(H:Sep w (Blk b 211 [.func (.func 161) #[] #[]]::Fo) rs){r:Bool}(hm:tH x1=some r) :
    Calls Tryz.prog 281 [.agg (dX x1).toArray,pt b 0].toArray w (Ret fun v w'=>.bool r=v∧Sep w' (Blk b 211 [.func (.func 161) #[] #[]]::Fo) (rs)):=by
 unfold tH at hm
 refine ent Tryz.func281 rfl Tryz.ntmps281 rfl rfl fun a E=>sq<|bS E H (wn rfl) rfl rfl rfl rfl rfl fun d w a H E=>pr 1 E rfl fun a E=>nx<|lb E H 1 rfl rfl rfl rfl rfl rfl rfl LB rfl fun a E=>sv E rfl rfl rfl (cC (i:=0) (us:=(dX x1)) E H rfl rfl rfl rfl U35 rfl sO) fun a E=>bd hm fun e c hm=>aW E (wn rfl) rfl rfl (bR E rfl rfl rfl (Xb _)) (V8 H c)<|?_
 rintro _ w ⟨rfl,H⟩ a E
 refine pr 2 E rfl fun a E=>nt<|wp_ret<|aY E rfl rfl<|have H:=H.drop 0;?_
 cases hm
 exact ⟨rfl,H.reads Y0⟩

def fS(c:List aK):Nat→Int→Option Int
  | 0,_=>none
  | e+1,b=>
    if (decide (b < (c.length:Int)))=true then ((idx c b).bind fun f=>(tH f).bind fun d=>if d=true then (some (b)) else (fS c e (IntKind.i64.wrap (b+1)))) else (some ((-1)))
def kC(b:List aK):Option Int:=
  fS b (((b.length:Int) - 0:Int).toNat+1) 0
theorem xV{i:Value}{d:List aK}{e:Nat}(H:Sep w (Blk e 211 [.func (.func 161) #[] #[]]::Fo) rs)(g:rSl bB i d ∈ rs){r:Int}(hm:kC d=some r) :
    Calls Tryz.prog 230 [i,.func (.func 281) #[] #[pt e 0]].toArray w (Ret fun v w'=>.int .i64 r=v∧Sep w' (Blk e 211 [.func (.func 161) #[] #[]]::Fo) (rs)):=by
 unfold kC at hm
 refine ent Tryz.func230 rfl Tryz.ntmps230 rfl rfl fun a E=>sq<|pr 1 E rfl fun a E=>nt<|wp_seq<|sq<|pr 1 E rfl fun a E=>sv E rfl rfl rfl (cV E H rfl rfl g U70) fun a E=>pr 1 E rfl fun a E=>?_
 refine nt<|wp_block<|bX (fun c a w=>∃ j f,Env 19 a [(0,i),(1,.func (.func 281) #[] #[pt e 0]),(7,.int .i64 (d.length:Int)),(8,.int .i64 j)]∧Sep w (Blk e 211 [.func (.func 161) #[] #[]]::Fo) f∧(∀ r,r ∈ rs→r ∈ f)∧fS d c j=some r) (((d.length:Int) - 0:Int).toNat+1) ?_ ?_
 ·exact ⟨_,_,E.to rfl,H,Y0,hm⟩
 ·clear E H hm
  rintro c a w ⟨j,f,E,H,b,hm⟩
  cases c with
  | zero=>exact (bU hm rfl).elim
  | succ c=>
   unfold fS at hm
   refine sq<|pr 1 E rfl fun a E=>nt<|wp_seq<|wif E hm rfl (fun hm=>?_) fun hm=>?_
   ·refine wp_skip<|aC<|wp_seq<|wp_block<|sq<|pr 2 E rfl fun a E=>nx<|pr 3 E rfl fun a E=>bd hm fun n l hm=>?_
    refine dR E H (wn rfl) rfl rfl rfl rfl rfl (b _ g) U70 sO l fun q10 a H E=>ldf jJ E H rfl rfl rfl rfl rfl m0 U35 rfl sO fun a E=>bd hm fun m k hm=>aW E (wn rfl) rfl rfl (bR E rfl rfl rfl (GY _)) (L1 H k)<|?_
    rintro _ w ⟨rfl,H⟩ a E
    refine nt<|wif E hm rfl (fun hm=>?_) fun hm=>?_
    ·refine sq<|pr 2 E rfl fun a E=>nt<|wp_ret<|bW<|aP<|aP<|bW<|aP<|?_
     refine aY E rfl rfl<|?_
     cases hm
     exact ⟨rfl,H.reads (Y1 b)⟩
    ·exact wp_skip<|bZ<|aC<|wp_region_lit<|pr 2 E rfl fun a E=>nt<|⟨c,Nat.lt_succ_self c,_,_,E.to rfl,H,(Y1 b),hm⟩
   ·refine wp_exit<|bG<|bG<|dN<|aC<|sq<|pr 1 E rfl fun a E=>nt<|wp_ret<|?_
    refine aY E rfl rfl<|?_
    cases hm
    exact ⟨rfl,H.reads b⟩

def jA(b:List aK):Option Bool:=
  (kC b).bind fun c=>some (decide (c ≥ 0))
theorem vT{c:Value}{d:List aK}{b:Nat}(H:Sep w (Blk b 211 [.func (.func 161) #[] #[]]::Fo) rs)(e:rSl bB c d ∈ rs){r:Bool}(hm:jA d=some r) :
    Calls Tryz.prog 280 [c,.func (.func 281) #[] #[pt b 0]].toArray w (Ret fun v w'=>.bool r=v∧Sep w' (Blk b 211 [.func (.func 161) #[] #[]]::Fo) (rs)):=by
 unfold jA at hm
 refine ent Tryz.func280 rfl Tryz.ntmps280 rfl rfl fun a E=>sq<|pr 1 E rfl fun a E=>nx<|pr 2 E rfl fun a E=>bd hm fun g f hm=>xk E rfl rfl rfl rfl rfl Pm (xV H e f) fun w H a E=>pr 2 E rfl fun a E=>nt<|?_
 refine wp_ret<|aY E rfl rfl<|?_
 cases hm
 exact ⟨rfl,H.reads Y0⟩

def vI(b:List aK):Option Bool:=
  (jA b).bind fun c=>some (!c)
theorem Q9{b:Value}{c:List aK}(H:Sep w (Fo) rs)(d:rSl bB b c ∈ rs){r:Bool}(hm:vI c=some r) :
    Calls Tryz.prog 226 [b,.func (.func 161) #[] #[]].toArray w (Ret fun v w'=>.bool r=v∧Sep w' (Fo) (rs)):=by
 unfold vI at hm
 refine ent Tryz.func226 rfl Tryz.ntmps226 rfl rfl fun a E=>sq<|bS E H (wn rfl) rfl rfl rfl rfl rfl fun f w a H E=>pr 1 E rfl fun a E=>nx<|pr 1 E rfl fun a E=>sv E rfl rfl rfl (kJ E rfl rfl rfl) fun a E=>bd hm fun g e hm=>xk E rfl rfl rfl rfl rfl GX (vT H d e) fun w H a E=>?_
 refine pr 2 E rfl fun a E=>nt<|wp_ret<|aY E rfl rfl<|have H:=H.drop 0;?_
 cases hm
 exact ⟨rfl,H.reads Y0⟩

def w7(rec_1:Int→(List ((Int×Int)×Int))→Option Bool)(c:Int)(b:(List ((Int×Int)×Int))):Option Bool:=
  rec_1 (IntKind.i64.wrap (c+1)) b
def wG(rec_2:Bool→Int→Option Bool)(b:Int)(c:Bool):Option Bool:=
  rec_2 c (IntKind.i64.wrap (b+1))
def pS(x1:bK)(d:(List ((Int×Int)×Int))):Nat→Bool→Int→Option Bool
  | 0,_,_=>none
  | e+1,c,b=>
    if (decide (b < (x1.Sessions.length:Int)))=true then (if c=true then ((idx x1.Sessions (IntKind.i64.wrap (b - 1))).bind fun f=>(idx x1.Sessions b).bind fun g=>wG (pS x1 d e) b (decide (f.Num < g.Num))) else (wG (pS x1 d e) b false)) else (if (decide ((x1.Watches.length:Int) ≤ 64))=true then (if ((d.length:Int) == (x1.Watches.length:Int))=true then ((vI x1.Watches).bind fun i=>if i=true then ((tG x1.Sessions).bind fun j=>if j=true then (some (c)) else (some (false))) else (some (false))) else (some (false))) else (some (false)))
def sT(x1:bK):Nat→Int→(List ((Int×Int)×Int))→Option Bool
  | 0,_,_=>none
  | f+1,d,c=>
    if (decide (d < (x1.Watches.length:Int)))=true then ((idx x1.Watches d).bind fun b=>(mlk s9 c (b.Session,b.Num)).bind fun e=>(ck (s9.ok (b.Session,b.Num)=true∧c.length+1 < maxLen)).bind fun g=>w7 (sT x1 f) d (lR c (b.Session,b.Num) (IntKind.i64.wrap ((e.getD 0)+1)))) else (pS x1 c (((x1.Sessions.length:Int) - 1:Int).toNat+1) true 1)
def rI(x1:bK):Option Bool:=
  sT x1 (((x1.Watches.length:Int) - 0:Int).toNat+1) 0 []
theorem s3{x1:bK}{m G:Value}(H:Sep w (Fo) rs)(n:rSl bB m x1.Watches ∈ rs)(I:rSl aO G x1.Sessions ∈ rs){r:Bool}(hm:rI x1=some r) :
    Calls Tryz.prog 160 [.agg #[m,G]].toArray w (Ret fun v w'=>.bool r=v∧Sep w' (Fo) (rs)):=by
 unfold rI at hm
 refine ent Tryz.func160 rfl Tryz.ntmps160 rfl rfl fun a E=>sq<|bS E H (wn rfl) rfl rfl rfl rfl rfl fun o w a H E=>pr 1 E rfl fun a E=>nx<|xF (k:=274) (K:=s9) (d:=(kI .i64)) (g:=false) E H (wn rfl) rfl rfl rfl fun p w a H E=>pr 1 E rfl fun a E=>nt<|wp_seq<|?_
 refine sq<|pr 1 E rfl fun a E=>lb E H 1 rfl rfl rfl rfl rfl rfl rfl U70 rfl fun a E=>sv E rfl rfl rfl (cV E H rfl rfl n U70) fun a E=>pr 1 E rfl fun a E=>nt<|wp_block<|bX (fun s a w=>∃ J t x,Env 76 a [(1,pt o 0),(3,.map (some p)),(10,m),(11,.int .i64 (x1.Watches.length:Int)),(12,.int .i64 J)]∧Sep w (Blk o 73 [m,G]::cG Tryz.prog 274 s9 (kI .i64) false p t::Fo) x∧(∀ r,r ∈ rs→r ∈ x)∧sT x1 s J t=some r) (((x1.Watches.length:Int) - 0:Int).toNat+1) ?_ ?_
 ·exact have H:=H.frs [0,1] rfl;X3 ⟨E.to rfl,H,Y0,hm⟩
 ·clear E H hm
  rintro s a w ⟨J,t,x,E,H,l,hm⟩
  cases s with
  | zero=>exact (bU hm rfl).elim
  | succ s=>
   unfold sT at hm
   refine sq<|pr 1 E rfl fun a E=>nt<|wp_seq<|wif E hm rfl (fun hm=>?_) fun hm=>?_
   ·refine wp_skip<|aC<|aV (fun a w=>∃ L y,Env 76 a [(1,pt o 0),(3,.map (some p)),(10,m),(11,.int .i64 (x1.Watches.length:Int)),(12,.int .i64 J)]∧Sep w (Blk o 73 [m,G]::cG Tryz.prog 274 s9 (kI .i64) false p L::Fo) y∧(∀ r,r ∈ rs→r ∈ y)∧w7 (sT x1 s) J L=some r) ?_ ?_
    ·refine wp_block<|sq<|bd hm fun D S hm=>dR E H (wn rfl) rfl rfl rfl rfl rfl (l _ n) U70 sO S fun q17 a H E=>ldf jJ E H rfl rfl rfl rfl rfl m0 U35 rfl sO fun a E=>al E H rfl rfl rfl rfl CV fun F w a H E=>bA (i:=0) E H (wn rfl) rfl rfl rfl rfl rfl rfl sO rfl rfl fun w H=>nt<|bd hm fun R M hm=>?_
     refine bk hm fun N hm=>?_
     have hI:eD [Blk F 35 (dX D)] [] { w with drawn:=w.drawn+1 }:=⟨_,_,H.kept (Kp.drawn _ w _),(aB m0 (aL)),(aM)⟩
     refine mA _ (.go 0 0 (.go 1 0 (.go 2 0 (.go 3 0 (.go 4 0 (.go 5 0 (.alt 6 (.go 7 0 (.go 8 1 (.go 9 0 (.go 10 2 .nil)))) 8 (.go 9 0 (.go 6 1 (.go 7 0 (.go 10 2 .nil))))))))))) [10] mH (by kernel_rfl) (fun _ _ _ h=>False.elim h.2) hI<|have H:=H.kept (Kp.drawn _ w (w.drawn+1));?_
     generalize ({ w with drawn:=w.drawn+1 }:World)=w at H hI ⊢
     replace hI:∃ W,eD [Blk F 35 (dX D)] [] W:=⟨_,hI⟩
     obtain ⟨W0,hI⟩:=hI
     refine aZ E rfl (wn rfl) rfl rfl (fun w hW=>(bE E rfl rfl)) fun a E=>aZ E rfl (wn rfl) rfl rfl (fun w hW=>lA E rfl rfl (v:=pt F 0) (Fe _ _)) fun a E=>aZ E rfl (wn rfl) rfl rfl (fun w hW=>fC E rfl rfl (mB m0 rfl U2 rfl w hW)) fun a E=>aZ E rfl (wn rfl) rfl rfl (fun w hW=>lA E rfl rfl (v:=pt F 1) (Kz _ _)) fun a E=>aZ E rfl (wn rfl) rfl rfl (fun w hW=>fC E rfl rfl (mB m0 rfl U2 rfl w hW)) fun a E=>aZ E rfl (wn rfl) rfl rfl (fun w hW=>(cL E rfl (E.evs rfl) (v:=.agg #[.int .i64 D.Session,.int .i64 D.Num]) (by kernel_rfl))) fun a E=>?_
     refine mU rfl rfl ?_ ?_
     ·refine sv E rfl rfl rfl (Ko (i:=2) (K:=s9) (z0:=0) (u:=R) E H rfl rfl rfl rfl Q2 Dr Lb M) fun a E=>nt<|?_
      refine ⟨⟨_,_,H,(aB m0 (aL)),(aM)⟩,?_⟩
      refine aZ E rfl (wn rfl) rfl rfl (fun w hW=>(kZ E rfl rfl rfl rfl)) fun a E=>cN rfl<|Ci (i:=2) (K:=s9) (z0:=0) E H (wn rfl) rfl rfl rfl rfl rfl rfl Q2 Dr Lb N fun q33 w a H E=>nt<|?_
      refine ⟨⟨_,_,H,(aB m0 (aL)),(aM)⟩,?_⟩
      refine aZ E rfl (wn rfl) rfl rfl (fun w hW=>(dF E rfl rfl rfl)) fun a E=>cX rfl<|V3 (i:=2) (K:=s9) E H (wn rfl) rfl rfl rfl rfl rfl rfl Q2 Dr fun w H=>nt<|eL<|?_
      clear hI
      exact bZ<|aC<|have H:=H.drop 0;⟨_,_,E.to rfl,H,(Y1 l),hm⟩
     ·refine Ci (i:=2) (K:=s9) (z0:=0) E H (wn rfl) rfl rfl rfl rfl rfl rfl Q2 Dr Lb N fun q36 w a H E=>nt<|?_
      refine ⟨⟨_,_,H,(aB m0 (aL)),(aM)⟩,?_⟩
      refine aZ E rfl (wn rfl) rfl rfl (fun w hW=>(dF E rfl rfl rfl)) fun a E=>cN rfl<|sv E rfl rfl rfl (Ux (i:=2) (K:=s9) (z0:=0) (u:=R) E H rfl rfl rfl rfl Q2 Dr Lb M) fun a E=>nt<|?_
      refine ⟨⟨_,_,H,(aB m0 (aL)),(aM)⟩,?_⟩
      refine aZ E rfl (wn rfl) rfl rfl (fun w hW=>(kZ E rfl rfl rfl rfl)) fun a E=>cX rfl<|V3 (i:=2) (K:=s9) E H (wn rfl) rfl rfl rfl rfl rfl rfl Q2 Dr fun w H=>nt<|eL<|?_
      clear hI
      exact bZ<|aC<|have H:=H.drop 0;⟨_,_,E.to rfl,H,(Y1 l),hm⟩
    ·clear E H hm
     rintro a w ⟨L,y,E,H,T,hm⟩
     unfold w7 at hm
     exact wp_region_lit<|pr 2 E rfl fun a E=>nt<|⟨s,Nat.lt_succ_self s,X3 ⟨E.to rfl,H,T,hm⟩⟩
   ·refine wp_exit<|bG<|bG<|dN<|aC<|sq<|pr 1 E rfl fun a E=>nt<|wp_seq<|?_
    refine sq<|pr 1 E rfl fun a E=>nt<|wp_block<|bX (fun z a w=>∃ O q A,Env 76 a [(1,pt o 0),(3,.map (some p)),(6,.bool O),(7,.int .i64 q)]∧Sep w (Blk o 73 [m,G]::cG Tryz.prog 274 s9 (kI .i64) false p t::Fo) A∧(∀ r,r ∈ rs→r ∈ A)∧pS x1 t z O q=some r) (((x1.Sessions.length:Int) - 1:Int).toNat+1) ?_ ?_
    ·exact X3 ⟨E.to rfl,H,l,hm⟩
    ·clear E H hm
     rintro z a w ⟨O,q,A,E,H,c,hm⟩
     cases z with
     | zero=>exact (bU hm rfl).elim
     | succ z=>
      unfold pS at hm
      refine wp_seq<|sq<|pr 2 E rfl fun a E=>lb E H 0 rfl rfl rfl rfl rfl rfl rfl U71 rfl fun a E=>sv E rfl rfl rfl (cV E H rfl rfl (c _ I) U71) fun a E=>pr 1 E rfl fun a E=>nt<|wif E hm rfl (fun hm=>?_) fun hm=>?_
      ·refine wp_skip<|aC<|aV (fun a w=>∃ Q B,Env 76 a [(1,pt o 0),(3,.map (some p)),(6,.bool Q),(7,.int .i64 q)]∧Sep w (Blk o 73 [m,G]::cG Tryz.prog 274 s9 (kI .i64) false p t::Fo) B∧(∀ r,r ∈ rs→r ∈ B)∧wG (pS x1 t z) q Q=some r) ?_ ?_
       ·refine wp_block<|?_
        obtain ⟨b6,H⟩:=H.raw (c _ I)
        refine dw [(0,0),(1,0),(2,0),(3,0),(4,0),(5,0),(6,0),(7,0),(8,0),(9,0),(10,0),(11,0),(12,0),(13,0),(14,0),(15,0),(16,0),(17,2)] [0] [0] H (by kernel_rfl) (fun _ _ _ h=>False.elim h.2) fun w W0 hI H=>fn 2 E rfl fun a E=>cs hm (fun b hm=>?_) fun b hm=>?_
        ·refine fk 1 E (kc 35 rfl b) rfl fun a E=>fb E rfl (ws' (d:=35) E rfl rfl rfl rfl b) rfl rfl rfl rfl m0 rfl U71 rfl fun a E=>fk 2 E (kc 35 rfl b) rfl fun a E=>bd hm fun b7 U hm=>?_
         obtain ⟨q50,b8,V,X⟩:=oD (P:=Tryz.prog) (k:=.i64) hI (mT (.head _)) U71 uP U
         refine bT E rfl (ws' (d:=35) E rfl rfl rfl rfl b) rfl rfl (fun w hW=>rR E rfl rfl rfl (V w)) fun a E=>?_
         have Y:=yP X (fun _ _ _ h=>G4 h)
         refine fk 1 E (kc 35 rfl b) rfl fun a E=>fa E rfl (ws' (d:=35) E rfl rfl rfl rfl b) rfl rfl rfl rfl Y U2 rfl fun a E=>fk 1 E (kc 35 rfl b) rfl fun a E=>fb E rfl (ws' (d:=35) E rfl rfl rfl rfl b) rfl rfl rfl rfl m0 rfl U71 rfl fun a E=>fk 1 E (kc 35 rfl b) rfl fun a E=>bd hm fun b9 Z hm=>?_
         obtain ⟨q57,c0,b0,b1⟩:=oD (P:=Tryz.prog) (k:=.i64) hI (mT (.head _)) U71 uP Z
         refine bT E rfl (ws' (d:=35) E rfl rfl rfl rfl b) rfl rfl (fun w hW=>rR E rfl rfl rfl (b0 w)) fun a E=>?_
         have b2:=yP b1 (fun _ _ _ h=>G4 h)
         refine fk 1 E (kc 35 rfl b) rfl fun a E=>fa E rfl (ws' (d:=35) E rfl rfl rfl rfl b) rfl rfl rfl rfl b2 U2 rfl fun a E=>fk 2 E (kc 35 rfl b) rfl fun a E=>bO rfl<|pr 1 E rfl fun a E=>nt<|bP<|?_
         clear hI
         exact bZ<|aC<|⟨_,_,E.to rfl,H,(Y1 c),hm⟩
        ·refine fk 15 E (kc 35 rfl b) rfl fun a E=>bO rfl<|pr 1 E rfl fun a E=>nt<|bP<|?_
         clear hI
         exact bZ<|aC<|⟨_,_,E.to rfl,H,(Y1 c),hm⟩
       ·clear E H hm
        rintro a w ⟨Q,B,E,H,b3,hm⟩
        unfold wG at hm
        exact wp_region_lit<|pr 3 E rfl fun a E=>nt<|⟨z,Nat.lt_succ_self z,X3 ⟨E.to rfl,H,b3,hm⟩⟩
      ·refine wp_exit<|bG<|bG<|dN<|aC<|sq<|pr 1 E rfl fun a E=>lb E H 0 rfl rfl rfl rfl rfl rfl rfl U70 rfl fun a E=>sv E rfl rfl rfl (cV E H rfl rfl (c _ n) U70) fun a E=>?_
       refine pr 2 E rfl fun a E=>cs hm (fun e hm=>?_) fun e hm=>?_
       ·refine pk 1 E (kc 55 rfl e) rfl fun a E=>aQ E (ws' (d:=55) E rfl rfl rfl rfl e) rfl rfl (E4 (i:=1) E H rfl rfl rfl Dr) fun a E=>pk 1 E (kc 55 rfl e) rfl fun a E=>aQ E (ws' (d:=55) E rfl rfl rfl rfl e) rfl rfl (cD (i:=0) E H rfl rfl rfl rfl U70 rfl) fun a E=>aQ E (ws' (d:=55) E rfl rfl rfl rfl e) rfl rfl (cV E H rfl rfl (c _ n) U70) fun a E=>pk 3 E (kc 55 rfl e) rfl fun a E=>cs hm (fun f hm=>?_) fun f hm=>?_
        ·refine pk 1 E (kc 63 rfl f) rfl fun a E=>aQ E (ws' (d:=63) E rfl rfl rfl rfl f) rfl rfl (cD (i:=0) E H rfl rfl rfl rfl U70 rfl) fun a E=>bd hm fun c1 b4 hm=>aW E (ws' (d:=63) E rfl rfl rfl rfl f) rfl rfl (cB E rfl rfl (GW _)) (Q9 H (c _ n) b4)<|?_
         rintro _ w ⟨rfl,H⟩ a E
         refine pk 2 E (kc 63 rfl f) rfl fun a E=>cs hm (fun j hm=>?_) fun j hm=>?_
         ·refine pk 1 E (kc 68 rfl j) rfl fun a E=>aQ E (ws' (d:=68) E rfl rfl rfl rfl j) rfl rfl (cD (i:=0) E H rfl rfl rfl rfl U71 rfl) fun a E=>bd hm fun c2 b5 hm=>aW E (ws' (d:=68) E rfl rfl rfl rfl j) rfl rfl (cB E rfl rfl (GZ _)) (K9 H (c _ I) b5)<|?_
          rintro _ w ⟨rfl,H⟩ a E
          refine pk 2 E (kc 68 rfl j) rfl fun a E=>cs hm (fun C hm=>?_) fun C hm=>?_
          ·refine pk 3 E (kc 73 rfl C) rfl fun a E=>nt<|wp_ret<|aY E rfl rfl<|have H:=H.drs [0,0];?_
           cases hm
           exact ⟨rfl,H.reads c⟩
          ·refine pk 3 E (kc 73 rfl C) rfl fun a E=>nt<|wp_ret<|aY E rfl rfl<|have H:=H.drs [0,0];?_
           cases hm
           exact ⟨rfl,H.reads c⟩
         ·refine pk 8 E (kc 68 rfl j) rfl fun a E=>nt<|wp_ret<|aY E rfl rfl<|have H:=H.drs [0,0];?_
          cases hm
          exact ⟨rfl,H.reads c⟩
        ·refine pk 13 E (kc 63 rfl f) rfl fun a E=>nt<|wp_ret<|aY E rfl rfl<|have H:=H.drs [0,0];?_
         cases hm
         exact ⟨rfl,H.reads c⟩
       ·refine pk 21 E (kc 55 rfl e) rfl fun a E=>nt<|wp_ret<|aY E rfl rfl<|have H:=H.drs [0,0];?_
        cases hm
        exact ⟨rfl,H.reads c⟩

def kQ(x1:bK)(d:ByteArray)(e:Int)(c:Bool):Option (bK×Int):=
  if c=true then (some ((⟨[],[]⟩:bK),1)) else ((ck (x1.Sessions.length ≤ LIM)).bind fun f=>(ck (x1.Watches.length ≤ LIM)).bind fun g=>(jS x1.Watches d x1.Sessions e).bind fun b=>some ((⟨b.1,b.2⟩:bK),0))
def A2(x1:bK)(b:Int)(c:ByteArray):Option (bK×Int):=
  (rI x1).bind fun d=>if (!d)=true then (kQ x1 c b true) else (if (decide (b < 1))=true then (kQ x1 c b true) else (if (decide (b > 3))=true then (kQ x1 c b true) else ((eG c).bind fun e=>kQ x1 c b (!e))))
theorem Lk{x1:bK}{l m:Value}{n:Int}{o:ByteArray}(H:Sep w (Fo) rs)(p:rSl bB l x1.Watches ∈ rs)(q:rSl aO m x1.Sessions ∈ rs){r:bK×Int}(hm:A2 x1 n o=some r) :
    Calls Tryz.prog 252 [.agg #[l,m],.int .i64 n,.string o].toArray w (Ret fun v w'=>∃ C D,.tuple #[.agg #[C,D],.int .i64 r.2]=v∧Sep w' (Fo) (rSl bB C r.1.Watches::rSl aO D r.1.Sessions::rs)):=by
 unfold A2 at hm
 refine ent Tryz.func252 rfl Tryz.ntmps252 rfl rfl fun a E=>sq<|bS E H (wn rfl) rfl rfl rfl rfl rfl fun F w a H E=>bS E H (wn rfl) rfl rfl rfl rfl rfl fun G w a H E=>bS E H (wn rfl) rfl rfl rfl rfl rfl fun s w a H E=>al E H rfl rfl rfl rfl S8 fun t w a H E=>pr 1 E rfl fun a E=>nt<|wp_seq<|aV (fun a w=>∃ j g,Env 36 a [(3,pt F 0),(4,pt G 0),(5,pt s 0),(6,pt t 0),(23,.bool j)]∧Sep w (Blk F 73 [l,m]::Blk G 3 [.int .i64 n]::Blk s 9 [.string o]::Blk t 73 [.slice none 0 0,.slice none 0 0]::Fo) g∧(∀ r,r ∈ rs→r ∈ g)∧kQ x1 o n j=some r) ?_ ?_
 ·refine wp_region_lit<|sv E rfl rfl rfl (cC (i:=3) (us:=[l,m]) E H rfl rfl rfl rfl U73 rfl fE) fun a E=>bd hm fun K x hm=>xk E rfl rfl rfl rfl rfl Jd (s3 H p q x) fun w H a E=>pr 2 E rfl fun a E=>cs hm (fun c hm=>?_) fun c hm=>?_
  ·exact pk 12 E (kc 11 rfl c) rfl fun a E=>nt<|have H:=H.frs [0,1,2,3] rfl;⟨_,_,E.to rfl,H,Y0,hm⟩
  ·refine aQ E (ws' (d:=11) E rfl rfl rfl rfl c) rfl rfl (cD (i:=2) E H rfl rfl rfl rfl U3 rfl) fun a E=>pk 3 E (kc 11 rfl c) rfl fun a E=>cs hm (fun e hm=>?_) fun e hm=>?_
   ·exact pk 8 E (kc 15 rfl e) rfl fun a E=>nt<|have H:=H.frs [0,1,2,3] rfl;⟨_,_,E.to rfl,H,Y0,hm⟩
   ·refine aQ E (ws' (d:=15) E rfl rfl rfl rfl e) rfl rfl (cD (i:=2) E H rfl rfl rfl rfl U3 rfl) fun a E=>pk 3 E (kc 15 rfl e) rfl fun a E=>cs hm (fun b hm=>?_) fun b hm=>?_
    ·exact pk 4 E (kc 19 rfl b) rfl fun a E=>nt<|have H:=H.frs [0,1,2,3] rfl;⟨_,_,E.to rfl,H,Y0,hm⟩
    ·refine aQ E (ws' (d:=19) E rfl rfl rfl rfl b) rfl rfl (cD (i:=1) E H rfl rfl rfl rfl U9 rfl) fun a E=>bd hm fun L y hm=>aW E (ws' (d:=19) E rfl rfl rfl rfl b) rfl rfl (cB E rfl rfl (y7 _)) (hZ H y)<|?_
     rintro _ w ⟨rfl,H⟩ a E
     exact pk 2 E (kc 19 rfl b) rfl fun a E=>nt<|have H:=H.frs [0,1,2,3] rfl;⟨_,_,E.to rfl,H,Y0,hm⟩
 ·clear E H hm
  rintro a w ⟨j,g,E,H,f,hm⟩
  unfold kQ at hm
  refine wif E hm rfl (fun hm=>?_) fun hm=>?_
  ·refine sq<|sv E rfl rfl rfl (cL E rfl (E.evs rfl) (v:=.agg #[.slice none 0 0,.slice none 0 0]) (by kernel_rfl)) fun a E=>bA (i:=3) E H (wn rfl) rfl rfl rfl rfl rfl rfl fE rfl rfl fun w H=>pr 1 E rfl fun a E=>nt<|wp_ret<|aP<|uN E rfl (dD (i:=3) (us:=[.slice none 0 0,.slice none 0 0]) H rfl rfl rfl U73 rfl fE) (rvT rfl)<|have H:=H.nilSl bB;?_
   refine have H:=H.nilSl aO;have H:=H.drs [0,0,0,0];?_
   cases hm
   exact ⟨_,_,rfl,H.reads (aA mm1 (aA m0 (fun r hr=>(t2 (f r hr)))))⟩
  ·refine wp_skip<|aC<|sq<|pr 1 E rfl fun a E=>lb E H 0 rfl rfl rfl rfl rfl rfl rfl U71 rfl fun a E=>bk hm fun z hm=>aW E (wn rfl) rfl rfl (cB E rfl rfl (Jg _)) (fH H (f _ q) z) fun M w H a E=>pr 1 E rfl fun a E=>?_
   obtain ⟨q18,N,rfl⟩:=H.rowform (i:=0) rfl
   refine bA (i:=1) E H (wn rfl) rfl rfl rfl rfl rfl rfl Lc rfl rfl fun w H=>nx<|pr 1 E rfl fun a E=>lb E H 1 rfl rfl rfl rfl rfl rfl rfl U70 rfl fun a E=>bk hm fun A hm=>aW E (wn rfl) rfl rfl (cB E rfl rfl (Jh _)) (gD H (f _ p) A) fun O w H a E=>sv E rfl rfl rfl (kJ E rfl rfl rfl) fun a E=>have H:=H.frs [5,4,3,4,5,5] rfl;bd hm fun k B hm=>?_
   refine cF E rfl rfl rfl rfl rfl IX (xB H B)<|?_
   rintro _ w ⟨P,I,rfl,H⟩ a E
   refine pr 1 E rfl fun a E=>?_
   obtain ⟨q27,u,rfl⟩:=H.rowform (i:=0) rfl
   refine bA (i:=2) E H (wn rfl) rfl rfl rfl rfl rfl rfl Pr rfl rfl fun w H=>nx<|sv E rfl rfl rfl (cC (i:=2) (us:=[(.slice q27 k.1.length u),I]) E H rfl rfl rfl rfl U73 rfl fE) fun a E=>?_
   obtain ⟨q29,J,rfl⟩:=H.rowform (i:=4) rfl
   refine bA (i:=5) E H (wn rfl) rfl rfl rfl rfl rfl rfl fE rfl rfl fun w H=>pr 1 E rfl fun a E=>nt<|wp_ret<|uN E rfl (dD (i:=5) (us:=[(.slice q27 k.1.length u),(.slice q29 k.2.length J)]) H rfl rfl rfl U73 rfl fE) (rvT rfl)<|have H:=H.thaw (i:=0) rfl;have H:=H.thaw (i:=3) rfl;have H:=H.drs [0,0,0,0];?_
   cases hm
   exact ⟨_,_,rfl,H.reads (aA mm1 (aA m0 (fun r hr=>(t2 (f r hr)))))⟩

def iE(c:List aK)(d:List aD)(x20:Int)(e:ByteArray):Option ((List aK)×(List aD)):=
  (A2 (⟨c,d⟩:bK) x20 e).bind fun b=>if (b.2 == 0)=true then (some (b.1.Watches,b.1.Sessions)) else (some (c,d))
theorem rV{s:Nat}{b c j k l m n o p:Value}{d:List aK}{e:List aD}{x20:Int}{q:ByteArray}(H:Sep w (Blk s 75 [j,k,l,m,b,c,n,o,p]::Fo) rs)(f:rSl bB b d ∈ rs)(g:rSl aO c e ∈ rs){r:(List aK)×(List aD)}(hm:iE d e x20 q=some r) :
    Calls Tryz.prog 184 [pt s 0,.int .i64 x20,.string q].toArray w (Ret fun v w'=>∃ u x,.tuple #[]=v∧Sep w' (Blk s 75 [j,k,l,m,u,x,n,o,p]::Fo) (rSl bB u r.1::rSl aO x r.2::rs)):=by
 unfold iE at hm
 refine ent Tryz.func184 rfl Tryz.ntmps184 rfl rfl fun a E=>sq<|pr 3 E rfl fun a E=>sv E rfl rfl rfl (cC (i:=0) (us:=[b,c]) E H rfl rfl rfl rfl U73 rfl fE) fun a E=>pr 2 E rfl fun a E=>bd hm fun A t hm=>cF E rfl rfl rfl rfl rfl IW (Lk (x1:=(⟨d,e⟩:bK)) H f g t)<|?_
 rintro _ w ⟨y,z,rfl,H⟩ a E
 refine pr 3 E rfl fun a E=>al E H rfl rfl rfl rfl S8 fun B w a H E=>bA (i:=0) E H (wn rfl) rfl rfl rfl rfl rfl rfl fE rfl (hY H m0 mm1) fun w H=>pr 1 E rfl fun a E=>nx<|pr 2 E rfl fun a E=>nt<|wif E hm rfl (fun hm=>?_) fun hm=>?_
 ·refine wp_region_lit<|pr 1 E rfl fun a E=>sv E rfl rfl rfl (cC (i:=0) (us:=[y,z]) E H rfl rfl rfl rfl U73 rfl fE) fun a E=>pr 2 E rfl fun a E=>bA (i:=1) E H (wn rfl) rfl rfl rfl rfl rfl rfl fE rfl (hY H m0 mm1) fun w H=>wpList_nil<|rC E rfl<|have H:=H.drop 0;?_
  cases hm
  exact ⟨_,_,rfl,H.reads (aA m0 (aA mm1 (fun r hr=>(t2 hr))))⟩
 ·refine wp_skip<|rC E rfl<|have H:=H.drop 0;?_
  cases hm
  exact ⟨_,_,rfl,H.reads (aA (t2 f) (aA (t2 g) (fun r hr=>(t2 hr))))⟩

def fM(rec_1:Int→(List aK)→(List aD)→Option ((List aK)×(List aD)))(b:Int)(c:(List aK))(d:(List aD)):Option ((List aK)×(List aD)):=
  rec_1 (IntKind.i64.wrap (b+1)) c d
def iS(rec_1:Int→(List aK)→(List aD)→Option ((List aK)×(List aD)))(d:Int)(b:cP)(e:cE):Nat→Int→(List aK)→(List aD)→Option ((List aK)×(List aD))
  | 0,_,_,_=>none
  | l+1,c,f,g=>
    if (decide (c < (b.Names.length:Int)))=true then ((idx b.Names c).bind fun j=>(xK e.Part.Path j).bind fun k=>(iE f g 2 k.1).bind fun i=>iS rec_1 d b e l (IntKind.i64.wrap (c+1)) i.1 i.2) else (fM rec_1 d f g)
def eB(c:List cE)(d:List cP):Nat→Int→(List aK)→(List aD)→Option ((List aK)×(List aD))
  | 0,_,_,_=>none
  | i+1,b,f,g=>
    if (decide (b < (c.length:Int)))=true then ((idx c b).bind fun e=>if (e.Part.Kind == 2)=true then ((idx d b).bind fun n=>(iE f g 1 n.Path).bind fun j=>fM (eB c d i) b j.1 j.2) else (if (e.Part.Kind == 3)=true then ((iE f g 2 e.Part.Path).bind fun k=>fM (eB c d i) b k.1 k.2) else (if (e.Part.Kind == 5)=true then ((iE f g 3 e.Part.Path).bind fun l=>fM (eB c d i) b l.1 l.2) else (if (e.Part.Kind == 10)=true then ((idx d b).bind fun m=>iS (eB c d i) b m e (((m.Names.length:Int) - 0:Int).toNat+1) 0 f g) else (fM (eB c d i) b f g))))) else (some (f,g))
def qN(c:List aK)(d:List aD)(b:List cE)(e:List cP):Option ((List aK)×(List aD)):=
  eB b e (((b.length:Int) - 0:Int).toNat+1) 0 c d
theorem Af{l:Nat}{X Y m n o p q s t u x:Value}{Z:List aK}{b0:List aD}{c:List cE}{y:List cP}(H:Sep w (Blk l 75 [o,p,q,s,X,Y,t,u,x]::Fo) rs)(b4:rSl bB X Z ∈ rs)(b5:rSl aO Y b0 ∈ rs)(C:rSl cA m c ∈ rs)(D:rSl bF n y ∈ rs){r:(List aK)×(List aD)}(hm:qN Z b0 c y=some r) :
    Calls Tryz.prog 125 [pt l 0,m,n].toArray w (Ret fun v w'=>∃ c8 c9,.tuple #[]=v∧Sep w' (Blk l 75 [o,p,q,s,c8,c9,t,u,x]::Fo) (rSl bB c8 r.1::rSl aO c9 r.2::rs)):=by
 unfold qN at hm
 refine ent Tryz.func125 rfl Tryz.ntmps125 rfl rfl fun a E=>sq<|pr 1 E rfl fun a E=>sv E rfl rfl rfl (cV E H rfl rfl C U26) fun a E=>pr 1 E rfl fun a E=>nt<|wp_block<|bX (fun z a w=>∃ F G g I J j,Env 70 a [(0,pt l 0),(2,n),(12,m),(13,.int .i64 (c.length:Int)),(14,.int .i64 g)]∧Sep w (Blk l 75 [o,p,q,s,F,G,t,u,x]::Fo) j∧(∀ r,r ∈ rs→r ∈ j)∧rSl bB F I ∈ j∧rSl aO G J ∈ j∧eB c y z g I J=some r) (((c.length:Int) - 0:Int).toNat+1) ?_ ?_
 ·exact X6 ⟨E.to rfl,H,Y0,b4,b5,hm⟩
 ·clear E H hm
  rintro z a w ⟨F,G,g,I,J,j,E,H,b,d,e,hm⟩
  cases z with
  | zero=>exact (bU hm rfl).elim
  | succ z=>
   unfold eB at hm
   refine sq<|pr 1 E rfl fun a E=>nt<|wp_seq<|wif E hm rfl (fun hm=>?_) fun hm=>?_
   ·refine wp_skip<|aC<|aV (fun a w=>∃ K L M N k,Env 70 a [(0,pt l 0),(2,n),(12,m),(13,.int .i64 (c.length:Int)),(14,.int .i64 g)]∧Sep w (Blk l 75 [o,p,q,s,K,L,t,u,x]::Fo) k∧(∀ r,r ∈ rs→r ∈ k)∧rSl bB K M ∈ k∧rSl aO L N ∈ k∧fM (eB c y z) g M N=some r) ?_ ?_
    ·refine wp_block<|sq<|pr 1 E rfl fun a E=>bd hm fun b1 b6 hm=>dR E H (wn rfl) rfl rfl rfl rfl rfl (b _ C) U26 F4 b6 fun q54 a H E=>ldf wB E H rfl rfl rfl rfl rfl m0 U87 rfl F4 fun a E=>al E H rfl rfl rfl rfl Pj fun b2 w a H E=>pr 1 E rfl fun a E=>bA (i:=0) E H (wn rfl) rfl rfl rfl rfl rfl rfl F4 rfl rfl fun w H=>?_
     refine nx<|pr 2 E rfl fun a E=>lb E H 0 rfl rfl rfl rfl rfl rfl rfl U3 rfl fun a E=>nt<|wp_block<|sq<|pr 2 E rfl fun a E=>nt<|wif E hm rfl (fun hm=>?_) fun hm=>?_
     ·refine wp_region_lit<|pr 3 E rfl fun a E=>bd hm fun d0 b7 hm=>dR E H (wn rfl) rfl rfl rfl rfl rfl (t1 (b _ D)) U40 C2 b7 fun q58 a H E=>have H:=H.derive1 m0 (rAt kS (q58.add 1) d0.Path) (fun ok h=>Dg h);pr 1 E rfl fun a E=>sv E rfl rfl rfl (qT E H rfl rfl m0 U9 rfl) fun a E=>have H:=H.frs [0,1] rfl;bd hm fun d1 b8 hm=>?_
      refine cF E rfl rfl rfl rfl rfl Jk (rV H (t3 d) (t3 e) b8)<|?_
      rintro _ w ⟨d2,d3,rfl,H⟩ a E
      exact wpList_nil<|bZ<|bZ<|aC<|have H:=H.drop 1;X5 ⟨E.to rfl,H,(Y5 b),m0,mm1,hm⟩
     ·refine sq<|pr 2 E rfl fun a E=>nt<|wif E hm rfl (fun hm=>?_) fun hm=>?_
      ·refine wp_region_lit<|pr 3 E rfl fun a E=>lb E H 0 rfl rfl rfl rfl rfl rfl rfl U9 rfl fun a E=>have H:=H.frs [0,1] rfl;bd hm fun d4 b9 hm=>cF E rfl rfl rfl rfl rfl Jk (rV H (t1 d) (t1 e) b9)<|?_
       rintro _ w ⟨d5,d6,rfl,H⟩ a E
       exact wpList_nil<|bZ<|bZ<|aC<|have H:=H.drop 1;X5 ⟨E.to rfl,H,(Y3 b),m0,mm1,hm⟩
      ·refine sq<|pr 2 E rfl fun a E=>nt<|wif E hm rfl (fun hm=>?_) fun hm=>?_
       ·refine wp_region_lit<|pr 3 E rfl fun a E=>lb E H 0 rfl rfl rfl rfl rfl rfl rfl U9 rfl fun a E=>have H:=H.frs [0,1] rfl;bd hm fun d7 c0 hm=>cF E rfl rfl rfl rfl rfl Jk (rV H (t1 d) (t1 e) c0)<|?_
        rintro _ w ⟨d8,d9,rfl,H⟩ a E
        exact wpList_nil<|bZ<|bZ<|aC<|have H:=H.drop 1;X5 ⟨E.to rfl,H,(Y3 b),m0,mm1,hm⟩
       ·refine sq<|pr 2 E rfl fun a E=>nt<|wif E hm rfl (fun hm=>?_) fun hm=>?_
        ·refine sq<|pr 2 E rfl fun a E=>bd hm fun A c1 hm=>dR E H (wn rfl) rfl rfl rfl rfl rfl (t1 (b _ D)) U40 C2 c1 fun q73 a H E=>have H:=H.derive1 m0 (rAt (kL kS) (q73.add 4) A.Names) (fun ok h=>Dh h);pr 1 E rfl fun a E=>AQ E H (wn rfl) rfl rfl rfl rfl m0 U33 rfl fun b3 a H E=>sv E rfl rfl rfl (cV E H rfl rfl m0 U33) fun a E=>pr 1 E rfl fun a E=>?_
         refine nt<|wp_block<|bX (fun B a w=>∃ O P Q R S f,Env 70 a [(0,pt l 0),(2,n),(7,pt b2 0),(12,m),(13,.int .i64 (c.length:Int)),(14,.int .i64 g),(51,b3),(52,.int .i64 (A.Names.length:Int)),(53,.int .i64 Q)]∧Sep w (Blk l 75 [o,p,q,s,O,P,t,u,x]::Blk b2 87 (Cj b1)::Fo) f∧(∀ r,r ∈ rs→r ∈ f)∧rSl kS b3 A.Names ∈ f∧rSl bB O R ∈ f∧rSl aO P S ∈ f∧iS (eB c y z) g A b1 B Q R S=some r) (((A.Names.length:Int) - 0:Int).toNat+1) ?_ ?_
         ·exact have H:=H.frs [0,1] rfl;X6 ⟨E.to rfl,H,(Y4 b),m0,(t4 d),(t4 e),hm⟩
         ·clear E H hm
          rintro B a w ⟨O,P,Q,R,S,f,E,H,T,U,V,W,hm⟩
          cases B with
          | zero=>exact (bU hm rfl).elim
          | succ B=>
           unfold iS at hm
           refine sq<|pr 1 E rfl fun a E=>nt<|wp_seq<|wif E hm rfl (fun hm=>?_) fun hm=>?_
           ·refine wp_skip<|aC<|wp_seq<|wp_block<|sq<|bd hm fun e0 c2 hm=>dR E H (wn rfl) rfl rfl rfl rfl rfl U U33 sz9 c2 fun q87 a H E=>sv E rfl rfl rfl (qT E H rfl rfl m0 U9 rfl) fun a E=>pr 1 E rfl fun a E=>?_
            refine nx<|pr 2 E rfl fun a E=>lb E H 1 rfl rfl rfl rfl rfl rfl rfl U9 rfl fun a E=>pr 1 E rfl fun a E=>bd hm fun e1 c3 hm=>xk E rfl rfl rfl rfl rfl Xj (Cp H c3) fun w H a E=>pr 5 E rfl fun a E=>nt<|wp_region_lit<|?_
            refine pr 2 E rfl fun a E=>bd hm fun e2 c4 hm=>cF E rfl rfl rfl rfl rfl Jk (rV H (t1 V) (t1 W) c4)<|?_
            rintro _ w ⟨e3,e4,rfl,H⟩ a E
            exact wpList_nil<|bZ<|aC<|wp_region_lit<|pr 2 E rfl fun a E=>nt<|⟨B,Nat.lt_succ_self B,X6 ⟨E.to rfl,H,(Y3 T),(t3 U),m0,mm1,hm⟩⟩
           ·exact wp_exit<|bG<|bG<|dN<|bZ<|bZ<|aC<|have H:=H.drop 1;X5 ⟨E.to rfl,H,T,V,W,hm⟩
        ·exact wp_skip<|bZ<|bZ<|aC<|have H:=H.drop 0;X5 ⟨E.to rfl,H,(Y1 b),(t1 d),(t1 e),hm⟩
    ·clear E H hm
     rintro a w ⟨K,L,M,N,k,E,H,c5,c6,c7,hm⟩
     unfold fM at hm
     exact wp_region_lit<|pr 2 E rfl fun a E=>nt<|⟨z,Nat.lt_succ_self z,X6 ⟨E.to rfl,H,c5,c6,c7,hm⟩⟩
   ·refine wp_exit<|bG<|bG<|dN<|rC E rfl<|?_
    cases hm
    exact ⟨_,_,rfl,H.reads (aA d (aA e (b)))⟩

def oS(g:List aF)(i:List aJ)(c:List aK)(d:List aD)(e:List cE):Option (aH×(List aF)×(List aJ)×(List aK)×(List aD)):=
  (xL (⟨g,i⟩:aR) e).bind fun b=>if (b.2.2.1 != 0)=true then (some ((⟨b.2.2.1,b.2.2.2,false,0,[],(⟨[],[]⟩:aR),[],[],[]⟩:aH),g,i,c,d)) else ((qN c d e b.2.1).bind fun f=>some ((⟨0,0,false,0,b.2.1,(⟨[],[]⟩:aR),[],[],[]⟩:aH),b.1.Nodes,b.1.Turns,f.1,f.2))
theorem G6{B:Nat}{C D j k l m n o p q:Value}{F:List aF}{G:List aJ}{s:List aK}{t:List aD}{u:List cE}(H:Sep w (Blk B 75 [C,D,m,n,j,k,o,p,q]::Fo) rs)(c:rSl aE C F ∈ rs)(d:rSl aI D G ∈ rs)(e:rSl bB j s ∈ rs)(f:rSl aO k t ∈ rs)(g:rSl cA l u ∈ rs)(I:u7 Tryz.prog ∈ rs){r:aH×(List aF)×(List aJ)×(List aK)×(List aD)}(hm:oS F G s t u=some r) :
    Calls Tryz.prog 70 [pt B 0,l].toArray w (Ret fun v w'=>∃ L M N O P Q R x y z,.agg (bC r.1 L M N O P Q).toArray=v∧Sep w' (Blk B 75 [R,x,m,n,y,z,o,p,q]::Fo) (rSl bF L r.1.Results::rSl aE M r.1.Store.Nodes::rSl aI N r.1.Store.Turns::rSl aX O r.1.Events::rSl bM P r.1.Mounts::rSl (kI .i64) Q r.1.Wounded::rSl aE R r.2.1::rSl aI x r.2.2.1::rSl bB y r.2.2.2.1::rSl aO z r.2.2.2.2::rs)):=by
 unfold oS at hm
 refine ent Tryz.func70 rfl Tryz.ntmps70 rfl rfl fun a E=>sq<|al E H rfl rfl rfl rfl gO fun U w a H E=>nx<|pr 3 E rfl fun a E=>sv E rfl rfl rfl (cC (i:=1) (us:=[C,D]) E H rfl rfl rfl rfl U25 rfl dJ) fun a E=>pr 1 E rfl fun a E=>bd hm fun b J hm=>cF E rfl rfl rfl rfl rfl Ve (O6 (x1:=(⟨F,G⟩:aR)) H c d g I J)<|?_
 rintro _ w ⟨S,T,V,rfl,H⟩ a E
 refine pr 5 E rfl fun a E=>al E H rfl rfl rfl rfl lF fun W w a H E=>bA (i:=0) E H (wn rfl) rfl rfl rfl rfl rfl rfl dJ rfl (jQ H m0 mm1) fun w H=>pr 3 E rfl fun a E=>nt<|wp_seq<|sq<|pr 2 E rfl fun a E=>nt<|wif E hm rfl (fun hm=>?_) fun hm=>?_
 ·refine sq<|pr 2 E rfl fun a E=>sv E rfl rfl rfl (cL E rfl (E.evs rfl) (v:=.agg #[.int .i64 b.2.2.1,.int .i64 b.2.2.2,.bool false,.int .i64 0,.slice none 0 0,.slice none 0 0,.slice none 0 0,.slice none 0 0,.slice none 0 0,.slice none 0 0]) (by kernel_rfl)) fun a E=>bA (i:=2) E H (wn rfl) rfl rfl rfl rfl rfl rfl bV rfl rfl fun w H=>nt<|wp_ret<|aP<|dT E rfl (dD (i:=2) (us:=[.int .i64 b.2.2.1,.int .i64 b.2.2.2,.bool false,.int .i64 0,.slice none 0 0,.slice none 0 0,.slice none 0 0,.slice none 0 0,.slice none 0 0,.slice none 0 0]) H rfl rfl rfl U48 rfl bV)<|have H:=H.nilSl bF;?_
  refine have H:=H.nilSl aE;have H:=H.nilSl aI;have H:=H.nilSl aX;have H:=H.nilSl bM;have H:=H.nilSl (kI .i64);have H:=H.drs [0,0,0];?_
  cases hm
  exact X10 ⟨rfl,H.reads (aA mm5 (aA mm4 (aA mm3 (aA mm2 (aA mm1 (aA m0 (aA (t8 c) (aA (t8 d) (aA (t8 e) (aA (t8 f) (fun r hr=>(t8 hr))))))))))))⟩
 ·refine wp_skip<|aC<|sq<|pr 1 E rfl fun a E=>sv E rfl rfl rfl (cC (i:=0) (us:=[S,T]) E H rfl rfl rfl rfl U25 rfl dJ) fun a E=>pr 2 E rfl fun a E=>bA (i:=3) E H (wn rfl) rfl rfl rfl rfl rfl rfl dJ rfl (jQ H m0 mm1) fun w H=>nx<|pr 3 E rfl fun a E=>?_
  refine have H:=H.thaw (i:=1) rfl;have H:=H.frs [1,1,2] rfl;bd hm fun X K hm=>cF E rfl rfl rfl rfl rfl IV (Af H (t3 e) (t3 f) (t3 g) m0 K)<|?_
  rintro _ w ⟨Y,Z,rfl,H⟩ a E
  refine nx<|pr 1 E rfl fun a E=>?_
  obtain ⟨q44,A,rfl⟩:=H.slform mm2
  refine sv E rfl rfl rfl (cL E rfl (E.evs rfl) (v:=.agg #[.int .i64 0,.int .i64 0,.bool false,.int .i64 0,(.slice q44 b.2.1.length A),.slice none 0 0,.slice none 0 0,.slice none 0 0,.slice none 0 0,.slice none 0 0]) (by kernel_rfl)) fun a E=>bA (i:=2) E H (wn rfl) rfl rfl rfl rfl rfl rfl bV rfl rfl fun w H=>nt<|wp_ret<|dT E rfl (dD (i:=2) (us:=[.int .i64 0,.int .i64 0,.bool false,.int .i64 0,(.slice q44 b.2.1.length A),.slice none 0 0,.slice none 0 0,.slice none 0 0,.slice none 0 0,.slice none 0 0]) H rfl rfl rfl U48 rfl bV)<|have H:=H.nilSl aE;have H:=H.nilSl aI;have H:=H.nilSl aX;have H:=H.nilSl bM;?_
  refine have H:=H.nilSl (kI .i64);have H:=H.drs [1,1];?_
  cases hm
  exact X10 ⟨rfl,H.reads (aA (t1 mm6) (aA mm4 (aA mm3 (aA mm2 (aA mm1 (aA m0 (aA (t2 mm6) (aA (t3 mm6) (aA mm5 (aA mm6 (fun r hr=>(t2 (t8 hr)))))))))))))⟩

end Go.Cb
