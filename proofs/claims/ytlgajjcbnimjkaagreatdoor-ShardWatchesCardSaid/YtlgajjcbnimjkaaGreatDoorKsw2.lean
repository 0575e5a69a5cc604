/- Functions of the program, walked: each comes to its plain function. -/
import Derived.Test.YtlgajjcbnimjkaaGreatDoorKsw1
import Derived.Test.YtlgajjcbnimjkaaGreatDoorExsw
import Derived.Test.YtlgajjcbnimjkaaGreatDoorN4sw
set_option linter.unusedVariables false
set_option linter.unusedSimpArgs false
set_option maxRecDepth 20000
set_option maxHeartbeats 1000000
namespace Go.Cb
open Go.Proofs Go.RowKit
variable {w:World} {Fo:List Ob} {rs:List Rp}

def gC(b:Int):Option Int:=
  some (b)
theorem nK{e:Nat}{b:Int}{c d f g j k l:Value}(H:Sep w (Blk e 228 [c,d,f,g,j,k,l]::Fo) rs){r:Int}(hm:gC b=some r) :
    Calls Tryz.prog 218 [pt e 0,.int .i64 b].toArray w (Ret fun v w'=>.tuple #[]=v∧Sep w' (Blk e 228 [c,d,.int .i64 r,.string (ByteArray.mk #[]),.string (ByteArray.mk #[]),.int .i64 0,.slice none 0 0]::Fo) (rs)):=by
 unfold gC at hm
 refine ent Tryz.func218 rfl Tryz.ntmps218 rfl rfl fun a E=>wp_region_lit<|pr 2 E rfl fun a E=>sv E rfl rfl rfl (cN E rfl (E.evs rfl) (v:=.agg #[.int .i64 b,.string (ByteArray.mk #[]),.string (ByteArray.mk #[]),.int .i64 0,.slice none 0 0]) (by kernel_rfl)) fun a E=>pr 2 E rfl fun a E=>bC (i:=0) E H (wn rfl) rfl rfl rfl rfl rfl rfl A9 rfl rfl fun w H=>wpList_nil<|rL E rfl<|?_
 cases hm
 exact ⟨rfl,H.reads Y0⟩

def pS(x1:aF)(b:ByteArray):Option Int:=
  (mA x1.Path b).bind fun c=>some (c)
theorem C4{x1:aF}{b:ByteArray}(H:Sep w (Fo) rs){r:Int}(hm:pS x1 b=some r) :
    Calls Tryz.prog 276 [.agg (kJ x1).toArray,.string b].toArray w (Ret fun v w'=>.int .i64 r=v∧Sep w' (Fo) (rs)):=by
 unfold pS at hm
 refine ent Tryz.func276 rfl Tryz.ntmps276 rfl rfl fun a E=>sq<|bS E H (wn rfl) rfl rfl rfl rfl rfl fun d w a H E=>pr 1 E rfl fun a E=>nx<|pr 1 E rfl fun a E=>lb E H 0 rfl rfl rfl rfl rfl rfl rfl U9 rfl fun a E=>pr 1 E rfl fun a E=>bd hm fun e c hm=>?_
 refine xk E rfl rfl rfl rfl rfl Lg (rS H c) fun w H a E=>pr 1 E rfl fun a E=>nt<|wp_ret<|bB E rfl rfl<|have H:=H.drop 0;?_
 cases hm
 exact ⟨rfl,H.reads Y0⟩

def cK(c:List aF)(e:ByteArray):Nat→Int→Int→Option (Int×Bool)
  | 0,_,_=>none
  | f+1,b,d=>
    if (decide (b < d))=true then ((idx c (IntKind.i64.wrap (rM .u64 (IntKind.u64.wrap (IntKind.i64.wrap (b+d))) 1))).bind fun k=>(pS k e).bind fun g=>if (decide (g < 0))=true then (cK c e f (IntKind.i64.wrap ((IntKind.i64.wrap (rM .u64 (IntKind.u64.wrap (IntKind.i64.wrap (b+d))) 1))+1)) d) else (cK c e f b (IntKind.i64.wrap (rM .u64 (IntKind.u64.wrap (IntKind.i64.wrap (b+d))) 1)))) else (if (decide (b < (c.length:Int)))=true then ((idx c b).bind fun i=>(pS i e).bind fun j=>some (b,j == 0)) else (some (b,false)))
def fA(b:List aF)(c:ByteArray):Option (Int×Bool):=
  cK b c (((b.length:Int) - 0:Int).toNat+1) 0 (b.length:Int)
theorem sC{k:Value}{f:List aF}{q:ByteArray}(H:Sep w (Row 62 aG k f::Fo) rs){r:Int×Bool}(hm:fA f q=some r) :
    Calls Tryz.prog 275 [k,.string q,.func (.func 276) #[] #[]].toArray w (Ret fun v w'=>.tuple #[.int .i64 r.1,.bool r.2]=v∧Sep w' (Row 62 aG k f::Fo) (rs)):=by
 unfold fA at hm
 refine ent Tryz.func275 rfl Tryz.ntmps275 rfl rfl fun a E=>sq<|pr 2 E rfl fun a E=>nx<|pr 1 E rfl fun a E=>sv E rfl rfl rfl (lC (i:=0) E H rfl rfl rfl U28) fun a E=>pr 1 E rfl fun a E=>nx<|pr 3 E rfl fun a E=>?_
 refine nt<|wp_seq<|wp_block<|cA (fun c a w=>∃ s t l,Env 49 a [(0,k),(1,.string q),(2,.func (.func 276) #[] #[]),(8,.int .i64 (f.length:Int)),(9,.int .i64 s),(10,.int .i64 t)]∧Sep w (Row 62 aG k f::Fo) l∧(∀ r,r ∈ rs→r ∈ l)∧cK f q c s t=some r) (((f.length:Int) - 0:Int).toNat+1) ?_ ?_
 ·exact X3 ⟨E.to rfl,H,Y0,hm⟩
 ·clear E H hm
  rintro c a w ⟨s,t,l,E,H,j,hm⟩
  cases c with
  | zero=>exact (bW hm rfl).elim
  | succ c=>
   unfold cK at hm
   refine wp_seq<|sq<|pr 3 E rfl fun a E=>nt<|wif E hm rfl (fun hm=>?_) fun hm=>?_
   ·refine wp_skip<|aD<|wp_block<|sq<|pr 4 E rfl fun a E=>sv E rfl rfl rfl (T5 E rfl rfl rfl (by decide)) fun a E=>pr 2 E rfl fun a E=>nx<|pr 3 E rfl fun a E=>?_
    refine bd hm fun m n hm=>?_
    obtain ⟨y,z,o⟩:=H.rowformNE (i:=0) rfl n
    refine sv E rfl rfl rfl (dL (d:=aG) E o rfl rfl rfl rfl U28 kN n) fun a E=>sv E rfl rfl rfl (iF (i:=0) E H cQ o rfl rfl rfl n (us:=[.string m.Path,.string m.Data,.int .i64 m.Version,.int .i64 m.Turn,.int .i64 m.Owner]) rfl U62 rfl kN) fun a E=>pr 1 E rfl fun a E=>bd hm fun A u hm=>aX E (wn rfl) rfl rfl (bP E rfl rfl rfl (Xn _)) (C4 H u)<|?_
    rintro _ w ⟨rfl,H⟩ a E
    refine pr 1 E rfl fun a E=>nt<|wif E hm rfl (fun hm=>?_) fun hm=>?_
    ·exact wp_region_lit<|pr 3 E rfl fun a E=>wpList_nil<|bY<|aD<|⟨c,Nat.lt_succ_self c,X3 ⟨E.to rfl,H,j,hm⟩⟩
    ·exact wp_region_lit<|pr 2 E rfl fun a E=>wpList_nil<|bY<|aD<|⟨c,Nat.lt_succ_self c,X3 ⟨E.to rfl,H,j,hm⟩⟩
   ·refine wp_exit<|bH<|bH<|dZ<|aD<|sq<|pr 5 E rfl fun a E=>cs hm (fun b hm=>?_) fun b hm=>?_
    ·refine pk 3 E (kc 39 rfl b) rfl fun a E=>bd hm fun e g hm=>?_
     obtain ⟨B,C,p⟩:=H.rowformNE (i:=0) rfl g
     refine aQ E (ws' (d:=39) E rfl rfl rfl rfl b) rfl rfl (dL (d:=aG) E p rfl rfl rfl rfl U28 kN g) fun a E=>aQ E (ws' (d:=39) E rfl rfl rfl rfl b) rfl rfl (iF (i:=0) E H cQ p rfl rfl rfl g (us:=[.string e.Path,.string e.Data,.int .i64 e.Version,.int .i64 e.Turn,.int .i64 e.Owner]) rfl U62 rfl kN) fun a E=>pk 1 E (kc 39 rfl b) rfl fun a E=>bd hm fun D x hm=>aX E (ws' (d:=39) E rfl rfl rfl rfl b) rfl rfl (bP E rfl rfl rfl (Xn _)) (C4 H x)<|?_
     rintro _ w ⟨rfl,H⟩ a E
     refine pk 4 E (kc 39 rfl b) rfl fun a E=>nt<|wp_ret<|iE E rfl rfl rfl<|?_
     cases hm
     exact ⟨rfl,H.reads j⟩
    ·refine pk 11 E (kc 39 rfl b) rfl fun a E=>nt<|wp_ret<|iE E rfl rfl rfl<|?_
     cases hm
     exact ⟨rfl,H.reads j⟩

def jZ(d:List aF)(c:ByteArray):Option (Int×Bool):=
  (fA d c).bind fun b=>some (b.1,b.2)
theorem s4{k:Nat}{b c d e f g i:Value}{l:List aF}{j:ByteArray}(H:Sep w (Blk k 228 [b,c,d,e,f,g,i]::Row 62 aG b l::Fo) rs){r:Int×Bool}(hm:jZ l j=some r) :
    Calls Tryz.prog 223 [pt k 0,.string j].toArray w (Ret fun v w'=>.tuple #[.int .i64 r.1,.bool r.2]=v∧Sep w' (Blk k 228 [b,c,d,e,f,g,i]::Row 62 aG b l::Fo) (rs)):=by
 unfold jZ at hm
 refine ent Tryz.func223 rfl Tryz.ntmps223 rfl rfl fun a E=>sq<|pr 2 E rfl fun a E=>nx<|pr 4 E rfl fun a E=>lb E H 0 rfl rfl rfl rfl rfl rfl rfl U28 rfl fun a E=>pr 1 E rfl fun a E=>have H:=H.frs [0,1] rfl;bd hm fun n m hm=>?_
 refine xk E rfl rfl rfl rfl rfl HZ (sC H m) fun w H a E=>pr 4 E rfl fun a E=>nt<|wp_ret<|iE E rfl rfl rfl<|have H:=H.frs [0,1] rfl;?_
 cases hm
 exact ⟨rfl,H.reads Y0⟩

def pT(x20:Int):Option (Int×Int×ByteArray×ByteArray×Int×(List ByteArray)):=
  some ((-1),x20,(ByteArray.mk #[]),(ByteArray.mk #[]),0,[])
def mK(f:List aF)(b:Int×Bool)(g:Int)(i:ByteArray)(j:ByteArray)(k:Int)(c:List ByteArray)(d:Bool):Option (Int×Int×ByteArray×ByteArray×Int×(List ByteArray)):=
  if d=true then ((gC 63).bind fun e=>pT e) else ((idx f b.1).bind fun l=>some (b.1,g,i,j,k,c))
def mL(d:List aF)(b:Int×Bool)(f:Int)(g:ByteArray)(i:ByteArray)(j:Int)(c:List ByteArray)(e:bL)(k:Bool):Option (Int×Int×ByteArray×ByteArray×Int×(List ByteArray)):=
  if (!b.2)=true then ((gC 62).bind fun l=>pT l) else (if k=true then (if (decide (e.Version ≥ 0))=true then ((idx d b.1).bind fun m=>mK d b f g i j c (e.Version != m.Version)) else (mK d b f g i j c false)) else (mK d b f g i j c false))
def gY(e:List aF)(f:Int)(g:ByteArray)(i:ByteArray)(j:Int)(c:List ByteArray)(b:bL):Option (Int×Int×ByteArray×ByteArray×Int×(List ByteArray)):=
  (jZ e b.Path).bind fun d=>if (b.Kind == 3)=true then (mL e d f g i j c b true) else (if (b.Kind == 5)=true then (mL e d f g i j c b true) else (mL e d f g i j c b (b.Kind == 6)))
theorem pY{n:Nat}{c j o:Value}{p:List aF}{A B:Int}{C D:ByteArray}{l:List ByteArray}{z:bL}(H:Sep w (Blk n 228 [c,o,.int .i64 A,.string C,.string D,.int .i64 B,j]::Row 62 aG c p::Row 9 kS j l::Fo) rs){r:Int×Int×ByteArray×ByteArray×Int×(List ByteArray)}(hm:gY p A C D B l z=some r) :
    Calls Tryz.prog 217 [pt n 0,.agg (cM z).toArray].toArray w (Ret fun v w'=>∃ Q,orp c r.1 5=v∧Sep w' (Blk n 228 [c,o,.int .i64 r.2.1,.string r.2.2.1,.string r.2.2.2.1,.int .i64 r.2.2.2.2.1,Q]::Row 62 aG c p::Row 9 kS Q r.2.2.2.2.2::Fo) (rs)):=by
 unfold gY at hm
 refine ent Tryz.func217 rfl Tryz.ntmps217 rfl rfl fun a E=>sq<|bS E H (wn rfl) rfl rfl rfl rfl rfl fun L w a H E=>pr 1 E rfl fun a E=>nx<|pr 2 E rfl fun a E=>lb E H 0 rfl rfl rfl rfl rfl rfl rfl U9 rfl fun a E=>have H:=H.frs [3,1,3,3] rfl;bd hm fun q M hm=>?_
 refine xk E rfl rfl rfl rfl rfl Py (s4 H M) fun w H a E=>pr 5 E rfl fun a E=>nt<|aT (fun a w=>∃ F s,Env 63 a [(0,pt n 0),(3,pt L 0),(5,.int .i64 q.1),(6,.bool q.2),(7,.bool F)]∧Sep w (Blk n 228 [c,o,.int .i64 A,.string C,.string D,.int .i64 B,j]::Blk L 71 (cM z)::Row 62 aG c p::Row 9 kS j l::Fo) s∧(∀ r,r ∈ rs→r ∈ s)∧mL p q A C D B l z F=some r) ?_ ?_
 ·refine wp_region_lit<|pr 1 E rfl fun a E=>lb E H 2 rfl rfl rfl rfl rfl rfl rfl U3 rfl fun a E=>pr 2 E rfl fun a E=>cs hm (fun e hm=>?_) fun e hm=>?_
  ·exact pk 10 E (kc 18 rfl e) rfl fun a E=>nt<|have H:=H.frs [3,2,3,3] rfl;⟨_,_,E.to rfl,H,Y0,hm⟩
  ·refine pk 1 E (kc 18 rfl e) rfl fun a E=>aQ E (ws' (d:=18) E rfl rfl rfl rfl e) rfl rfl (bT (i:=2) E H rfl rfl rfl rfl U3 rfl) fun a E=>pk 3 E (kc 18 rfl e) rfl fun a E=>cs hm (fun f hm=>?_) fun f hm=>?_
   ·exact pk 5 E (kc 23 rfl f) rfl fun a E=>nt<|have H:=H.frs [3,2,3,3] rfl;⟨_,_,E.to rfl,H,Y0,hm⟩
   ·exact pk 1 E (kc 23 rfl f) rfl fun a E=>aQ E (ws' (d:=23) E rfl rfl rfl rfl f) rfl rfl (bT (i:=2) E H rfl rfl rfl rfl U3 rfl) fun a E=>pk 3 E (kc 23 rfl f) rfl fun a E=>nt<|have H:=H.frs [3,2,3,3] rfl;⟨_,_,E.to rfl,H,Y0,hm⟩
 ·clear E H hm
  rintro a w ⟨F,s,E,H,m,hm⟩
  unfold mL at hm
  refine aT (fun a w=>∃ x20 t,Env 63 a []∧Sep w (Blk n 228 [c,o,.int .i64 x20,.string (ByteArray.mk #[]),.string (ByteArray.mk #[]),.int .i64 0,.slice none 0 0]::Row 62 aG c p::Fo) t∧(∀ r,r ∈ rs→r ∈ t)∧pT x20=some r) ?_ ?_
  ·refine wp_block<|sq<|pr 3 E rfl fun a E=>nt<|wif E hm rfl (fun hm=>?_) fun hm=>?_
   ·exact wp_region_lit<|pr 1 E rfl fun a E=>bd hm fun R N hm=>xk E rfl rfl rfl rfl rfl T9 (nK H N) fun w H a E=>wpList_nil<|bY<|aD<|have H:=H.drs [1,2];⟨_,_,E.nil,H,m,hm⟩
   ·refine aT (fun a w=>∃ G u,Env 63 a [(0,pt n 0),(5,.int .i64 q.1),(40,.bool G)]∧Sep w (Blk n 228 [c,o,.int .i64 A,.string C,.string D,.int .i64 B,j]::Row 62 aG c p::Row 9 kS j l::Fo) u∧(∀ r,r ∈ rs→r ∈ u)∧mK p q A C D B l G=some r) ?_ ?_
    ·refine dw [(0,0),(1,0),(2,0),(3,0),(4,0),(5,0),(6,0),(7,0),(8,0),(9,0),(10,0),(11,0),(12,0),(13,0),(14,0),(15,0),(16,0),(17,0),(18,0),(19,0),(20,1)] [0,1,2] [] H (by kernel_rfl) (fun _ _ _ h=>False.elim h.2) fun w W0 hI H=>fn 2 E rfl fun a E=>cs hm (fun g hm=>?_) fun g hm=>?_
     ·refine fk 1 E (kc 42 rfl g) rfl fun a E=>fb E rfl (ws' (d:=42) E rfl rfl rfl rfl g) rfl rfl rfl rfl mm1 rfl U2 rfl fun a E=>fk 3 E (kc 42 rfl g) rfl fun a E=>cs hm (fun b hm=>?_) fun b hm=>?_
      ·refine fk 1 E (kc 47 rfl b) rfl fun a E=>fb E rfl (ws' (d:=47) E rfl rfl rfl rfl b) rfl rfl rfl rfl mm1 rfl U2 rfl fun a E=>fk 4 E (kc 47 rfl b) rfl fun a E=>fb E rfl (ws' (d:=47) E rfl rfl rfl rfl b) rfl rfl rfl rfl m0 rfl U28 rfl fun a E=>fk 1 E (kc 47 rfl b) rfl fun a E=>bd hm fun S x hm=>?_
       obtain ⟨T,U,I⟩:=H.rowformNE (i:=2) rfl x
       refine cB E rfl (ws' (d:=47) E rfl rfl rfl rfl b) rfl rfl (fun w hW=>dL (d:=aG) E I rfl rfl rfl rfl U28 kN x) fun a E=>?_
       refine fk 1 E (kc 47 rfl b) rfl fun a E=>cB E rfl (ws' (d:=47) E rfl rfl rfl rfl b) rfl rfl (fun w hW=>Dm (d:=aG) (k:=2) E cQ I x mm2 rfl rfl rfl U2 rfl hW) fun a E=>?_
       refine fk 2 E (kc 47 rfl b) rfl fun a E=>cE rfl<|pr 1 E rfl fun a E=>nt<|?_
       refine ⟨⟨_,_,H,(aB m0 (aB mm1 (aB mm2 (aL)))),(aN)⟩,?_⟩
       refine bR<|?_
       clear hI
       exact aD<|have H:=H.drop 1;⟨_,_,E.to rfl,H,m,hm⟩
      ·refine fk 13 E (kc 47 rfl b) rfl fun a E=>cE rfl<|pr 1 E rfl fun a E=>nt<|?_
       refine ⟨⟨_,_,H,(aB m0 (aB mm1 (aB mm2 (aL)))),(aN)⟩,?_⟩
       refine bR<|?_
       clear hI
       exact aD<|have H:=H.drop 1;⟨_,_,E.to rfl,H,m,hm⟩
     ·refine fk 18 E (kc 42 rfl g) rfl fun a E=>cE rfl<|pr 1 E rfl fun a E=>nt<|?_
      refine ⟨⟨_,_,H,(aB m0 (aB mm1 (aB mm2 (aL)))),(aN)⟩,?_⟩
      refine bR<|?_
      clear hI
      exact aD<|have H:=H.drop 1;⟨_,_,E.to rfl,H,m,hm⟩
    ·clear E H hm
     rintro a w ⟨G,u,E,H,J,hm⟩
     unfold mK at hm
     refine wif E hm rfl (fun hm=>?_) fun hm=>?_
     ·exact wp_region_lit<|pr 1 E rfl fun a E=>bd hm fun V O hm=>xk E rfl rfl rfl rfl rfl T9 (nK H O) fun w H a E=>wpList_nil<|bY<|aD<|have H:=H.drop 2;⟨_,_,E.nil,H,J,hm⟩
     ·refine sq<|pr 4 E rfl fun a E=>lb E H 0 rfl rfl rfl rfl rfl rfl rfl U28 rfl fun a E=>pr 1 E rfl fun a E=>bd hm fun W y hm=>?_
      obtain ⟨X,Y,K⟩:=H.rowformNE (i:=1) rfl y
      refine sv E rfl rfl rfl (dL (d:=aG) E K rfl rfl rfl rfl U28 kN y) fun a E=>pr 1 E rfl fun a E=>nt<|wp_ret<|bU<|aP<|bB E rfl rfl<|?_
      cases hm
      exact ⟨_,Ad _ K y,H.reads J⟩
  ·clear E H hm
   rintro a w ⟨x20,t,E,H,P,hm⟩
   unfold pT at hm
   refine sq<|pr 1 E rfl fun a E=>nt<|wp_ret<|bB E rfl rfl<|have H:=H.nilRow 9 kS;have H:=H.frs [0,2,2] rfl;?_
   cases hm
   exact ⟨_,rfl,H.reads P⟩

def rT(e:List aF)(i:Int)(j:ByteArray)(k:ByteArray)(l:Int)(f:List ByteArray)(c:bL):Option ((List aF)×Int×ByteArray×ByteArray×Int×(List ByteArray)):=
  (gY e i j k l f c).bind fun b=>if (decide (b.1 < 0))=true then (some (e,b.2.1,b.2.2.1,b.2.2.2.1,b.2.2.2.2.1,b.2.2.2.2.2)) else ((idx e b.1).bind fun d=>if (d.Version == 281474976710656)=true then ((gC 2).bind fun g=>some (e,g,(ByteArray.mk #[]),(ByteArray.mk #[]),0,[])) else (some ((e.set b.1.toNat ({ d with Data:=c.Data }:aF)).set b.1.toNat ({ ({ d with Data:=c.Data }:aF) with Version:=IntKind.i64.wrap ((({ d with Data:=c.Data }:aF).Version)+1) }:aF),b.2.1,b.2.2.1,b.2.2.2.1,({ ({ d with Data:=c.Data }:aF) with Version:=IntKind.i64.wrap ((({ d with Data:=c.Data }:aF).Version)+1) }:aF).Version,b.2.2.2.2.2)))
theorem Ci{n:Nat}{g j l:Value}{q:List aF}{s t:Int}{u x:ByteArray}{m:List ByteArray}{e:bL}(H:Sep w (Blk n 228 [g,l,.int .i64 s,.string u,.string x,.int .i64 t,j]::Row 62 aG g q::Row 9 kS j m::Fo) rs){r:(List aF)×Int×ByteArray×ByteArray×Int×(List ByteArray)}(hm:rT q s u x t m e=some r) :
    Calls Tryz.prog 161 [pt n 0,.agg (cM e).toArray].toArray w (Ret fun v w'=>∃ y,.tuple #[]=v∧Sep w' (Blk n 228 [g,l,.int .i64 r.2.1,.string r.2.2.1,.string r.2.2.2.1,.int .i64 r.2.2.2.2.1,y]::Row 62 aG g r.1::Row 9 kS y r.2.2.2.2.2::Fo) (rs)):=by
 unfold rT at hm
 refine ent Tryz.func161 rfl Tryz.ntmps161 rfl rfl fun a E=>sq<|bS E H (wn rfl) rfl rfl rfl rfl rfl fun z w a H E=>nx<|pr 1 E rfl fun a E=>sv E rfl rfl rfl (cD (i:=0) (us:=(cM e)) E H rfl rfl rfl rfl U71 rfl jT) fun a E=>have H:=H.frs [0,3,3,3] rfl;bd hm fun A o hm=>cJ E rfl rfl rfl rfl rfl Bs (pY H o)<|?_
 rintro _ w ⟨B,rfl,H⟩ a E
 refine pr 1 E rfl fun a E=>nt<|wp_block<|sq<|pr 1 E rfl fun a E=>sv E rfl rfl rfl (BA E Fx Fy rfl rfl rfl) fun a E=>pr 1 E rfl fun a E=>nt<|wif E hm rfl (fun hm=>?_) fun hm=>?_
 ·refine wp_skip<|bY<|rL E rfl<|have H:=H.drop 3;?_
  cases hm
  exact ⟨_,rfl,H.reads Y0⟩
 ·refine sq<|pr 1 E rfl fun a E=>bd hm fun f b hm=>?_
  obtain ⟨C,D,c⟩:=H.rowformNE (i:=1) rfl b
  rw [Ad 5 c b] at E
  refine pr 2 E rfl fun a E=>sv E rfl rfl rfl (pW (d:=aG) (i:=1) (k:=2) E H cQ c rfl rfl rfl b rfl U2 rfl) fun a E=>pr 2 E rfl fun a E=>nt<|wif E hm rfl (fun hm=>?_) fun hm=>?_
  ·refine wp_region_lit<|pr 1 E rfl fun a E=>bd hm fun F p hm=>xk E rfl rfl rfl rfl rfl T9 (nK H p) fun w H a E=>wpList_nil<|bY<|rL E rfl<|have H:=H.nilRow 9 kS;have H:=H.drs [3,3];?_
   refine have H:=H.frs [0,2,2] rfl;?_
   cases hm
   exact ⟨_,rfl,H.reads Y0⟩
  ·refine sq<|pr 2 E rfl fun a E=>lb E H 3 rfl rfl rfl rfl rfl rfl rfl U9 rfl fun a E=>pr 2 E rfl fun a E=>F1 (d:=aG) (i:=1) (k:=1) (z':=({ f with Data:=e.Data }:aF)) E H cQ (wn rfl) rfl c rfl rfl rfl rfl rfl rfl b rfl rfl sz9 fun w H=>nx<|pr 3 E rfl fun a E=>sv E rfl rfl rfl (pW (d:=aG) (i:=1) (k:=2) E H cQ c rfl rfl rfl (wI b) rfl U2 rfl) fun a E=>pr 3 E rfl fun a E=>?_
   refine F1 (d:=aG) (i:=1) (k:=2) (z':=({ ({ f with Data:=e.Data }:aF) with Version:=IntKind.i64.wrap ((({ f with Data:=e.Data }:aF).Version)+1) }:aF)) E H cQ (wn rfl) rfl c rfl rfl rfl rfl rfl rfl (wI b) rfl rfl sz2 fun w H=>nt<|wp_region_lit<|pr 4 E rfl fun a E=>sv E rfl rfl rfl (pW (d:=aG) (i:=1) (k:=2) E H cQ c rfl rfl rfl (wI (wI b)) rfl U2 rfl) fun a E=>pr 3 E rfl fun a E=>bC (i:=0) E H (wn rfl) rfl rfl rfl rfl rfl rfl sz2 rfl rfl fun w H=>wpList_nil<|bY<|?_
   refine rL E rfl<|have H:=H.drop 3;?_
   cases hm
   exact ⟨_,rfl,H.reads Y0⟩

def wD(x1:bL):Option (Int×ByteArray×ByteArray×ByteArray×Int×Int×Bool):=
  some (x1.Kind,x1.Dir,x1.Path,x1.Data,x1.Version,x1.Owner,x1.Turns)
theorem An{x1:bL}(H:Sep w (Fo) rs){r:Int×ByteArray×ByteArray×ByteArray×Int×Int×Bool}(hm:wD x1=some r) :
    Calls Tryz.prog 227 [.agg (cM x1).toArray].toArray w (Ret fun v w'=>∃ b,.func (.func 279) #[] #[pt b 0]=v∧Sep w' (Blk b 71 [.int .i64 r.1,.string r.2.1,.string r.2.2.1,.string r.2.2.2.1,.int .i64 r.2.2.2.2.1,.int .i64 r.2.2.2.2.2.1,.bool r.2.2.2.2.2.2]::Fo) (rs)):=by
 unfold wD at hm
 refine ent Tryz.func227 rfl Tryz.ntmps227 rfl rfl fun a E=>sq<|bS E H (wn rfl) rfl rfl rfl rfl rfl fun c w a H E=>pr 1 E rfl fun a E=>nx<|sv E rfl rfl rfl (kH E rfl rfl rfl) fun a E=>pr 1 E rfl fun a E=>nt<|wp_ret<|?_
 refine bB E rfl rfl<|?_
 cases hm
 exact ⟨_,rfl,H.reads Y0⟩

def uU(x1:aF)(c:ByteArray):Option Bool:=
  (pA x1.Path).bind fun b=>if b.2=true then (some (sEq b.1 c)) else (some (false))
theorem P7{x1:aF}{l:Nat}{m:ByteArray}{c e f g j k:Value}(H:Sep w (Blk l 71 [c,e,.string m,f,g,j,k]::Fo) rs){r:Bool}(hm:uU x1 m=some r) :
    Calls Tryz.prog 279 [.agg (kJ x1).toArray,pt l 0].toArray w (Ret fun v w'=>.bool r=v∧Sep w' (Blk l 71 [c,e,.string m,f,g,j,k]::Fo) (rs)):=by
 unfold uU at hm
 refine ent Tryz.func279 rfl Tryz.ntmps279 rfl rfl fun a E=>sq<|bS E H (wn rfl) rfl rfl rfl rfl rfl fun o w a H E=>pr 1 E rfl fun a E=>nx<|pr 1 E rfl fun a E=>lb E H 0 rfl rfl rfl rfl rfl rfl rfl U9 rfl fun a E=>bd hm fun p n hm=>xk E rfl rfl rfl rfl rfl Ji (w3 H n) fun w H a E=>?_
 refine pr 5 E rfl fun a E=>nx<|pr 2 E rfl fun a E=>cs hm (fun b hm=>?_) fun b hm=>?_
 ·refine pk 2 E (kc 13 rfl b) rfl fun a E=>aQ E (ws' (d:=13) E rfl rfl rfl rfl b) rfl rfl (bT (i:=1) E H rfl rfl rfl rfl U9 rfl) fun a E=>pk 3 E (kc 13 rfl b) rfl fun a E=>nt<|wp_ret<|bB E rfl rfl<|have H:=H.drop 0;?_
  cases hm
  exact ⟨rfl,H.reads Y0⟩
 ·refine pk 6 E (kc 13 rfl b) rfl fun a E=>nt<|wp_ret<|bB E rfl rfl<|have H:=H.drop 0;?_
  cases hm
  exact ⟨rfl,H.reads Y0⟩

def uV(b:ByteArray):Option ByteArray:=
  (zQ b).bind fun c=>some (c.2.1)
theorem P8{b:ByteArray}(H:Sep w (Fo) rs){r:ByteArray}(hm:uV b=some r) :
    Calls Tryz.prog 222 [.string b].toArray w (Ret fun v w'=>.string r=v∧Sep w' (Fo) (rs)):=by
 unfold uV at hm
 refine ent Tryz.func222 rfl Tryz.ntmps222 rfl rfl fun a E=>sq<|pr 1 E rfl fun a E=>nx<|pr 1 E rfl fun a E=>bd hm fun d c hm=>xk E rfl rfl rfl rfl rfl Xg (Gc H c) fun w H a E=>pr 7 E rfl fun a E=>nx<|?_
 refine pr 2 E rfl fun a E=>nt<|wp_ret<|bB E rfl rfl<|?_
 cases hm
 exact ⟨rfl,H.reads Y0⟩

def mZ(b:Bool)(c:(List ByteArray)):Option (Bool×(List ByteArray)):=
  some (b,c)
def nA(x1:aF)(b:List ByteArray)(c:Bool):Option (Bool×(List ByteArray)):=
  if c=true then ((uV x1.Path).bind fun d=>(ck (b.length+([d]:List ByteArray).length ≤ LIM)).bind fun e=>mZ c (b ++ ([d]:List ByteArray))) else (mZ c b)
def mM(x1:aF)(e:Int)(c:ByteArray)(b:List ByteArray):Option (Bool×(List ByteArray)):=
  if (x1.Owner == e)=true then ((uU x1 c).bind fun d=>nA x1 b d) else (nA x1 b false)
theorem C5{x1:aF}{P j c g f:Nat}{Q:Int}{k:ByteArray}{o p q s t u y z A B C D F G I J K L M:Value}{N:List ByteArray}(H:Sep w (Blk P 71 [p,q,s,t,u,.int .i64 Q,y]::Blk j 139 [.func (.func 279) #[] #[pt c 0]]::Blk c 71 [z,A,.string k,B,C,D,F]::Blk g 225 [pt f 0]::Blk f 228 [G,I,J,K,L,M,o]::Row 9 kS o N::Fo) rs){r:Bool×(List ByteArray)}(hm:mM x1 Q k N=some r) :
    Calls Tryz.prog 230 [.agg (kJ x1).toArray,pt P 0,pt j 0,pt g 0].toArray w (Ret fun v w'=>∃ Z,.bool r.1=v∧Sep w' (Blk P 71 [p,q,s,t,u,.int .i64 Q,y]::Blk j 139 [.func (.func 279) #[] #[pt c 0]]::Blk c 71 [z,A,.string k,B,C,D,F]::Blk g 225 [pt f 0]::Blk f 228 [G,I,J,K,L,M,Z]::Row 9 kS Z r.2::Fo) (rs)):=by
 unfold mM at hm
 refine ent Tryz.func230 rfl Tryz.ntmps230 rfl rfl fun a E=>sq<|bS E H (wn rfl) rfl rfl rfl rfl rfl fun U w a H E=>pr 1 E rfl fun a E=>nt<|aT (fun a w=>∃ l m,Env 33 a [(3,pt g 0),(4,pt U 0),(6,.bool l)]∧Sep w (Blk g 225 [pt f 0]::Blk U 62 (kJ x1)::Blk P 71 [p,q,s,t,u,.int .i64 Q,y]::Blk j 139 [.func (.func 279) #[] #[pt c 0]]::Blk c 71 [z,A,.string k,B,C,D,F]::Blk f 228 [G,I,J,K,L,M,o]::Row 9 kS o N::Fo) m∧(∀ r,r ∈ rs→r ∈ m)∧nA x1 N l=some r) ?_ ?_
 ·refine wp_region_lit<|pr 1 E rfl fun a E=>lb E H 0 rfl rfl rfl rfl rfl rfl rfl U2 rfl fun a E=>pr 1 E rfl fun a E=>lb E H 1 rfl rfl rfl rfl rfl rfl rfl U2 rfl fun a E=>pr 2 E rfl fun a E=>cs hm (fun b hm=>?_) fun b hm=>?_
  ·refine aQ E (ws' (d:=12) E rfl rfl rfl rfl b) rfl rfl (bT (i:=2) E H rfl rfl rfl rfl LE rfl) fun a E=>aQ E (ws' (d:=12) E rfl rfl rfl rfl b) rfl rfl (cD (i:=0) (us:=(kJ x1)) E H rfl rfl rfl rfl U62 rfl kN) fun a E=>have H:=H.frs [6,6,6,5,5,5,6] rfl;bd hm fun b0 V hm=>aX E (ws' (d:=12) E rfl rfl rfl rfl b) rfl rfl (bP E rfl rfl rfl (Pw _)) (P7 H V)<|?_
   rintro _ w ⟨rfl,H⟩ a E
   exact pk 2 E (kc 12 rfl b) rfl fun a E=>nt<|have H:=H.frs [6,6,2,5,5,5,6] rfl;⟨_,_,E.to rfl,H,Y0,hm⟩
  ·exact pk 5 E (kc 12 rfl b) rfl fun a E=>nt<|have H:=H.frs [6,6,5,5,5,5,6] rfl;⟨_,_,E.to rfl,H,Y0,hm⟩
 ·clear E H hm
  rintro a w ⟨l,m,E,H,R,hm⟩
  unfold nA at hm
  refine aT (fun a w=>∃ S T n,Env 33 a [(6,.bool l)]∧Sep w (Blk P 71 [p,q,s,t,u,.int .i64 Q,y]::Blk j 139 [.func (.func 279) #[] #[pt c 0]]::Blk c 71 [z,A,.string k,B,C,D,F]::Blk g 225 [pt f 0]::Blk f 228 [G,I,J,K,L,M,S]::Row 9 kS S T::Fo) n∧(∀ r,r ∈ rs→r ∈ n)∧mZ l T=some r) ?_ ?_
  ·refine sq<|pr 1 E rfl fun a E=>nt<|wif E hm rfl (fun hm=>?_) fun hm=>?_
   ·refine dw [(0,0),(1,0),(2,0),(3,0),(4,0),(5,0),(6,0),(7,0),(8,1),(9,1),(10,1),(11,2),(12,2),(13,2),(14,2)] [0,1,5] [] H (by kernel_rfl) (fun _ _ _ h=>False.elim h.2) fun w W0 hI H=>fb E rfl (wn rfl) rfl rfl rfl rfl m0 rfl Pv rfl fun a E=>fb E rfl (wn rfl) rfl rfl rfl rfl m0 rfl Pv rfl fun a E=>fn 3 E rfl fun a E=>fb E rfl (wn rfl) rfl rfl rfl rfl mm2 rfl U41 rfl fun a E=>fn 1 E rfl fun a E=>fb E rfl (wn rfl) rfl rfl rfl rfl mm1 rfl U9 rfl fun a E=>cE rfl<|bd hm fun O W hm=>?_
    refine xk E rfl rfl rfl rfl rfl Px (P8 H W) fun w H a E=>nt<|?_
    refine ⟨⟨_,_,H,(aB m0 (aB mm1 (aB mm5 (aL)))),(aN)⟩,?_⟩
    refine cE rfl<|sT (e:=9) (d:=kS) (cs:=[.string O]) (xs:=[O]) E H (wn rfl) rfl rfl rfl (E.evs rfl) (by kernel_rfl) rfl (fun ok hr=>(Rows.single (d:=kS) (cs:=[.string O]) (x:=O) rfl)) fun b1 w a H E=>nt<|?_
    refine ⟨⟨_,_,H,(aB m0 (aB mm1 (aB mm5 (aL)))),(aN)⟩,?_⟩
    refine cE rfl<|bk hm fun X hm=>eU (i:=6) E H (wn rfl) rfl rfl rfl rfl rfl rfl (lD m0) U41 Pj rfl X rfl fun b2 w a H E=>nt<|?_
    refine ⟨⟨_,_,H,(aB m0 (aB mm1 (aB mm5 (aL)))),(aN)⟩,?_⟩
    refine bQ rfl<|pr 1 E rfl fun a E=>nt<|bQ rfl<|pr 1 E rfl fun a E=>nt<|bQ rfl<|pr 1 E rfl fun a E=>nt<|?_
    refine bQ rfl<|?_
    obtain ⟨q63,b3,rfl⟩:=H.rowform (i:=6) rfl
    refine bC (i:=5) E H (wn rfl) rfl rfl rfl rfl rfl rfl DS rfl rfl fun w H=>nt<|bR<|?_
    clear hI
    exact aD<|have H:=H.drop 1;have H:=H.frs [5,5,2,5,5,5] rfl;X3 ⟨E.to rfl,H,(Y1 R),hm⟩
   ·exact wp_skip<|aD<|have H:=H.drop 1;have H:=H.frs [5,5,2,5,5,5] rfl;X3 ⟨E.to rfl,H,R,hm⟩
  ·clear E H hm
   rintro a w ⟨S,T,n,E,H,Y,hm⟩
   unfold mZ at hm
   refine sq<|pr 2 E rfl fun a E=>nt<|wp_ret<|bB E rfl rfl<|?_
   cases hm
   exact ⟨_,rfl,H.reads Y⟩

def cT(f:List aF)(g:Int)(d:ByteArray):Nat→Int→(List ByteArray)→Option (Int×(List ByteArray))
  | 0,_,_=>none
  | j+1,b,e=>
    if (decide (b < (f.length:Int)))=true then ((idx f b).bind fun i=>(mM i g d e).bind fun c=>if c.1=true then (some (b,c.2)) else (cT f g d j (IntKind.i64.wrap (b+1)) c.2)) else (some ((-1),e))
def hB(b:List aF)(e:Int)(c:ByteArray)(d:List ByteArray):Option (Int×(List ByteArray)):=
  cT b e c (((b.length:Int) - 0:Int).toNat+1) 0 d
theorem xY{e S q s t u x y z A B C D F G I J K L:Value}{l:List aF}{M f b g c:Nat}{N:Int}{j:ByteArray}{T:List ByteArray}(H:Sep w (Row 62 aG e l::Blk M 71 [q,s,t,u,x,.int .i64 N,y]::Blk f 139 [.func (.func 279) #[] #[pt b 0]]::Blk b 71 [z,A,.string j,B,C,D,F]::Blk g 225 [pt c 0]::Blk c 228 [e,G,I,J,K,L,S]::Row 9 kS S T::Fo) rs){r:Int×(List ByteArray)}(hm:hB l N j T=some r) :
    Calls Tryz.prog 144 [e,.func (.func 230) #[] #[pt M 0,pt f 0,pt g 0]].toArray w (Ret fun v w'=>∃ V,.int .i64 r.1=v∧Sep w' (Blk M 71 [q,s,t,u,x,.int .i64 N,y]::Blk f 139 [.func (.func 279) #[] #[pt b 0]]::Blk b 71 [z,A,.string j,B,C,D,F]::Blk g 225 [pt c 0]::Blk c 228 [e,G,I,J,K,L,V]::Row 62 aG e l::Row 9 kS V r.2::Fo) (rs)):=by
 unfold hB at hm
 refine ent Tryz.func144 rfl Tryz.ntmps144 rfl rfl fun a E=>sq<|pr 1 E rfl fun a E=>nt<|wp_seq<|sq<|pr 1 E rfl fun a E=>sv E rfl rfl rfl (lC (i:=0) E H rfl rfl rfl U28) fun a E=>pr 1 E rfl fun a E=>?_
 refine nt<|wp_block<|cA (fun p a w=>∃ O P Q m,Env 19 a [(0,e),(1,.func (.func 230) #[] #[pt M 0,pt f 0,pt g 0]),(7,.int .i64 (l.length:Int)),(8,.int .i64 P)]∧Sep w (Row 62 aG e l::Blk M 71 [q,s,t,u,x,.int .i64 N,y]::Blk f 139 [.func (.func 279) #[] #[pt b 0]]::Blk g 225 [pt c 0]::Blk b 71 [z,A,.string j,B,C,D,F]::Blk c 228 [e,G,I,J,K,L,O]::Row 9 kS O Q::Fo) m∧(∀ r,r ∈ rs→r ∈ m)∧cT l N j p P Q=some r) (((l.length:Int) - 0:Int).toNat+1) ?_ ?_
 ·exact have H:=H.frs [6,6,5,6,6,6,6] rfl;X4 ⟨E.to rfl,H,Y0,hm⟩
 ·clear E H hm
  rintro p a w ⟨O,P,Q,m,E,H,n,hm⟩
  cases p with
  | zero=>exact (bW hm rfl).elim
  | succ p=>
   unfold cT at hm
   refine sq<|pr 1 E rfl fun a E=>nt<|wp_seq<|wif E hm rfl (fun hm=>?_) fun hm=>?_
   ·refine wp_skip<|aD<|wp_seq<|wp_block<|sq<|pr 2 E rfl fun a E=>nx<|pr 3 E rfl fun a E=>bd hm fun k o hm=>?_
    obtain ⟨W,X,R⟩:=H.rowformNE (i:=0) rfl o
    refine sv E rfl rfl rfl (dL (d:=aG) E R rfl rfl rfl rfl U28 kN o) fun a E=>sv E rfl rfl rfl (iF (i:=0) E H cQ R rfl rfl rfl o (us:=[.string k.Path,.string k.Data,.int .i64 k.Version,.int .i64 k.Turn,.int .i64 k.Owner]) rfl U62 rfl kN) fun a E=>have H:=H.frs [0,6,6,5,6,6,6] rfl;bd hm fun Y U hm=>aX E (wn rfl) rfl rfl (bP E rfl rfl rfl (Xm _)) (C5 H U)<|?_
    rintro _ w ⟨Z,rfl,H⟩ a E
    refine nt<|wif E hm rfl (fun hm=>?_) fun hm=>?_
    ·refine sq<|pr 2 E rfl fun a E=>nt<|wp_ret<|bU<|aP<|aP<|bU<|aP<|?_
     refine bB E rfl rfl<|have H:=H.frs [5,6,6,6,6,6,6] rfl;?_
     cases hm
     exact ⟨_,rfl,H.reads n⟩
    ·exact wp_skip<|bY<|aD<|wp_region_lit<|pr 2 E rfl fun a E=>nt<|have H:=H.frs [5,5,4,5,5,5,6] rfl;⟨p,Nat.lt_succ_self p,X4 ⟨E.to rfl,H,n,hm⟩⟩
   ·refine wp_exit<|bH<|bH<|dZ<|aD<|sq<|pr 1 E rfl fun a E=>nt<|wp_ret<|?_
    refine bB E rfl rfl<|have H:=H.frs [6,1,6,5,6,6,6] rfl;?_
    cases hm
    exact ⟨_,rfl,H.reads n⟩

def fE(rec_1:(List aF)→Int→Int→(List ByteArray)→Option ((List aF)×(List ByteArray)))(b:Int)(c:(List aF))(d:Int)(e:(List ByteArray)):Option ((List aF)×(List ByteArray)):=
  rec_1 c d (IntKind.i64.wrap (b+1)) e
def dC(j:Int)(e:ByteArray):Nat→(List aF)→Int→Int→(List ByteArray)→Option ((List aF)×(List ByteArray))
  | 0,_,_,_,_=>none
  | k+1,c,b,d,g=>
    if (decide (d < (c.length:Int)))=true then ((idx c d).bind fun i=>(mM i j e g).bind fun f=>if (!f.1)=true then ((idx c b).bind fun l=>fE (dC j e k) d (c.set b.toNat i) (IntKind.i64.wrap (b+1)) f.2) else (fE (dC j e k) d c b f.2)) else ((ck (0 ≤ b∧b ≤ c.length)).bind fun m=>(ck (0 ≤ b∧b ≤ (c.take b.toNat ++ List.replicate (c.length - b.toNat) (⟨⟨#[]⟩,⟨#[]⟩,0,0,0⟩:aF)).length)).bind fun n=>some ((c.take b.toNat ++ List.replicate (c.length - b.toNat) (⟨⟨#[]⟩,⟨#[]⟩,0,0,0⟩:aF)).take b.toNat,g))
def hP(c:List aF)(e:Int)(d:ByteArray)(f:List ByteArray):Option ((List aF)×(List ByteArray)):=
  (hB c e d f).bind fun b=>if (b.1 == (-1))=true then (some (c,b.2)) else (dC e d (((c.length:Int) - (IntKind.i64.wrap (b.1+1)):Int).toNat+1) c b.1 (IntKind.i64.wrap (b.1+1)) b.2)
theorem yS{k b1 x y z A B C D F G I J K L M N O P:Value}{b3:List aF}{m f c g e:Nat}{n:Int}{j:ByteArray}{b2:List ByteArray}(H:Sep w (Row 62 aG k b3::Blk m 71 [x,y,z,A,B,.int .i64 n,C]::Blk f 139 [.func (.func 279) #[] #[pt c 0]]::Blk c 71 [D,F,.string j,G,I,J,K]::Blk g 225 [pt e 0]::Blk e 228 [k,L,M,N,O,P,b1]::Row 9 kS b1 b2::Fo) rs){r:(List aF)×(List ByteArray)}(hm:hP b3 n j b2=some r) :
    Calls Tryz.prog 229 [k,.func (.func 230) #[] #[pt m 0,pt f 0,pt g 0]].toArray w (Ret fun v w'=>∃ b8 b9,b8=v∧Sep w' (Row 62 aG b8 r.1::Blk m 71 [x,y,z,A,B,.int .i64 n,C]::Blk f 139 [.func (.func 279) #[] #[pt c 0]]::Blk c 71 [D,F,.string j,G,I,J,K]::Blk g 225 [pt e 0]::Blk e 228 [k,L,M,N,O,P,b9]::Row 9 kS b9 r.2::Fo) (rs)):=by
 unfold hP at hm
 refine ent Tryz.func229 rfl Tryz.ntmps229 rfl rfl fun a E=>sq<|pr 1 E rfl fun a E=>nx<|pr 2 E rfl fun a E=>bd hm fun c0 b4 hm=>cJ E rfl rfl rfl rfl rfl Pg (xY H b4)<|?_
 rintro _ w ⟨c1,rfl,H⟩ a E
 refine pr 1 E rfl fun a E=>nt<|wp_seq<|sq<|pr 2 E rfl fun a E=>nt<|wif E hm rfl (fun hm=>?_) fun hm=>?_
 ·refine sq<|pr 2 E rfl fun a E=>nt<|wp_ret<|aP<|bB E rfl rfl<|have H:=H.frs [6,5,5,5,5,5,6] rfl;?_
  cases hm
  exact ⟨_,_,rfl,H.reads Y0⟩
 ·refine wp_skip<|aD<|wp_seq<|sq<|pr 3 E rfl fun a E=>nt<|wp_block<|cA (fun o a w=>∃ Q R S l T p,Env 42 a [(0,k),(1,.func (.func 230) #[] #[pt m 0,pt f 0,pt g 0]),(5,.int .i64 S),(6,.int .i64 l)]∧Sep w (Row 62 aG k R::Blk m 71 [x,y,z,A,B,.int .i64 n,C]::Blk f 139 [.func (.func 279) #[] #[pt c 0]]::Blk g 225 [pt e 0]::Blk c 71 [D,F,.string j,G,I,J,K]::Blk e 228 [k,L,M,N,O,P,Q]::Row 9 kS Q T::Fo) p∧(∀ r,r ∈ rs→r ∈ p)∧dC n j o R S l T=some r) (((b3.length:Int) - (IntKind.i64.wrap (c0.1+1)):Int).toNat+1) ?_ ?_
  ·exact have H:=H.frs [6,5,4,5,5,5,6] rfl;X6 ⟨E.to rfl,H,Y0,hm⟩
  ·clear E H hm
   rintro o a w ⟨Q,R,S,l,T,p,E,H,q,hm⟩
   cases o with
   | zero=>exact (bW hm rfl).elim
   | succ o=>
    unfold dC at hm
    refine wp_seq<|sq<|pr 2 E rfl fun a E=>sv E rfl rfl rfl (lC (i:=0) E H rfl rfl rfl U28) fun a E=>pr 1 E rfl fun a E=>nt<|wif E hm rfl (fun hm=>?_) fun hm=>?_
    ·refine wp_skip<|aD<|aT (fun a w=>∃ U V W X s,Env 42 a [(0,k),(1,.func (.func 230) #[] #[pt m 0,pt f 0,pt g 0]),(5,.int .i64 W),(6,.int .i64 l)]∧Sep w (Row 62 aG k V::Blk m 71 [x,y,z,A,B,.int .i64 n,C]::Blk f 139 [.func (.func 279) #[] #[pt c 0]]::Blk g 225 [pt e 0]::Blk c 71 [D,F,.string j,G,I,J,K]::Blk e 228 [k,L,M,N,O,P,U]::Row 9 kS U X::Fo) s∧(∀ r,r ∈ rs→r ∈ s)∧fE (dC n j o) l V W X=some r) ?_ ?_
     ·refine wp_block<|sq<|pr 2 E rfl fun a E=>bd hm fun b t hm=>?_
      obtain ⟨c2,c3,Y⟩:=H.rowformNE (i:=0) rfl t
      refine sv E rfl rfl rfl (dL (d:=aG) E Y rfl rfl rfl rfl U28 kN t) fun a E=>sv E rfl rfl rfl (iF (i:=0) E H cQ Y rfl rfl rfl t (us:=[.string b.Path,.string b.Data,.int .i64 b.Version,.int .i64 b.Turn,.int .i64 b.Owner]) rfl U62 rfl kN) fun a E=>al E H rfl rfl rfl rfl Vg fun c4 w a H E=>bC (i:=0) E H (wn rfl) rfl rfl rfl rfl rfl rfl kN rfl rfl fun w H=>nx<|pr 1 E rfl fun a E=>sv E rfl rfl rfl (cD (i:=0) (us:=(kJ b)) E H rfl rfl rfl rfl U62 rfl kN) fun a E=>have H:=H.frs [1,1,7,7,6,7,7,7] rfl;bd hm fun c5 b5 hm=>?_
      refine aX E (wn rfl) rfl rfl (bP E rfl rfl rfl (Xm _)) (C5 H b5)<|?_
      rintro _ w ⟨c6,rfl,H⟩ a E
      refine pr 1 E rfl fun a E=>nt<|wif E hm rfl (fun hm=>?_) fun hm=>?_
      ·refine sq<|pr 2 E rfl fun a E=>sv E rfl rfl rfl (cD (i:=6) (us:=(kJ b)) E H rfl rfl rfl rfl U62 rfl kN) fun a E=>bd hm fun c7 u hm=>?_
       obtain ⟨c8,c9,Z⟩:=H.rowformNE (i:=7) rfl u
       refine sv E rfl rfl rfl (dL (d:=aG) E Z rfl rfl rfl rfl U28 kN u) fun a E=>z8 (d:=aG) (i:=7) (us:=[.string b.Path,.string b.Data,.int .i64 b.Version,.int .i64 b.Turn,.int .i64 b.Owner]) (z':=b) E H cQ (wn rfl) rfl Z rfl rfl rfl rfl rfl rfl rfl u kN fun w H=>nt<|wp_region_lit<|pr 3 E rfl fun a E=>wpList_nil<|bY<|aD<|have H:=H.drop 6;?_
       exact have H:=H.frs [5,5,4,5,5,5,6] rfl;X5 ⟨E.to rfl,H,q,hm⟩
      ·exact wp_skip<|bY<|aD<|have H:=H.drop 6;have H:=H.frs [5,5,4,5,5,5,6] rfl;X5 ⟨E.to rfl,H,q,hm⟩
     ·clear E H hm
      rintro a w ⟨U,V,W,X,s,E,H,b6,hm⟩
      unfold fE at hm
      exact wp_region_lit<|pr 3 E rfl fun a E=>nt<|⟨o,Nat.lt_succ_self o,X6 ⟨E.to rfl,H,b6,hm⟩⟩
    ·refine wp_exit<|bH<|bH<|dZ<|aD<|sq<|pr 2 E rfl fun a E=>bk hm fun b0 hm=>sv E rfl rfl rfl (T7 (d:=aG) (i:=0) E H rfl rfl rfl rfl U28 kN b0) fun a E=>?_
     refine E4 (i:=0) (z0:=(⟨⟨#[]⟩,⟨#[]⟩,0,0,0⟩:aF)) E H cQ (wn rfl) rfl rfl rfl U28 HW rfl rfl rfl b0 fun w H=>nx<|pr 2 E rfl fun a E=>bk hm fun b7 hm=>M7 (i:=0) E H cQ (wn rfl) rfl rfl rfl rfl rfl rfl U28 kN b7 fun d0 a H E=>pr 1 E rfl fun a E=>nt<|wp_ret<|bB E rfl rfl<|?_
     refine have H:=H.frs [6,6,5,6,6,6,6] rfl;?_
     cases hm
     exact ⟨_,_,rfl,H.reads q⟩

def rU(f:List aF)(d:List ByteArray)(b:bL):Option ((List aF)×(List ByteArray)):=
  (wD b).bind fun e=>(hP f b.Owner e.2.2.1 d).bind fun c=>some (c.1,c.2)
theorem Cj{l:Nat}{o c d e f g j:Value}{p:List aF}{k:List ByteArray}{b:bL}(H:Sep w (Blk l 228 [o,d,e,f,g,j,c]::Row 62 aG o p::Row 9 kS c k::Fo) rs){r:(List aF)×(List ByteArray)}(hm:rU p k b=some r) :
    Calls Tryz.prog 166 [pt l 0,.agg (cM b).toArray].toArray w (Ret fun v w'=>∃ q s,.tuple #[]=v∧Sep w' (Blk l 228 [q,d,e,f,g,j,s]::Row 62 aG q r.1::Row 9 kS s r.2::Fo) (rs)):=by
 unfold rU at hm
 refine ent Tryz.func166 rfl Tryz.ntmps166 rfl rfl fun a E=>sq<|bS E H (wn rfl) rfl rfl rfl rfl rfl fun t w a H E=>bS E H (wn rfl) rfl rfl rfl rfl rfl fun u w a H E=>nx<|sv E rfl rfl rfl (cD (i:=0) (us:=(cM b)) E H rfl rfl rfl rfl U71 rfl jT) fun a E=>bd hm fun x m hm=>cJ E rfl rfl rfl rfl rfl Pu (An H m)<|?_
 rintro _ w ⟨y,rfl,H⟩ a E
 refine al1 E H rfl rfl rfl rfl HT rfl fun z w a H E=>bC (i:=0) E H (wn rfl) rfl rfl rfl rfl rfl rfl HU rfl rfl fun w H=>nt<|dw [(6,0),(0,0),(1,1),(2,0),(3,0),(4,0),(5,1),(7,1),(8,2),(9,2),(10,2),(11,2)] [3] [] H (by kernel_rfl) (fun _ _ _ h=>False.elim h.2) fun w W0 hI H=>cB E rfl (wn rfl) rfl rfl (fun w hW=>(kH E rfl rfl rfl)) fun a E=>?_
 refine fb E rfl (wn rfl) rfl rfl rfl rfl m0 rfl Pv rfl fun a E=>cE rfl<|lb E H 3 rfl rfl rfl rfl rfl rfl rfl Pv rfl fun a E=>nt<|?_
 refine ⟨⟨_,_,H,(aB mm3 (aL)),(aN)⟩,?_⟩
 refine fn 3 E rfl fun a E=>cE rfl<|lb E H 4 rfl rfl rfl rfl rfl rfl rfl U28 rfl fun a E=>nt<|?_
 refine ⟨⟨_,_,H,(aB mm3 (aL)),(aN)⟩,?_⟩
 refine cE rfl<|have H:=H.frs [6,5,5,4,4,5,6] rfl;bd hm fun A n hm=>cJ E rfl rfl rfl rfl rfl HV (yS H n)<|?_
 rintro _ w ⟨B,C,rfl,H⟩ a E
 refine nt<|?_
 refine ⟨⟨_,_,H,(aB mm4 (aL)),(aN)⟩,?_⟩
 refine bQ rfl<|pr 1 E rfl fun a E=>nt<|bQ rfl<|pr 1 E rfl fun a E=>nt<|bQ rfl<|pr 1 E rfl fun a E=>nt<|?_
 refine bQ rfl<|?_
 obtain ⟨q28,D,rfl⟩:=H.rowform (i:=0) rfl
 refine bC (i:=5) E H (wn rfl) rfl rfl rfl rfl rfl rfl Gz rfl rfl fun w H=>nt<|bR<|?_
 clear hI
 refine rL E rfl<|have H:=H.drs [1,1,1,1];have H:=H.frs [2,1,2] rfl;?_
 cases hm
 exact ⟨_,_,rfl,H.reads Y0⟩

def xZ:Option Unit:=
  some ()
theorem Z1{b:Value}(H:Sep w (Fo) rs){r:Unit}(hm:xZ=some r) :
    Calls Tryz.prog 228 [b].toArray w (Ret fun v w'=>.int .i64 0=v∧Sep w' (Fo) (rs)):=by
 unfold xZ at hm
 refine ent Tryz.func228 rfl Tryz.ntmps228 rfl rfl fun a E=>sq<|pr 1 E rfl fun a E=>nx<|pr 1 E rfl fun a E=>nt<|wp_ret<|bB E rfl rfl<|?_
 cases hm
 exact ⟨rfl,H.reads Y0⟩

def qQ(x1:aI)(b:ByteArray):Option Int:=
  (mA x1.Dir b).bind fun c=>some (c)
theorem F5{x1:aI}{b:ByteArray}(H:Sep w (Fo) rs){r:Int}(hm:qQ x1 b=some r) :
    Calls Tryz.prog 271 [.agg #[.string x1.Dir,.int .i64 x1.Next],.string b].toArray w (Ret fun v w'=>.int .i64 r=v∧Sep w' (Fo) (rs)):=by
 unfold qQ at hm
 refine ent Tryz.func271 rfl Tryz.ntmps271 rfl rfl fun a E=>sq<|bS E H (wn rfl) rfl rfl rfl rfl rfl fun d w a H E=>pr 1 E rfl fun a E=>nx<|pr 1 E rfl fun a E=>lb E H 0 rfl rfl rfl rfl rfl rfl rfl U9 rfl fun a E=>pr 1 E rfl fun a E=>bd hm fun e c hm=>?_
 refine xk E rfl rfl rfl rfl rfl Lg (rS H c) fun w H a E=>pr 1 E rfl fun a E=>nt<|wp_ret<|bB E rfl rfl<|have H:=H.drop 0;?_
 cases hm
 exact ⟨rfl,H.reads Y0⟩

def cL(c:List aI)(e:ByteArray):Nat→Int→Int→Option (Int×Bool)
  | 0,_,_=>none
  | f+1,b,d=>
    if (decide (b < d))=true then ((idx c (IntKind.i64.wrap (rM .u64 (IntKind.u64.wrap (IntKind.i64.wrap (b+d))) 1))).bind fun k=>(qQ k e).bind fun g=>if (decide (g < 0))=true then (cL c e f (IntKind.i64.wrap ((IntKind.i64.wrap (rM .u64 (IntKind.u64.wrap (IntKind.i64.wrap (b+d))) 1))+1)) d) else (cL c e f b (IntKind.i64.wrap (rM .u64 (IntKind.u64.wrap (IntKind.i64.wrap (b+d))) 1)))) else (if (decide (b < (c.length:Int)))=true then ((idx c b).bind fun i=>(qQ i e).bind fun j=>some (b,j == 0)) else (some (b,false)))
def cO(b:List aI)(c:ByteArray):Option (Int×Bool):=
  cL b c (((b.length:Int) - 0:Int).toNat+1) 0 (b.length:Int)
theorem gO{j:Value}{e:List aI}{o:ByteArray}(H:Sep w (Row 85 aK j e::Fo) rs){r:Int×Bool}(hm:cO e o=some r) :
    Calls Tryz.prog 270 [j,.string o,.func (.func 271) #[] #[]].toArray w (Ret fun v w'=>.tuple #[.int .i64 r.1,.bool r.2]=v∧Sep w' (Row 85 aK j e::Fo) (rs)):=by
 unfold cO at hm
 refine ent Tryz.func270 rfl Tryz.ntmps270 rfl rfl fun a E=>sq<|pr 2 E rfl fun a E=>nx<|pr 1 E rfl fun a E=>sv E rfl rfl rfl (lC (i:=0) E H rfl rfl rfl U29) fun a E=>pr 1 E rfl fun a E=>nx<|pr 3 E rfl fun a E=>?_
 refine nt<|wp_seq<|wp_block<|cA (fun c a w=>∃ q s k,Env 49 a [(0,j),(1,.string o),(2,.func (.func 271) #[] #[]),(8,.int .i64 (e.length:Int)),(9,.int .i64 q),(10,.int .i64 s)]∧Sep w (Row 85 aK j e::Fo) k∧(∀ r,r ∈ rs→r ∈ k)∧cL e o c q s=some r) (((e.length:Int) - 0:Int).toNat+1) ?_ ?_
 ·exact X3 ⟨E.to rfl,H,Y0,hm⟩
 ·clear E H hm
  rintro c a w ⟨q,s,k,E,H,g,hm⟩
  cases c with
  | zero=>exact (bW hm rfl).elim
  | succ c=>
   unfold cL at hm
   refine wp_seq<|sq<|pr 3 E rfl fun a E=>nt<|wif E hm rfl (fun hm=>?_) fun hm=>?_
   ·refine wp_skip<|aD<|wp_block<|sq<|pr 4 E rfl fun a E=>sv E rfl rfl rfl (T5 E rfl rfl rfl (by decide)) fun a E=>pr 2 E rfl fun a E=>nx<|pr 3 E rfl fun a E=>?_
    refine bd hm fun x l hm=>?_
    obtain ⟨y,z,m⟩:=H.rowformNE (i:=0) rfl l
    refine sv E rfl rfl rfl (dL (d:=aK) E m rfl rfl rfl rfl U29 rN l) fun a E=>sv E rfl rfl rfl (iF (i:=0) E H eD m rfl rfl rfl l (us:=[.string x.Dir,.int .i64 x.Next]) rfl U85 rfl rN) fun a E=>pr 1 E rfl fun a E=>bd hm fun A t hm=>aX E (wn rfl) rfl rfl (bP E rfl rfl rfl (Xo _)) (F5 H t)<|?_
    rintro _ w ⟨rfl,H⟩ a E
    refine pr 1 E rfl fun a E=>nt<|wif E hm rfl (fun hm=>?_) fun hm=>?_
    ·exact wp_region_lit<|pr 3 E rfl fun a E=>wpList_nil<|bY<|aD<|⟨c,Nat.lt_succ_self c,X3 ⟨E.to rfl,H,g,hm⟩⟩
    ·exact wp_region_lit<|pr 2 E rfl fun a E=>wpList_nil<|bY<|aD<|⟨c,Nat.lt_succ_self c,X3 ⟨E.to rfl,H,g,hm⟩⟩
   ·refine wp_exit<|bH<|bH<|dZ<|aD<|sq<|pr 5 E rfl fun a E=>cs hm (fun b hm=>?_) fun b hm=>?_
    ·refine pk 3 E (kc 39 rfl b) rfl fun a E=>bd hm fun p f hm=>?_
     obtain ⟨B,C,n⟩:=H.rowformNE (i:=0) rfl f
     refine aQ E (ws' (d:=39) E rfl rfl rfl rfl b) rfl rfl (dL (d:=aK) E n rfl rfl rfl rfl U29 rN f) fun a E=>aQ E (ws' (d:=39) E rfl rfl rfl rfl b) rfl rfl (iF (i:=0) E H eD n rfl rfl rfl f (us:=[.string p.Dir,.int .i64 p.Next]) rfl U85 rfl rN) fun a E=>pk 1 E (kc 39 rfl b) rfl fun a E=>bd hm fun D u hm=>aX E (ws' (d:=39) E rfl rfl rfl rfl b) rfl rfl (bP E rfl rfl rfl (Xo _)) (F5 H u)<|?_
     rintro _ w ⟨rfl,H⟩ a E
     refine pk 4 E (kc 39 rfl b) rfl fun a E=>nt<|wp_ret<|iE E rfl rfl rfl<|?_
     cases hm
     exact ⟨rfl,H.reads g⟩
    ·refine pk 11 E (kc 39 rfl b) rfl fun a E=>nt<|wp_ret<|iE E rfl rfl rfl<|?_
     cases hm
     exact ⟨rfl,H.reads g⟩

def pU(b:aI)(c:(List aI)):Option (Int×(List aI)):=
  some (b.Next,c)
def mN(b:Int×Bool)(c:(List aI)):Option (Int×(List aI)):=
  (idx c b.1).bind fun e=>xZ.bind fun g=>(idx c b.1).bind fun d=>(idx (c.set b.1.toNat ({ d with Next:=0 }:aI)) b.1).bind fun f=>if (f.Next == 0)=true then ((ck (0 ≤ b.1∧b.1 < (c.set b.1.toNat ({ d with Next:=0 }:aI)).length∧IntKind.i64.wrap (b.1+1)=b.1+1)).bind fun i=>pU e ((c.set b.1.toNat ({ d with Next:=0 }:aI)).eraseIdx b.1.toNat)) else (pU e (c.set b.1.toNat ({ d with Next:=0 }:aI)))
def tA(c:List aI)(d:ByteArray):Option (Int×(List aI)):=
  (cO c d).bind fun b=>if (!b.2)=true then ((ck (0 ≤ b.1∧b.1 ≤ c.length∧c.length ≤ 1000000)).bind fun e=>mN b (c.take b.1.toNat ++ (⟨d,0⟩:aI)::c.drop b.1.toNat)) else (mN b c)
theorem Ek{t:Nat}{O m n o p q s:Value}{P:List aI}{b:ByteArray}(H:Sep w (Blk t 228 [m,O,n,o,p,q,s]::Row 85 aK O P::Fo) rs){r:Int×(List aI)}(hm:tA P b=some r) :
    Calls Tryz.prog 219 [pt t 0,.string b,.func (.func 228) #[] #[]].toArray w (Ret fun v w'=>∃ Q,.int .i64 r.1=v∧Sep w' (Blk t 228 [m,Q,n,o,p,q,s]::Row 85 aK Q r.2::Fo) (rs)):=by
 unfold tA at hm
 refine ent Tryz.func219 rfl Tryz.ntmps219 rfl rfl fun a E=>sq<|pr 1 E rfl fun a E=>nx<|pr 4 E rfl fun a E=>lb E H 0 rfl rfl rfl rfl rfl rfl rfl U29 rfl fun a E=>pr 1 E rfl fun a E=>have H:=H.frs [0,1] rfl;bd hm fun G J hm=>?_
 refine xk E rfl rfl rfl rfl rfl Qa (gO H J) fun w H a E=>pr 5 E rfl fun a E=>nt<|aT (fun a w=>∃ u y c,Env 80 a [(0,pt t 0),(2,.func (.func 228) #[] #[]),(7,.int .i64 G.1)]∧Sep w (Blk t 228 [m,u,n,o,p,q,s]::Row 85 aK u y::Fo) c∧(∀ r,r ∈ rs→r ∈ c)∧mN G y=some r) ?_ ?_
 ·refine sq<|pr 2 E rfl fun a E=>nt<|wif E hm rfl (fun hm=>?_) fun hm=>?_
  ·refine wp_region_lit<|pr 5 E rfl fun a E=>lb E H 1 rfl rfl rfl rfl rfl rfl rfl U29 rfl fun a E=>pr 2 E rfl fun a E=>sv E rfl rfl rfl (cN E rfl (E.evs rfl) (v:=.agg #[.string b,.int .i64 0]) (by kernel_rfl)) fun a E=>hG (e:=85) (d:=aK) (cs:=[.string b,.int .i64 0]) (xs:=[(⟨b,0⟩:aI)]) E H (wn rfl) rfl rfl rfl (E.evs rfl) (by kernel_rfl) rfl rfl (fun ok hr=>(Rows.single (d:=aK) (cs:=[.string b,.int .i64 0]) (x:=(⟨b,0⟩:aI)) tV)) fun S w a H E=>bk hm fun K hm=>aX E (wn rfl) rfl rfl (cG E rfl rfl (Qb _)) (Tn.insert_a (ix:=1) (iu:=0) H rfl rfl (by decide) K) fun T w H a E=>pr 3 E rfl fun a E=>?_
   obtain ⟨q55,U,rfl⟩:=H.rowform (i:=1) rfl
   exact bC (i:=2) E H (wn rfl) rfl rfl rfl rfl rfl rfl U1 rfl rfl fun w H=>nt<|have H:=H.drop 0;have H:=H.frs [0,1] rfl;X3 ⟨E.to rfl,H,Y0,hm⟩
  ·exact wp_skip<|aD<|have H:=H.frs [0,1] rfl;X3 ⟨E.to rfl,H,Y0,hm⟩
 ·clear E H hm
  rintro a w ⟨u,y,c,E,H,z,hm⟩
  unfold mN at hm
  refine sq<|pr 4 E rfl fun a E=>lb E H 0 rfl rfl rfl rfl rfl rfl rfl U29 rfl fun a E=>pr 1 E rfl fun a E=>bd hm fun I f hm=>?_
  obtain ⟨V,W,A⟩:=H.rowformNE (i:=1) rfl f
  refine sv E rfl rfl rfl (dL (d:=aK) E A rfl rfl rfl rfl U29 rN f) fun a E=>pr 1 E rfl fun a E=>sv E rfl rfl rfl (pW (d:=aK) (i:=1) (k:=1) E H eD A rfl rfl rfl f rfl U2 rfl) fun a E=>pr 1 E rfl fun a E=>nt<|aT (fun a w=>∃ B C g,Env 80 a [(9,.int .i64 I.Next)]∧Sep w (Blk t 228 [m,B,n,o,p,q,s]::Row 85 aK B C::Fo) g∧(∀ r,r ∈ rs→r ∈ g)∧pU I C=some r) ?_ ?_
  ·refine wp_seq<|dw [(0,0),(1,0),(2,0),(3,0),(4,0),(5,0),(6,0),(7,0),(8,1),(9,2),(10,2),(11,2)] [0] [] H (by kernel_rfl) (fun _ _ _ h=>False.elim h.2) fun w W0 hI H=>fn 4 E rfl fun a E=>fb E rfl (wn rfl) rfl rfl rfl rfl m0 rfl U29 rfl fun a E=>fn 3 E rfl fun a E=>cE rfl<|bd hm fun X L hm=>aX E (wn rfl) rfl rfl (bP E rfl rfl rfl (IF _)) (Z1 H L)<|?_
   rintro _ w ⟨rfl,H⟩ a E
   refine nt<|?_
   refine ⟨⟨_,_,H,(aB m0 (aL)),(aN)⟩,?_⟩
   refine bQ rfl<|bd hm fun R j hm=>?_
   obtain ⟨Y,Z,D⟩:=H.rowformNE (i:=1) rfl j
   refine sv E rfl rfl rfl (dL (d:=aK) E D rfl rfl rfl rfl U29 rN j) fun a E=>nt<|bQ rfl<|pr 1 E rfl fun a E=>nt<|bQ rfl<|F1 (d:=aK) (i:=1) (k:=1) (z':=({ R with Next:=0 }:aI)) E H eD (wn rfl) rfl D rfl rfl rfl rfl rfl rfl j rfl rfl sz2 fun w H=>nt<|bR<|?_
   clear hI
   refine aD<|sq<|pr 4 E rfl fun a E=>lb E H 0 rfl rfl rfl rfl rfl rfl rfl U29 rfl fun a E=>pr 1 E rfl fun a E=>bd hm fun b0 l hm=>?_
   obtain ⟨b1,b2,F⟩:=H.rowformNE (i:=1) rfl l
   refine sv E rfl rfl rfl (dL (d:=aK) E F rfl rfl rfl rfl U29 rN l) fun a E=>pr 1 E rfl fun a E=>sv E rfl rfl rfl (pW (d:=aK) (i:=1) (k:=1) E H eD F rfl rfl rfl l rfl U2 rfl) fun a E=>pr 1 E rfl fun a E=>nt<|wif E hm rfl (fun hm=>?_) fun hm=>?_
   ·refine wp_region_lit<|pr 5 E rfl fun a E=>lb E H 0 rfl rfl rfl rfl rfl rfl rfl U29 rfl fun a E=>pr 3 E rfl fun a E=>bk hm fun M hm=>aX E (wn rfl) rfl rfl (cG E rfl rfl (Qc _)) (Tn.delete_c (ix:=1) H rfl M) fun b3 w H a E=>pr 3 E rfl fun a E=>?_
    obtain ⟨q49,b4,rfl⟩:=H.rowform (i:=1) rfl
    exact bC (i:=0) E H (wn rfl) rfl rfl rfl rfl rfl rfl U1 rfl rfl fun w H=>nt<|X3 ⟨E.to rfl,H,z,hm⟩
   ·exact wp_skip<|aD<|X3 ⟨E.to rfl,H,z,hm⟩
  ·clear E H hm
   rintro a w ⟨B,C,g,E,H,N,hm⟩
   unfold pU at hm
   refine sq<|pr 2 E rfl fun a E=>nt<|wp_ret<|bB E rfl rfl<|?_
   cases hm
   exact ⟨_,rfl,H.reads N⟩

def dO(c:List aF)(d:ByteArray):Nat→Int→Option Int
  | 0,_=>none
  | f+1,b=>
    if (decide (b < (c.length:Int)))=true then ((idx c b).bind fun x20=>(uU x20 d).bind fun e=>if e=true then (some (b)) else (dO c d f (IntKind.i64.wrap (b+1)))) else (some ((-1)))
def hC(b:List aF)(c:ByteArray):Option Int:=
  dO b c (((b.length:Int) - 0:Int).toNat+1) 0
theorem yA{j k l m n o p:Value}{b:List aF}{q:Nat}{s:ByteArray}(H:Sep w (Row 62 aG j b::Blk q 71 [k,l,.string s,m,n,o,p]::Fo) rs){r:Int}(hm:hC b s=some r) :
    Calls Tryz.prog 144 [j,.func (.func 279) #[] #[pt q 0]].toArray w (Ret fun v w'=>.int .i64 r=v∧Sep w' (Blk q 71 [k,l,.string s,m,n,o,p]::Row 62 aG j b::Fo) (rs)):=by
 unfold hC at hm
 refine ent Tryz.func144 rfl Tryz.ntmps144 rfl rfl fun a E=>sq<|pr 1 E rfl fun a E=>nt<|wp_seq<|sq<|pr 1 E rfl fun a E=>sv E rfl rfl rfl (lC (i:=0) E H rfl rfl rfl U28) fun a E=>pr 1 E rfl fun a E=>?_
 refine nt<|wp_block<|cA (fun g a w=>∃ t c,Env 19 a [(0,j),(1,.func (.func 279) #[] #[pt q 0]),(7,.int .i64 (b.length:Int)),(8,.int .i64 t)]∧Sep w (Row 62 aG j b::Blk q 71 [k,l,.string s,m,n,o,p]::Fo) c∧(∀ r,r ∈ rs→r ∈ c)∧dO b s g t=some r) (((b.length:Int) - 0:Int).toNat+1) ?_ ?_
 ·exact ⟨_,_,E.to rfl,H,Y0,hm⟩
 ·clear E H hm
  rintro g a w ⟨t,c,E,H,e,hm⟩
  cases g with
  | zero=>exact (bW hm rfl).elim
  | succ g=>
   unfold dO at hm
   refine sq<|pr 1 E rfl fun a E=>nt<|wp_seq<|wif E hm rfl (fun hm=>?_) fun hm=>?_
   ·refine wp_skip<|aD<|wp_seq<|wp_block<|sq<|pr 2 E rfl fun a E=>nx<|pr 3 E rfl fun a E=>bd hm fun x20 f hm=>?_
    obtain ⟨y,z,u⟩:=H.rowformNE (i:=0) rfl f
    refine sv E rfl rfl rfl (dL (d:=aG) E u rfl rfl rfl rfl U28 kN f) fun a E=>sv E rfl rfl rfl (iF (i:=0) E H cQ u rfl rfl rfl f (us:=[.string x20.Path,.string x20.Data,.int .i64 x20.Version,.int .i64 x20.Turn,.int .i64 x20.Owner]) rfl U62 rfl kN) fun a E=>have H:=H.frs [0,1] rfl;bd hm fun A x hm=>aX E (wn rfl) rfl rfl (bP E rfl rfl rfl (Pw _)) (P7 H x)<|?_
    rintro _ w ⟨rfl,H⟩ a E
    refine nt<|wif E hm rfl (fun hm=>?_) fun hm=>?_
    ·refine sq<|pr 2 E rfl fun a E=>nt<|wp_ret<|bU<|aP<|aP<|bU<|aP<|?_
     refine bB E rfl rfl<|?_
     cases hm
     exact ⟨rfl,H.reads e⟩
    ·exact wp_skip<|bY<|aD<|wp_region_lit<|pr 2 E rfl fun a E=>nt<|have H:=H.frs [0,1] rfl;⟨g,Nat.lt_succ_self g,_,_,E.to rfl,H,e,hm⟩
   ·refine wp_exit<|bH<|bH<|dZ<|aD<|sq<|pr 1 E rfl fun a E=>nt<|wp_ret<|?_
    refine bB E rfl rfl<|have H:=H.frs [0,1] rfl;?_
    cases hm
    exact ⟨rfl,H.reads e⟩

def fC(c:List aF)(d:ByteArray):Option Bool:=
  (hC c d).bind fun b=>some (decide (b ≥ 0))
theorem vZ{i b c d e f g:Value}{j:List aF}{k:Nat}{l:ByteArray}(H:Sep w (Row 62 aG i j::Blk k 71 [b,c,.string l,d,e,f,g]::Fo) rs){r:Bool}(hm:fC j l=some r) :
    Calls Tryz.prog 73 [i,.func (.func 279) #[] #[pt k 0]].toArray w (Ret fun v w'=>.bool r=v∧Sep w' (Blk k 71 [b,c,.string l,d,e,f,g]::Row 62 aG i j::Fo) (rs)):=by
 unfold fC at hm
 refine ent Tryz.func73 rfl Tryz.ntmps73 rfl rfl fun a E=>sq<|pr 1 E rfl fun a E=>nx<|pr 2 E rfl fun a E=>bd hm fun n m hm=>xk E rfl rfl rfl rfl rfl Pg (yA H m) fun w H a E=>pr 2 E rfl fun a E=>nt<|?_
 refine wp_ret<|bB E rfl rfl<|?_
 cases hm
 exact ⟨rfl,H.reads Y0⟩

def vA(j:List aF)(c:List aI)(k:Int)(l:ByteArray)(m:ByteArray)(n:Int)(d:List ByteArray)(b:bL):Option ((List aI)×Int×ByteArray×ByteArray×Int×(List ByteArray)):=
  (wD b).bind fun e=>(fC j e.2.2.1).bind fun f=>if f=true then ((gC 64).bind fun g=>some (c,g,(ByteArray.mk #[]),(ByteArray.mk #[]),0,[])) else ((tA c b.Path).bind fun i=>some (i.2,k,l,m,n,d))
theorem Ck{f:Nat}{c m d:Value}{g:List aF}{n:List aI}{o p:Int}{q s:ByteArray}{e:List ByteArray}{b:bL}(H:Sep w (Blk f 228 [c,m,.int .i64 o,.string q,.string s,.int .i64 p,d]::Row 62 aG c g::Row 85 aK m n::Row 9 kS d e::Fo) rs){r:(List aI)×Int×ByteArray×ByteArray×Int×(List ByteArray)}(hm:vA g n o q s p e b=some r) :
    Calls Tryz.prog 160 [pt f 0,.agg (cM b).toArray].toArray w (Ret fun v w'=>∃ t u,.tuple #[]=v∧Sep w' (Blk f 228 [c,t,.int .i64 r.2.1,.string r.2.2.1,.string r.2.2.2.1,.int .i64 r.2.2.2.2.1,u]::Row 62 aG c g::Row 85 aK t r.1::Row 9 kS u r.2.2.2.2.2::Fo) (rs)):=by
 unfold vA at hm
 refine ent Tryz.func160 rfl Tryz.ntmps160 rfl rfl fun a E=>sq<|bS E H (wn rfl) rfl rfl rfl rfl rfl fun x w a H E=>nt<|wp_seq<|wp_seq<|dw [(0,0),(1,0),(2,0),(3,0),(4,0),(5,0),(6,1),(7,1)] [0,1] [] H (by kernel_rfl) (fun _ _ _ h=>False.elim h.2) fun w W0 hI H=>fn 4 E rfl fun a E=>fb E rfl (wn rfl) rfl rfl rfl rfl mm1 rfl U28 rfl fun a E=>?_
 refine fbn E (cM b) rfl (wn rfl) rfl rfl rfl rfl m0 rfl U71 rfl jT fun a E=>cE rfl<|bd hm fun y i hm=>cJ E rfl rfl rfl rfl rfl Pu (An H i)<|?_
 rintro _ w ⟨z,rfl,H⟩ a E
 refine nt<|?_
 refine ⟨⟨_,_,H,(aB mm1 (aB mm2 (aL))),(aN)⟩,?_⟩
 refine cE rfl<|have H:=H.frs [5,5,4,4,4,5] rfl;bd hm fun A j hm=>xk E rfl rfl rfl rfl rfl BF (vZ H j) fun w H a E=>nt<|?_
 refine ⟨⟨_,_,H,(aB mm2 (aB mm3 (aL))),(aN)⟩,?_⟩
 refine bR<|?_
 clear hI
 refine aD<|wif E hm rfl (fun hm=>?_) fun hm=>?_
 ·refine sq<|pr 1 E rfl fun a E=>have H:=H.frs [5,5,4,4,4,5] rfl;bd hm fun B k hm=>xk E rfl rfl rfl rfl rfl T9 (nK H k) fun w H a E=>nt<|wp_ret<|aP<|Ez E rfl<|?_
  refine have H:=H.nilRow 9 kS;have H:=H.drs [2,3,4];have H:=H.frs [0,3,3,3] rfl;?_
  cases hm
  exact ⟨_,_,rfl,H.reads Y0⟩
 ·refine wp_skip<|aD<|wp_region_lit<|pr 2 E rfl fun a E=>lb E H 2 rfl rfl rfl rfl rfl rfl rfl U9 rfl fun a E=>have H:=H.frs [5,3,3,3,5,5] rfl;bd hm fun C l hm=>cJ E rfl rfl rfl rfl rfl Pz (Ek H l)<|?_
  rintro _ w ⟨D,rfl,H⟩ a E
  refine wpList_nil<|rL E rfl<|have H:=H.drs [2,3];have H:=H.frs [3,2,3,3] rfl;?_
  cases hm
  exact ⟨_,_,rfl,H.reads Y0⟩

def oJ(b:Int×Int×ByteArray×ByteArray×Int×(List ByteArray))(c:Bool):Option (Int×ByteArray×ByteArray×Int×(List ByteArray)):=
  if c=true then ((gC 65).bind fun d=>some (d,(ByteArray.mk #[]),(ByteArray.mk #[]),0,[])) else (some (b.2.1,b.2.2.1,b.2.2.2.1,b.2.2.2.2.1,b.2.2.2.2.2))
def rV(c:List aF)(g:Int)(i:ByteArray)(j:ByteArray)(k:Int)(d:List ByteArray)(e:bL):Option (Int×ByteArray×ByteArray×Int×(List ByteArray)):=
  (gY c g i j k d e).bind fun b=>if (decide (0 ≤ b.1))=true then ((idx c b.1).bind fun f=>oJ b (f.Owner != 0)) else (oJ b false)
theorem Cm{j:Nat}{g s l:Value}{q:List aF}{z A:Int}{B C:ByteArray}{t:List ByteArray}{m:bL}(H:Sep w (Blk j 228 [g,l,.int .i64 z,.string B,.string C,.int .i64 A,s]::Row 62 aG g q::Row 9 kS s t::Fo) rs){r:Int×ByteArray×ByteArray×Int×(List ByteArray)}(hm:rV q z B C A t m=some r) :
    Calls Tryz.prog 157 [pt j 0,.agg (cM m).toArray].toArray w (Ret fun v w'=>∃ D,.tuple #[]=v∧Sep w' (Blk j 228 [g,l,.int .i64 r.1,.string r.2.1,.string r.2.2.1,.int .i64 r.2.2.2.1,D]::Row 62 aG g q::Row 9 kS D r.2.2.2.2::Fo) (rs)):=by
 unfold rV at hm
 refine ent Tryz.func157 rfl Tryz.ntmps157 rfl rfl fun a E=>sq<|bS E H (wn rfl) rfl rfl rfl rfl rfl fun F w a H E=>nx<|pr 1 E rfl fun a E=>sv E rfl rfl rfl (cD (i:=0) (us:=(cM m)) E H rfl rfl rfl rfl U71 rfl jT) fun a E=>have H:=H.frs [0,3,3,3] rfl;bd hm fun c x hm=>cJ E rfl rfl rfl rfl rfl Bs (pY H x)<|?_
 rintro _ w ⟨u,rfl,H⟩ a E
 refine pr 1 E rfl fun a E=>nt<|aT (fun a w=>∃ n e,Env 19 a [(0,pt j 0),(16,.bool n)]∧Sep w (Blk j 228 [g,l,.int .i64 c.2.1,.string c.2.2.1,.string c.2.2.2.1,.int .i64 c.2.2.2.2.1,u]::Row 62 aG g q::Row 9 kS u c.2.2.2.2.2::Fo) e∧(∀ r,r ∈ rs→r ∈ e)∧oJ c n=some r) ?_ ?_
 ·refine wp_region_lit<|pr 1 E rfl fun a E=>sv E rfl rfl rfl (Fg E Fx Fy rfl rfl rfl) fun a E=>pr 1 E rfl fun a E=>cs hm (fun b hm=>?_) fun b hm=>?_
  ·refine pk 1 E (kc 10 rfl b) rfl fun a E=>bd hm fun G f hm=>?_
   obtain ⟨I,J,o⟩:=H.rowformNE (i:=1) rfl f
   rw [Ad 5 o f] at E
   exact pk 2 E (kc 10 rfl b) rfl fun a E=>aQ E (ws' (d:=10) E rfl rfl rfl rfl b) rfl rfl (pW (d:=aG) (i:=1) (k:=4) E H cQ o rfl rfl rfl f rfl U2 rfl) fun a E=>pk 2 E (kc 10 rfl b) rfl fun a E=>nt<|have H:=H.drop 3;⟨_,_,E.to rfl,H,Y0,hm⟩
  ·exact pk 6 E (kc 10 rfl b) rfl fun a E=>nt<|have H:=H.drop 3;⟨_,_,E.to rfl,H,Y0,hm⟩
 ·clear E H hm
  rintro a w ⟨n,e,E,H,p,hm⟩
  unfold oJ at hm
  refine wif E hm rfl (fun hm=>?_) fun hm=>?_
  ·refine wp_region_lit<|pr 1 E rfl fun a E=>bd hm fun K y hm=>xk E rfl rfl rfl rfl rfl T9 (nK H y) fun w H a E=>wpList_nil<|rL E rfl<|have H:=H.nilRow 9 kS;have H:=H.drop 3;have H:=H.frs [0,2,2] rfl;?_
   cases hm
   exact ⟨_,rfl,H.reads p⟩
  ·refine wp_skip<|rL E rfl<|?_
   cases hm
   exact ⟨_,rfl,H.reads p⟩

def uE(e:List aF)(f:Int)(g:ByteArray)(i:ByteArray)(j:Int)(c:List ByteArray)(d:bL):Option (Int×ByteArray×ByteArray×Int×(List ByteArray)):=
  (gY e f g i j c d).bind fun b=>some (b.2.1,b.2.2.1,b.2.2.2.1,b.2.2.2.2.1,b.2.2.2.2.2)
theorem Gg{g:Nat}{c d e:Value}{j:List aF}{l m:Int}{n o:ByteArray}{f:List ByteArray}{b:bL}(H:Sep w (Blk g 228 [c,e,.int .i64 l,.string n,.string o,.int .i64 m,d]::Row 62 aG c j::Row 9 kS d f::Fo) rs){r:Int×ByteArray×ByteArray×Int×(List ByteArray)}(hm:uE j l n o m f b=some r) :
    Calls Tryz.prog 164 [pt g 0,.agg (cM b).toArray].toArray w (Ret fun v w'=>∃ p,.tuple #[]=v∧Sep w' (Blk g 228 [c,e,.int .i64 r.1,.string r.2.1,.string r.2.2.1,.int .i64 r.2.2.2.1,p]::Row 62 aG c j::Row 9 kS p r.2.2.2.2::Fo) (rs)):=by
 unfold uE at hm
 refine ent Tryz.func164 rfl Tryz.ntmps164 rfl rfl fun a E=>sq<|bS E H (wn rfl) rfl rfl rfl rfl rfl fun q w a H E=>nt<|wp_region_lit<|pr 1 E rfl fun a E=>sv E rfl rfl rfl (cD (i:=0) (us:=(cM b)) E H rfl rfl rfl rfl U71 rfl jT) fun a E=>have H:=H.frs [0,3,3,3] rfl;bd hm fun s k hm=>?_
 refine cJ E rfl rfl rfl rfl rfl Bs (pY H k)<|?_
 rintro _ w ⟨t,rfl,H⟩ a E
 refine wpList_nil<|rL E rfl<|have H:=H.drop 3;?_
 cases hm
 exact ⟨_,rfl,H.reads Y0⟩

def tB(c:List aF)(g:Int)(i:ByteArray)(j:ByteArray)(k:Int)(d:List ByteArray)(e:bL):Option (Int×ByteArray×ByteArray×Int×(List ByteArray)):=
  (gY c g i j k d e).bind fun b=>if (decide (0 ≤ b.1))=true then ((idx c b.1).bind fun f=>some (b.2.1,b.2.2.1,b.2.2.2.1,f.Version,b.2.2.2.2.2)) else (some (b.2.1,b.2.2.1,b.2.2.2.1,b.2.2.2.2.1,b.2.2.2.2.2))
theorem Em{m:Nat}{f g j:Value}{n:List aF}{p q:Int}{s t:ByteArray}{l:List ByteArray}{c:bL}(H:Sep w (Blk m 228 [f,j,.int .i64 p,.string s,.string t,.int .i64 q,g]::Row 62 aG f n::Row 9 kS g l::Fo) rs){r:Int×ByteArray×ByteArray×Int×(List ByteArray)}(hm:tB n p s t q l c=some r) :
    Calls Tryz.prog 162 [pt m 0,.agg (cM c).toArray].toArray w (Ret fun v w'=>∃ u,.tuple #[]=v∧Sep w' (Blk m 228 [f,j,.int .i64 r.1,.string r.2.1,.string r.2.2.1,.int .i64 r.2.2.2.1,u]::Row 62 aG f n::Row 9 kS u r.2.2.2.2::Fo) (rs)):=by
 unfold tB at hm
 refine ent Tryz.func162 rfl Tryz.ntmps162 rfl rfl fun a E=>sq<|bS E H (wn rfl) rfl rfl rfl rfl rfl fun x w a H E=>nx<|pr 1 E rfl fun a E=>sv E rfl rfl rfl (cD (i:=0) (us:=(cM c)) E H rfl rfl rfl rfl U71 rfl jT) fun a E=>have H:=H.frs [0,3,3,3] rfl;bd hm fun y o hm=>cJ E rfl rfl rfl rfl rfl Bs (pY H o)<|?_
 rintro _ w ⟨z,rfl,H⟩ a E
 refine pr 1 E rfl fun a E=>nx<|pr 1 E rfl fun a E=>sv E rfl rfl rfl (Fg E Fx Fy rfl rfl rfl) fun a E=>nt<|wif E hm rfl (fun hm=>?_) fun hm=>?_
 ·refine wp_region_lit<|pr 2 E rfl fun a E=>bd hm fun A b hm=>?_
  obtain ⟨B,C,e⟩:=H.rowformNE (i:=1) rfl b
  rw [Ad 5 e b] at E
  refine pr 2 E rfl fun a E=>sv E rfl rfl rfl (pW (d:=aG) (i:=1) (k:=2) E H cQ e rfl rfl rfl b rfl U2 rfl) fun a E=>pr 3 E rfl fun a E=>bC (i:=0) E H (wn rfl) rfl rfl rfl rfl rfl rfl sz2 rfl rfl fun w H=>wpList_nil<|rL E rfl<|have H:=H.drop 3;?_
  cases hm
  exact ⟨_,rfl,H.reads Y0⟩
 ·refine wp_skip<|rL E rfl<|have H:=H.drop 3;?_
  cases hm
  exact ⟨_,rfl,H.reads Y0⟩

def oK(rec_1:Int→(List ByteArray)→Option (List ByteArray))(b:Int)(c:(List ByteArray)):Option (List ByteArray):=
  rec_1 (IntKind.i64.wrap (b+1)) c
def iM(e:List aF)(d:Int×ByteArray×ByteArray×ByteArray×Int×Int×Bool):Nat→Int→(List ByteArray)→Option (List ByteArray)
  | 0,_,_=>none
  | i+1,b,c=>
    if (decide (b < (e.length:Int)))=true then ((idx e b).bind fun f=>(uU f d.2.2.1).bind fun j=>if j=true then ((uV f.Path).bind fun g=>(ck (c.length+([g]:List ByteArray).length ≤ LIM)).bind fun k=>oK (iM e d i) b (c ++ ([g]:List ByteArray))) else (oK (iM e d i) b c)) else (some (c))
def rW(b:List aF)(c:List ByteArray)(d:bL):Option (List ByteArray):=
  (wD d).bind fun e=>iM b e (((b.length:Int) - 0:Int).toNat+1) 0 c
theorem Cn{k:Nat}{c J q s t u y:Value}{f:List aF}{K:List ByteArray}{B:bL}(H:Sep w (Blk k 228 [c,q,s,t,u,y,J]::Row 62 aG c f::Row 9 kS J K::Fo) rs){r:(List ByteArray)}(hm:rW f K B=some r) :
    Calls Tryz.prog 165 [pt k 0,.agg (cM B).toArray].toArray w (Ret fun v w'=>∃ Q,.tuple #[]=v∧Sep w' (Blk k 228 [c,q,s,t,u,y,Q]::Row 62 aG c f::Row 9 kS Q r::Fo) (rs)):=by
 unfold rW at hm
 refine ent Tryz.func165 rfl Tryz.ntmps165 rfl rfl fun a E=>sq<|bS E H (wn rfl) rfl rfl rfl rfl rfl fun R w a H E=>nx<|sv E rfl rfl rfl (cD (i:=0) (us:=(cM B)) E H rfl rfl rfl rfl U71 rfl jT) fun a E=>bd hm fun b L hm=>cJ E rfl rfl rfl rfl rfl Pu (An H L)<|?_
 rintro _ w ⟨z,rfl,H⟩ a E
 refine pr 1 E rfl fun a E=>nx<|pr 4 E rfl fun a E=>lb E H 2 rfl rfl rfl rfl rfl rfl rfl U28 rfl fun a E=>sv E rfl rfl rfl (lC (i:=3) E H rfl rfl rfl U28) fun a E=>pr 1 E rfl fun a E=>nt<|wp_block<|cA (fun l a w=>∃ C j D m,Env 37 a [(0,pt k 0),(4,.func (.func 279) #[] #[pt z 0]),(13,c),(14,.int .i64 (f.length:Int)),(15,.int .i64 j)]∧Sep w (Blk k 228 [c,q,s,t,u,y,C]::Blk z 71 [.int .i64 b.1,.string b.2.1,.string b.2.2.1,.string b.2.2.2.1,.int .i64 b.2.2.2.2.1,.int .i64 b.2.2.2.2.2.1,.bool b.2.2.2.2.2.2]::Row 62 aG c f::Row 9 kS C D::Fo) m∧(∀ r,r ∈ rs→r ∈ m)∧iM f b l j D=some r) (((f.length:Int) - 0:Int).toNat+1) ?_ ?_
 ·exact have H:=H.drop 1;have H:=H.frs [3,3,2,3] rfl;X4 ⟨E.to rfl,H,Y0,hm⟩
 ·clear E H hm
  rintro l a w ⟨C,j,D,m,E,H,n,hm⟩
  cases l with
  | zero=>exact (bW hm rfl).elim
  | succ l=>
   unfold iM at hm
   refine sq<|pr 1 E rfl fun a E=>nt<|wp_seq<|wif E hm rfl (fun hm=>?_) fun hm=>?_
   ·refine wp_skip<|aD<|aT (fun a w=>∃ F G o,Env 37 a [(0,pt k 0),(4,.func (.func 279) #[] #[pt z 0]),(13,c),(14,.int .i64 (f.length:Int)),(15,.int .i64 j)]∧Sep w (Blk k 228 [c,q,s,t,u,y,F]::Blk z 71 [.int .i64 b.1,.string b.2.1,.string b.2.2.1,.string b.2.2.2.1,.int .i64 b.2.2.2.2.1,.int .i64 b.2.2.2.2.2.1,.bool b.2.2.2.2.2.2]::Row 62 aG c f::Row 9 kS F G::Fo) o∧(∀ r,r ∈ rs→r ∈ o)∧oK (iM f b l) j G=some r) ?_ ?_
    ·refine wp_block<|sq<|bd hm fun g p hm=>?_
     obtain ⟨S,T,I⟩:=H.rowformNE (i:=2) rfl p
     refine sv E rfl rfl rfl (dL (d:=aG) E I rfl rfl rfl rfl U28 kN p) fun a E=>sv E rfl rfl rfl (iF (i:=2) E H cQ I rfl rfl rfl p (us:=[.string g.Path,.string g.Data,.int .i64 g.Version,.int .i64 g.Turn,.int .i64 g.Owner]) rfl U62 rfl kN) fun a E=>al E H rfl rfl rfl rfl Vg fun U w a H E=>bC (i:=0) E H (wn rfl) rfl rfl rfl rfl rfl rfl kN rfl rfl fun w H=>nx<|pr 1 E rfl fun a E=>sv E rfl rfl rfl (cD (i:=0) (us:=(kJ g)) E H rfl rfl rfl rfl U62 rfl kN) fun a E=>have H:=H.frs [4,4,3,3,4] rfl;bd hm fun V M hm=>?_
     refine aX E (wn rfl) rfl rfl (bP E rfl rfl rfl (Pw _)) (P7 H M)<|?_
     rintro _ w ⟨rfl,H⟩ a E
     refine nt<|wif E hm rfl (fun hm=>?_) fun hm=>?_
     ·refine dw [(0,0),(1,0),(2,0),(3,0),(4,0),(5,0),(6,0),(7,0),(8,1),(9,1),(10,1),(11,2),(12,2),(13,2),(14,2)] [1,2] [] H (by kernel_rfl) (fun _ _ _ h=>False.elim h.2) fun w W0 hI H=>fn 5 E rfl fun a E=>fb E rfl (wn rfl) rfl rfl rfl rfl mm1 rfl U41 rfl fun a E=>fn 1 E rfl fun a E=>fb E rfl (wn rfl) rfl rfl rfl rfl m0 rfl U9 rfl fun a E=>cE rfl<|bd hm fun A N hm=>xk E rfl rfl rfl rfl rfl Px (P8 H N) fun w H a E=>nt<|?_
      refine ⟨⟨_,_,H,(aB mm1 (aB mm2 (aL))),(aN)⟩,?_⟩
      refine cE rfl<|sT (e:=9) (d:=kS) (cs:=[.string A]) (xs:=[A]) E H (wn rfl) rfl rfl rfl (E.evs rfl) (by kernel_rfl) rfl (fun ok hr=>(Rows.single (d:=kS) (cs:=[.string A]) (x:=A) rfl)) fun W w a H E=>nt<|?_
      refine ⟨⟨_,_,H,(aB mm1 (aB mm2 (aL))),(aN)⟩,?_⟩
      refine cE rfl<|bk hm fun O hm=>eU (i:=4) E H (wn rfl) rfl rfl rfl rfl rfl rfl (lD m0) U41 Pj rfl O rfl fun X w a H E=>nt<|?_
      refine ⟨⟨_,_,H,(aB mm1 (aB mm2 (aL))),(aN)⟩,?_⟩
      refine bQ rfl<|pr 1 E rfl fun a E=>nt<|bQ rfl<|pr 1 E rfl fun a E=>nt<|bQ rfl<|pr 1 E rfl fun a E=>nt<|?_
      refine bQ rfl<|?_
      obtain ⟨q45,Y,rfl⟩:=H.rowform (i:=4) rfl
      refine bC (i:=2) E H (wn rfl) rfl rfl rfl rfl rfl rfl DS rfl rfl fun w H=>nt<|bR<|?_
      clear hI
      exact bY<|aD<|have H:=H.drop 1;have H:=H.frs [3,3,2,3] rfl;X3 ⟨E.to rfl,H,(Y1 n),hm⟩
     ·exact wp_skip<|bY<|aD<|have H:=H.drop 1;have H:=H.frs [3,3,2,3] rfl;X3 ⟨E.to rfl,H,n,hm⟩
    ·clear E H hm
     rintro a w ⟨F,G,o,E,H,P,hm⟩
     unfold oK at hm
     exact wp_region_lit<|pr 2 E rfl fun a E=>nt<|⟨l,Nat.lt_succ_self l,X4 ⟨E.to rfl,H,P,hm⟩⟩
   ·refine wp_exit<|bH<|bH<|dZ<|rL E rfl<|have H:=H.drop 1;?_
    cases hm
    exact ⟨_,rfl,H.reads n⟩

def vB(x1:Int):Option Int:=
  some (x1)
theorem Co{x1:Int}(H:Sep w (Fo) rs){r:Int}(hm:vB x1=some r) :
    Calls Tryz.prog 220 [.int .i64 x1].toArray w (Ret fun v w'=>.int .i64 r=v∧Sep w' (Fo) (rs)):=by
 unfold vB at hm
 refine ent Tryz.func220 rfl Tryz.ntmps220 rfl rfl fun a E=>sq<|pr 1 E rfl fun a E=>nx<|pr 2 E rfl fun a E=>nt<|wp_ret<|bB E rfl rfl<|?_
 cases hm
 exact ⟨rfl,H.reads Y0⟩

def nO(b:aI)(c:(List aI)):Option (Int×(List aI)):=
  some (b.Next,c)
def kV(b:Int×Bool)(c:(List aI)):Option (Int×(List aI)):=
  (idx c b.1).bind fun f=>(vB f.Next).bind fun d=>(idx c b.1).bind fun e=>(idx (c.set b.1.toNat ({ e with Next:=d }:aI)) b.1).bind fun g=>if (g.Next == 0)=true then ((ck (0 ≤ b.1∧b.1 < (c.set b.1.toNat ({ e with Next:=d }:aI)).length∧IntKind.i64.wrap (b.1+1)=b.1+1)).bind fun i=>nO f ((c.set b.1.toNat ({ e with Next:=d }:aI)).eraseIdx b.1.toNat)) else (nO f (c.set b.1.toNat ({ e with Next:=d }:aI)))
def qR(c:List aI)(d:ByteArray):Option (Int×(List aI)):=
  (cO c d).bind fun b=>if (!b.2)=true then ((ck (0 ≤ b.1∧b.1 ≤ c.length∧c.length ≤ 1000000)).bind fun e=>kV b (c.take b.1.toNat ++ (⟨d,0⟩:aI)::c.drop b.1.toNat)) else (kV b c)
theorem Ao{t:Nat}{O m n o p q s:Value}{P:List aI}{b:ByteArray}(H:Sep w (Blk t 228 [m,O,n,o,p,q,s]::Row 85 aK O P::Fo) rs){r:Int×(List aI)}(hm:qR P b=some r) :
    Calls Tryz.prog 219 [pt t 0,.string b,.func (.func 220) #[] #[]].toArray w (Ret fun v w'=>∃ Q,.int .i64 r.1=v∧Sep w' (Blk t 228 [m,Q,n,o,p,q,s]::Row 85 aK Q r.2::Fo) (rs)):=by
 unfold qR at hm
 refine ent Tryz.func219 rfl Tryz.ntmps219 rfl rfl fun a E=>sq<|pr 1 E rfl fun a E=>nx<|pr 4 E rfl fun a E=>lb E H 0 rfl rfl rfl rfl rfl rfl rfl U29 rfl fun a E=>pr 1 E rfl fun a E=>have H:=H.frs [0,1] rfl;bd hm fun G J hm=>?_
 refine xk E rfl rfl rfl rfl rfl Qa (gO H J) fun w H a E=>pr 5 E rfl fun a E=>nt<|aT (fun a w=>∃ u y c,Env 80 a [(0,pt t 0),(2,.func (.func 220) #[] #[]),(7,.int .i64 G.1)]∧Sep w (Blk t 228 [m,u,n,o,p,q,s]::Row 85 aK u y::Fo) c∧(∀ r,r ∈ rs→r ∈ c)∧kV G y=some r) ?_ ?_
 ·refine sq<|pr 2 E rfl fun a E=>nt<|wif E hm rfl (fun hm=>?_) fun hm=>?_
  ·refine wp_region_lit<|pr 5 E rfl fun a E=>lb E H 1 rfl rfl rfl rfl rfl rfl rfl U29 rfl fun a E=>pr 2 E rfl fun a E=>sv E rfl rfl rfl (cN E rfl (E.evs rfl) (v:=.agg #[.string b,.int .i64 0]) (by kernel_rfl)) fun a E=>hG (e:=85) (d:=aK) (cs:=[.string b,.int .i64 0]) (xs:=[(⟨b,0⟩:aI)]) E H (wn rfl) rfl rfl rfl (E.evs rfl) (by kernel_rfl) rfl rfl (fun ok hr=>(Rows.single (d:=aK) (cs:=[.string b,.int .i64 0]) (x:=(⟨b,0⟩:aI)) tV)) fun T w a H E=>bk hm fun K hm=>aX E (wn rfl) rfl rfl (cG E rfl rfl (Qb _)) (Tn.insert_a (ix:=1) (iu:=0) H rfl rfl (by decide) K) fun U w H a E=>pr 3 E rfl fun a E=>?_
   obtain ⟨q55,V,rfl⟩:=H.rowform (i:=1) rfl
   exact bC (i:=2) E H (wn rfl) rfl rfl rfl rfl rfl rfl U1 rfl rfl fun w H=>nt<|have H:=H.drop 0;have H:=H.frs [0,1] rfl;X3 ⟨E.to rfl,H,Y0,hm⟩
  ·exact wp_skip<|aD<|have H:=H.frs [0,1] rfl;X3 ⟨E.to rfl,H,Y0,hm⟩
 ·clear E H hm
  rintro a w ⟨u,y,c,E,H,z,hm⟩
  unfold kV at hm
  refine sq<|pr 4 E rfl fun a E=>lb E H 0 rfl rfl rfl rfl rfl rfl rfl U29 rfl fun a E=>pr 1 E rfl fun a E=>bd hm fun I f hm=>?_
  obtain ⟨W,X,A⟩:=H.rowformNE (i:=1) rfl f
  refine sv E rfl rfl rfl (dL (d:=aK) E A rfl rfl rfl rfl U29 rN f) fun a E=>pr 1 E rfl fun a E=>sv E rfl rfl rfl (pW (d:=aK) (i:=1) (k:=1) E H eD A rfl rfl rfl f rfl U2 rfl) fun a E=>pr 1 E rfl fun a E=>nt<|aT (fun a w=>∃ B C g,Env 80 a [(9,.int .i64 I.Next)]∧Sep w (Blk t 228 [m,B,n,o,p,q,s]::Row 85 aK B C::Fo) g∧(∀ r,r ∈ rs→r ∈ g)∧nO I C=some r) ?_ ?_
  ·refine wp_seq<|dw [(0,0),(1,0),(2,0),(3,0),(4,0),(5,0),(6,0),(7,0),(8,1),(9,2),(10,2),(11,2)] [0] [] H (by kernel_rfl) (fun _ _ _ h=>False.elim h.2) fun w W0 hI H=>fn 4 E rfl fun a E=>fb E rfl (wn rfl) rfl rfl rfl rfl m0 rfl U29 rfl fun a E=>fn 3 E rfl fun a E=>cE rfl<|bd hm fun R L hm=>aX E (wn rfl) rfl rfl (bP E rfl rfl rfl (IJ _)) (Co H L)<|?_
   rintro _ w ⟨rfl,H⟩ a E
   refine nt<|?_
   refine ⟨⟨_,_,H,(aB m0 (aL)),(aN)⟩,?_⟩
   refine bQ rfl<|bd hm fun S j hm=>?_
   obtain ⟨Y,Z,D⟩:=H.rowformNE (i:=1) rfl j
   refine sv E rfl rfl rfl (dL (d:=aK) E D rfl rfl rfl rfl U29 rN j) fun a E=>nt<|bQ rfl<|pr 1 E rfl fun a E=>nt<|bQ rfl<|F1 (d:=aK) (i:=1) (k:=1) (z':=({ S with Next:=R }:aI)) E H eD (wn rfl) rfl D rfl rfl rfl rfl rfl rfl j rfl rfl sz2 fun w H=>nt<|bR<|?_
   clear hI
   refine aD<|sq<|pr 4 E rfl fun a E=>lb E H 0 rfl rfl rfl rfl rfl rfl rfl U29 rfl fun a E=>pr 1 E rfl fun a E=>bd hm fun b0 l hm=>?_
   obtain ⟨b1,b2,F⟩:=H.rowformNE (i:=1) rfl l
   refine sv E rfl rfl rfl (dL (d:=aK) E F rfl rfl rfl rfl U29 rN l) fun a E=>pr 1 E rfl fun a E=>sv E rfl rfl rfl (pW (d:=aK) (i:=1) (k:=1) E H eD F rfl rfl rfl l rfl U2 rfl) fun a E=>pr 1 E rfl fun a E=>nt<|wif E hm rfl (fun hm=>?_) fun hm=>?_
   ·refine wp_region_lit<|pr 5 E rfl fun a E=>lb E H 0 rfl rfl rfl rfl rfl rfl rfl U29 rfl fun a E=>pr 3 E rfl fun a E=>bk hm fun M hm=>aX E (wn rfl) rfl rfl (cG E rfl rfl (Qc _)) (Tn.delete_c (ix:=1) H rfl M) fun b3 w H a E=>pr 3 E rfl fun a E=>?_
    obtain ⟨q49,b4,rfl⟩:=H.rowform (i:=1) rfl
    exact bC (i:=0) E H (wn rfl) rfl rfl rfl rfl rfl rfl U1 rfl rfl fun w H=>nt<|X3 ⟨E.to rfl,H,z,hm⟩
   ·exact wp_skip<|aD<|X3 ⟨E.to rfl,H,z,hm⟩
  ·clear E H hm
   rintro a w ⟨B,C,g,E,H,N,hm⟩
   unfold nO at hm
   refine sq<|pr 2 E rfl fun a E=>nt<|wp_ret<|bB E rfl rfl<|?_
   cases hm
   exact ⟨_,rfl,H.reads N⟩

def vC(x1:Int):Option Int:=
  some (IntKind.i64.wrap (x1+1))
theorem Cp{x1:Int}(H:Sep w (Fo) rs){r:Int}(hm:vC x1=some r) :
    Calls Tryz.prog 224 [.int .i64 x1].toArray w (Ret fun v w'=>.int .i64 r=v∧Sep w' (Fo) (rs)):=by
 unfold vC at hm
 refine ent Tryz.func224 rfl Tryz.ntmps224 rfl rfl fun a E=>sq<|pr 1 E rfl fun a E=>nx<|pr 3 E rfl fun a E=>nt<|wp_ret<|bB E rfl rfl<|?_
 cases hm
 exact ⟨rfl,H.reads Y0⟩

def nP(b:aI)(c:(List aI)):Option (Int×(List aI)):=
  some (b.Next,c)
def kW(b:Int×Bool)(c:(List aI)):Option (Int×(List aI)):=
  (idx c b.1).bind fun f=>(vC f.Next).bind fun d=>(idx c b.1).bind fun e=>(idx (c.set b.1.toNat ({ e with Next:=d }:aI)) b.1).bind fun g=>if (g.Next == 0)=true then ((ck (0 ≤ b.1∧b.1 < (c.set b.1.toNat ({ e with Next:=d }:aI)).length∧IntKind.i64.wrap (b.1+1)=b.1+1)).bind fun i=>nP f ((c.set b.1.toNat ({ e with Next:=d }:aI)).eraseIdx b.1.toNat)) else (nP f (c.set b.1.toNat ({ e with Next:=d }:aI)))
def qS(c:List aI)(d:ByteArray):Option (Int×(List aI)):=
  (cO c d).bind fun b=>if (!b.2)=true then ((ck (0 ≤ b.1∧b.1 ≤ c.length∧c.length ≤ 1000000)).bind fun e=>kW b (c.take b.1.toNat ++ (⟨d,0⟩:aI)::c.drop b.1.toNat)) else (kW b c)
theorem Ap{t:Nat}{O m n o p q s:Value}{P:List aI}{b:ByteArray}(H:Sep w (Blk t 228 [m,O,n,o,p,q,s]::Row 85 aK O P::Fo) rs){r:Int×(List aI)}(hm:qS P b=some r) :
    Calls Tryz.prog 219 [pt t 0,.string b,.func (.func 224) #[] #[]].toArray w (Ret fun v w'=>∃ Q,.int .i64 r.1=v∧Sep w' (Blk t 228 [m,Q,n,o,p,q,s]::Row 85 aK Q r.2::Fo) (rs)):=by
 unfold qS at hm
 refine ent Tryz.func219 rfl Tryz.ntmps219 rfl rfl fun a E=>sq<|pr 1 E rfl fun a E=>nx<|pr 4 E rfl fun a E=>lb E H 0 rfl rfl rfl rfl rfl rfl rfl U29 rfl fun a E=>pr 1 E rfl fun a E=>have H:=H.frs [0,1] rfl;bd hm fun G J hm=>?_
 refine xk E rfl rfl rfl rfl rfl Qa (gO H J) fun w H a E=>pr 5 E rfl fun a E=>nt<|aT (fun a w=>∃ u y c,Env 80 a [(0,pt t 0),(2,.func (.func 224) #[] #[]),(7,.int .i64 G.1)]∧Sep w (Blk t 228 [m,u,n,o,p,q,s]::Row 85 aK u y::Fo) c∧(∀ r,r ∈ rs→r ∈ c)∧kW G y=some r) ?_ ?_
 ·refine sq<|pr 2 E rfl fun a E=>nt<|wif E hm rfl (fun hm=>?_) fun hm=>?_
  ·refine wp_region_lit<|pr 5 E rfl fun a E=>lb E H 1 rfl rfl rfl rfl rfl rfl rfl U29 rfl fun a E=>pr 2 E rfl fun a E=>sv E rfl rfl rfl (cN E rfl (E.evs rfl) (v:=.agg #[.string b,.int .i64 0]) (by kernel_rfl)) fun a E=>hG (e:=85) (d:=aK) (cs:=[.string b,.int .i64 0]) (xs:=[(⟨b,0⟩:aI)]) E H (wn rfl) rfl rfl rfl (E.evs rfl) (by kernel_rfl) rfl rfl (fun ok hr=>(Rows.single (d:=aK) (cs:=[.string b,.int .i64 0]) (x:=(⟨b,0⟩:aI)) tV)) fun T w a H E=>bk hm fun K hm=>aX E (wn rfl) rfl rfl (cG E rfl rfl (Qb _)) (Tn.insert_a (ix:=1) (iu:=0) H rfl rfl (by decide) K) fun U w H a E=>pr 3 E rfl fun a E=>?_
   obtain ⟨q55,V,rfl⟩:=H.rowform (i:=1) rfl
   exact bC (i:=2) E H (wn rfl) rfl rfl rfl rfl rfl rfl U1 rfl rfl fun w H=>nt<|have H:=H.drop 0;have H:=H.frs [0,1] rfl;X3 ⟨E.to rfl,H,Y0,hm⟩
  ·exact wp_skip<|aD<|have H:=H.frs [0,1] rfl;X3 ⟨E.to rfl,H,Y0,hm⟩
 ·clear E H hm
  rintro a w ⟨u,y,c,E,H,z,hm⟩
  unfold kW at hm
  refine sq<|pr 4 E rfl fun a E=>lb E H 0 rfl rfl rfl rfl rfl rfl rfl U29 rfl fun a E=>pr 1 E rfl fun a E=>bd hm fun I f hm=>?_
  obtain ⟨W,X,A⟩:=H.rowformNE (i:=1) rfl f
  refine sv E rfl rfl rfl (dL (d:=aK) E A rfl rfl rfl rfl U29 rN f) fun a E=>pr 1 E rfl fun a E=>sv E rfl rfl rfl (pW (d:=aK) (i:=1) (k:=1) E H eD A rfl rfl rfl f rfl U2 rfl) fun a E=>pr 1 E rfl fun a E=>nt<|aT (fun a w=>∃ B C g,Env 80 a [(9,.int .i64 I.Next)]∧Sep w (Blk t 228 [m,B,n,o,p,q,s]::Row 85 aK B C::Fo) g∧(∀ r,r ∈ rs→r ∈ g)∧nP I C=some r) ?_ ?_
  ·refine wp_seq<|dw [(0,0),(1,0),(2,0),(3,0),(4,0),(5,0),(6,0),(7,0),(8,1),(9,2),(10,2),(11,2)] [0] [] H (by kernel_rfl) (fun _ _ _ h=>False.elim h.2) fun w W0 hI H=>fn 4 E rfl fun a E=>fb E rfl (wn rfl) rfl rfl rfl rfl m0 rfl U29 rfl fun a E=>fn 3 E rfl fun a E=>cE rfl<|bd hm fun R L hm=>aX E (wn rfl) rfl rfl (bP E rfl rfl rfl (IM _)) (Cp H L)<|?_
   rintro _ w ⟨rfl,H⟩ a E
   refine nt<|?_
   refine ⟨⟨_,_,H,(aB m0 (aL)),(aN)⟩,?_⟩
   refine bQ rfl<|bd hm fun S j hm=>?_
   obtain ⟨Y,Z,D⟩:=H.rowformNE (i:=1) rfl j
   refine sv E rfl rfl rfl (dL (d:=aK) E D rfl rfl rfl rfl U29 rN j) fun a E=>nt<|bQ rfl<|pr 1 E rfl fun a E=>nt<|bQ rfl<|F1 (d:=aK) (i:=1) (k:=1) (z':=({ S with Next:=R }:aI)) E H eD (wn rfl) rfl D rfl rfl rfl rfl rfl rfl j rfl rfl sz2 fun w H=>nt<|bR<|?_
   clear hI
   refine aD<|sq<|pr 4 E rfl fun a E=>lb E H 0 rfl rfl rfl rfl rfl rfl rfl U29 rfl fun a E=>pr 1 E rfl fun a E=>bd hm fun b0 l hm=>?_
   obtain ⟨b1,b2,F⟩:=H.rowformNE (i:=1) rfl l
   refine sv E rfl rfl rfl (dL (d:=aK) E F rfl rfl rfl rfl U29 rN l) fun a E=>pr 1 E rfl fun a E=>sv E rfl rfl rfl (pW (d:=aK) (i:=1) (k:=1) E H eD F rfl rfl rfl l rfl U2 rfl) fun a E=>pr 1 E rfl fun a E=>nt<|wif E hm rfl (fun hm=>?_) fun hm=>?_
   ·refine wp_region_lit<|pr 5 E rfl fun a E=>lb E H 0 rfl rfl rfl rfl rfl rfl rfl U29 rfl fun a E=>pr 3 E rfl fun a E=>bk hm fun M hm=>aX E (wn rfl) rfl rfl (cG E rfl rfl (Qc _)) (Tn.delete_c (ix:=1) H rfl M) fun b3 w H a E=>pr 3 E rfl fun a E=>?_
    obtain ⟨q49,b4,rfl⟩:=H.rowform (i:=1) rfl
    exact bC (i:=0) E H (wn rfl) rfl rfl rfl rfl rfl rfl U1 rfl rfl fun w H=>nt<|X3 ⟨E.to rfl,H,z,hm⟩
   ·exact wp_skip<|aD<|X3 ⟨E.to rfl,H,z,hm⟩
  ·clear E H hm
   rintro a w ⟨B,C,g,E,H,N,hm⟩
   unfold nP at hm
   refine sq<|pr 2 E rfl fun a E=>nt<|wp_ret<|bB E rfl rfl<|?_
   cases hm
   exact ⟨_,rfl,H.reads N⟩

def sM(d:ByteArray)(c:ByteArray)(e:Bool):Option (ByteArray×Bool):=
  if e=true then (some ((ByteArray.mk #[]),false)) else ((fQ d (ByteArray.mk #[47])).bind fun b=>(ck (b.size+(ByteArray.mk #[47]).size ≤ 4611686018427387904)).bind fun f=>(ck ((b ++ (ByteArray.mk #[47])).size+c.size ≤ 4611686018427387904)).bind fun g=>some ((b ++ (ByteArray.mk #[47])) ++ c,true))
def xS(b:ByteArray)(c:ByteArray):Option (ByteArray×Bool):=
  (vH b).bind fun d=>if (!d.2)=true then (sM b c true) else ((uS c).bind fun e=>if (!e)=true then (sM b c true) else (sM b c ((d.1.length:Int) == 6)))
theorem Da{f g:ByteArray}(H:Sep w (Fo) rs){r:ByteArray×Bool}(hm:xS f g=some r) :
    Calls Tryz.prog 149 [.string f,.string g].toArray w (Ret fun v w'=>.tuple #[.string r.1,.bool r.2]=v∧Sep w' (Fo) (rs)):=by
 unfold xS at hm
 refine ent Tryz.func149 rfl Tryz.ntmps149 rfl rfl fun a E=>sq<|pr 2 E rfl fun a E=>nx<|pr 1 E rfl fun a E=>bd hm fun s p hm=>cJ E rfl rfl rfl rfl rfl Xd (Aj H p)<|?_
 rintro _ w ⟨t,rfl,H⟩ a E
 refine pr 5 E rfl fun a E=>nt<|wp_seq<|aT (fun a w=>∃ k e,Env 30 a [(0,.string f),(1,.string g),(24,.bool k)]∧Sep w (Fo) e∧(∀ r,r ∈ rs→r ∈ e)∧sM f g k=some r) ?_ ?_
 ·refine wp_region_lit<|pr 3 E rfl fun a E=>cs hm (fun b hm=>?_) fun b hm=>?_
  ·exact pk 9 E (kc 15 rfl b) rfl fun a E=>nt<|have H:=H.drop 0;⟨_,_,E.to rfl,H,Y0,hm⟩
  ·refine pk 1 E (kc 15 rfl b) rfl fun a E=>bd hm fun q l hm=>aX E (ws' (d:=15) E rfl rfl rfl rfl b) rfl rfl (cG E rfl rfl (Pi _)) (P1 H l)<|?_
   rintro _ w ⟨rfl,H⟩ a E
   refine pk 3 E (kc 15 rfl b) rfl fun a E=>cs hm (fun c hm=>?_) fun c hm=>?_
   ·exact pk 4 E (kc 20 rfl c) rfl fun a E=>nt<|have H:=H.drop 0;⟨_,_,E.to rfl,H,Y0,hm⟩
   ·exact pk 1 E (kc 20 rfl c) rfl fun a E=>aQ E (ws' (d:=20) E rfl rfl rfl rfl c) rfl rfl (lC (i:=0) E H rfl rfl rfl U41) fun a E=>pk 2 E (kc 20 rfl c) rfl fun a E=>nt<|have H:=H.drop 0;⟨_,_,E.to rfl,H,Y0,hm⟩
 ·clear E H hm
  rintro a w ⟨k,e,E,H,j,hm⟩
  unfold sM at hm
  refine wif E hm rfl (fun hm=>?_) fun hm=>?_
  ·refine sq<|pr 2 E rfl fun a E=>nt<|wp_ret<|aP<|iE E rfl rfl rfl<|?_
   cases hm
   exact ⟨rfl,H.reads j⟩
  ·refine wp_skip<|aD<|sq<|pr 1 E rfl fun a E=>bd hm fun u m hm=>xk E rfl rfl rfl rfl rfl Xh (B3 H m) fun w H a E=>bk hm fun n hm=>sv E rfl rfl rfl (Oq E rfl rfl rfl n) fun a E=>pr 1 E rfl fun a E=>?_
   refine bk hm fun o hm=>sv E rfl rfl rfl (Oq E rfl rfl rfl o) fun a E=>pr 2 E rfl fun a E=>nt<|wp_ret<|iE E rfl rfl rfl<|?_
   cases hm
   exact ⟨rfl,H.reads j⟩

def qT(b:Int)(c:ByteArray)(e:Bool):Option (ByteArray×Bool):=
  if e=true then (some ((ByteArray.mk #[]),false)) else ((ck (-9223372036854775808 ≤ IntKind.i64.wrap (10000+b)∧IntKind.i64.wrap (10000+b) ≤ 9223372036854775807)).bind fun g=>(ck (0 ≤ (1:Int)∧(1:Int) ≤ (ByteArray.mk (Lib.itoa (IntKind.i64.wrap (10000+b))).toArray).size)).bind fun i=>(ck (c.size+((ByteArray.mk (Lib.itoa (IntKind.i64.wrap (10000+b))).toArray).extract (1:Int).toNat (ByteArray.mk (Lib.itoa (IntKind.i64.wrap (10000+b))).toArray).size).size ≤ 4611686018427387904)).bind fun f=>(uS (c ++ ((ByteArray.mk (Lib.itoa (IntKind.i64.wrap (10000+b))).toArray).extract (1:Int).toNat (ByteArray.mk (Lib.itoa (IntKind.i64.wrap (10000+b))).toArray).size))).bind fun d=>if (!d)=true then (some ((ByteArray.mk #[]),false)) else (some (c ++ ((ByteArray.mk (Lib.itoa (IntKind.i64.wrap (10000+b))).toArray).extract (1:Int).toNat (ByteArray.mk (Lib.itoa (IntKind.i64.wrap (10000+b))).toArray).size),true)))
def uF(c:ByteArray)(b:Int):Option (ByteArray×Bool):=
  if (decide (b < 0))=true then (qT b c true) else (qT b c (decide (b > 9999)))
theorem Gh{f:ByteArray}{d:Int}(H:Sep w (Fo) rs)(l:x4 Tryz.prog ∈ rs){r:ByteArray×Bool}(hm:uF f d=some r) :
    Calls Tryz.prog 221 [.string f,.int .i64 d].toArray w (Ret fun v w'=>.tuple #[.string r.1,.bool r.2]=v∧Sep w' (Fo) (rs)):=by
 unfold uF at hm
 refine ent Tryz.func221 rfl Tryz.ntmps221 rfl rfl fun a E=>sq<|pr 2 E rfl fun a E=>nt<|wp_seq<|aT (fun a w=>∃ g e,Env 23 a [(0,.string f),(1,.int .i64 d),(12,.bool g)]∧Sep w (Fo) e∧(∀ r,r ∈ rs→r ∈ e)∧qT d f g=some r) ?_ ?_
 ·refine wp_region_lit<|pr 3 E rfl fun a E=>cs hm (fun b hm=>?_) fun b hm=>?_
  ·exact pk 3 E (kc 9 rfl b) rfl fun a E=>nt<|⟨_,_,E.to rfl,H,Y0,hm⟩
  ·exact pk 3 E (kc 9 rfl b) rfl fun a E=>nt<|⟨_,_,E.to rfl,H,Y0,hm⟩
 ·clear E H hm
  rintro a w ⟨g,e,E,H,c,hm⟩
  unfold qT at hm
  refine wif E hm rfl (fun hm=>?_) fun hm=>?_
  ·refine sq<|pr 2 E rfl fun a E=>nt<|wp_ret<|aP<|iE E rfl rfl rfl<|?_
   cases hm
   exact ⟨rfl,H.reads c⟩
  ·refine wp_skip<|aD<|sq<|pr 3 E rfl fun a E=>bk hm fun m hm=>cJ E rfl rfl rfl rfl rfl IL (EK H (c _ l) (IntKind.i64.wrap (10000+d)) m)<|?_
   rintro _ w ⟨rfl,H⟩ a E
   refine bk hm fun i hm=>sv E rfl rfl rfl (Q9 E rfl rfl rfl U9 i) fun a E=>bk hm fun j hm=>sv E rfl rfl rfl (Oq E rfl rfl rfl j) fun a E=>pr 1 E rfl fun a E=>nt<|wp_seq<|sq<|pr 1 E rfl fun a E=>?_
   refine bd hm fun n k hm=>xk E rfl rfl rfl rfl rfl Pi (P1 H k) fun w H a E=>pr 1 E rfl fun a E=>nt<|wif E hm rfl (fun hm=>?_) fun hm=>?_
   ·refine sq<|pr 2 E rfl fun a E=>nt<|wp_ret<|aP<|iE E rfl rfl rfl<|?_
    cases hm
    exact ⟨rfl,H.reads c⟩
   ·refine wp_skip<|aD<|sq<|pr 3 E rfl fun a E=>nt<|wp_ret<|iE E rfl rfl rfl<|?_
    cases hm
    exact ⟨rfl,H.reads c⟩

def qU(b:Int×Bool)(c:List aF)(d:ByteArray)(e:bL)(i:Int)(j:ByteArray)(k:Int)(f:List ByteArray)(g:(List aI)):Option ((List aF)×(List aI)×Int×ByteArray×ByteArray×Int×(List ByteArray)):=
  (ck (0 ≤ b.1∧b.1 ≤ c.length∧c.length ≤ 1000000)).bind fun l=>some (c.take b.1.toNat ++ (⟨d,e.Data,0,0,e.Owner⟩:aF)::c.drop b.1.toNat,g,i,d,j,k,f)
def nQ(f:List aF)(b:bL)(i:Int)(j:ByteArray)(k:Int)(g:List ByteArray)(l:ByteArray×Bool)(c:ByteArray)(d:(List aI)):Option ((List aF)×(List aI)×Int×ByteArray×ByteArray×Int×(List ByteArray)):=
  (jZ f c).bind fun e=>if e.2=true then ((gC 61).bind fun m=>some (f,d,m,(ByteArray.mk #[]),(ByteArray.mk #[]),0,[])) else (if b.Turns=true then ((qS d l.1).bind fun n=>qU e f c b i j k g n.2) else (qU e f c b i j k g d))
def uG(g:List aF)(i:List aI)(j:Int)(k:ByteArray)(l:Int)(e:List ByteArray)(b:bL):Option ((List aF)×(List aI)×Int×ByteArray×ByteArray×Int×(List ByteArray)):=
  (pA b.Path).bind fun c=>if b.Turns=true then ((qR i c.1).bind fun d=>(uV b.Path).bind fun m=>(uF m d.1).bind fun f=>(xS c.1 f.1).bind fun n=>if (!f.2)=true then ((gC 66).bind fun o=>some (g,d.2,o,(ByteArray.mk #[]),(ByteArray.mk #[]),0,[])) else (nQ g b j k l e c n.1 d.2)) else (nQ g b j k l e c b.Path i)
theorem Gi{j:Nat}{o S f u:Value}{p:List aF}{T:List aI}{q s:Int}{t:ByteArray}{g:List ByteArray}{b:bL}(H:Sep w (Blk j 228 [o,S,.int .i64 q,u,.string t,.int .i64 s,f]::Row 62 aG o p::Row 85 aK S T::Row 9 kS f g::Fo) rs)(F:x4 Tryz.prog ∈ rs){r:(List aF)×(List aI)×Int×ByteArray×ByteArray×Int×(List ByteArray)}(hm:uG p T q t s g b=some r) :
    Calls Tryz.prog 158 [pt j 0,.agg (cM b).toArray].toArray w (Ret fun v w'=>∃ U V W,.tuple #[]=v∧Sep w' (Blk j 228 [U,V,.int .i64 r.2.2.1,.string r.2.2.2.1,.string r.2.2.2.2.1,.int .i64 r.2.2.2.2.2.1,W]::Row 62 aG U r.1::Row 85 aK V r.2.1::Row 9 kS W r.2.2.2.2.2.2::Fo) (rs)):=by
 unfold uG at hm
 refine ent Tryz.func158 rfl Tryz.ntmps158 rfl rfl fun a E=>sq<|bS E H (wn rfl) rfl rfl rfl rfl rfl fun n w a H E=>nx<|pr 1 E rfl fun a E=>lb E H 0 rfl rfl rfl rfl rfl rfl rfl U9 rfl fun a E=>pr 1 E rfl fun a E=>nx<|pr 1 E rfl fun a E=>?_
 refine lb E H 0 rfl rfl rfl rfl rfl rfl rfl U9 rfl fun a E=>bd hm fun C G hm=>xk E rfl rfl rfl rfl rfl Ji (w3 H G) fun w H a E=>pr 5 E rfl fun a E=>nt<|aT (fun a w=>∃ y c z k,Env 80 a [(0,pt j 0),(3,pt n 0),(4,.string c),(5,.string C.1)]∧Sep w (Blk j 228 [o,y,.int .i64 q,u,.string t,.int .i64 s,f]::Blk n 71 (cM b)::Row 62 aG o p::Row 85 aK y z::Row 9 kS f g::Fo) k∧(∀ r,r ∈ rs→r ∈ k)∧nQ p b q t s g C c z=some r) ?_ ?_
 ·refine sq<|pr 1 E rfl fun a E=>lb E H 0 rfl rfl rfl rfl rfl rfl rfl U4 rfl fun a E=>nt<|wif E hm rfl (fun hm=>?_) fun hm=>?_
  ·refine sq<|pr 2 E rfl fun a E=>have H:=H.frs [4,3,2,4,4] rfl;bd hm fun X I hm=>cJ E rfl rfl rfl rfl rfl Pz (Ao H I)<|?_
   rintro _ w ⟨Y,rfl,H⟩ a E
   refine pr 1 E rfl fun a E=>nx<|pr 1 E rfl fun a E=>lb E H 2 rfl rfl rfl rfl rfl rfl rfl U9 rfl fun a E=>bd hm fun Z J hm=>xk E rfl rfl rfl rfl rfl Px (P8 H J) fun w H a E=>pr 1 E rfl fun a E=>bd hm fun b0 K hm=>xk E rfl rfl rfl rfl rfl IK (Gh H F K) fun w H a E=>?_
   refine pr 5 E rfl fun a E=>nx<|pr 2 E rfl fun a E=>bd hm fun b1 L hm=>xk E rfl rfl rfl rfl rfl Xp (Da H L) fun w H a E=>pr 4 E rfl fun a E=>nx<|pr 2 E rfl fun a E=>nt<|wif E hm rfl (fun hm=>?_) fun hm=>?_
   ·refine sq<|pr 1 E rfl fun a E=>bd hm fun b2 M hm=>xk E rfl rfl rfl rfl rfl T9 (nK H M) fun w H a E=>nt<|wp_ret<|aP<|Ez E rfl<|have H:=H.nilRow 9 kS;?_
    refine have H:=H.drs [3,4];have H:=H.frs [0,2,3,3] rfl;?_
    cases hm
    exact X3 ⟨rfl,H.reads Y0⟩
   ·exact wp_skip<|aD<|have H:=H.frs [4,2,4,4,4] rfl;X4 ⟨E.to rfl,H,Y0,hm⟩
  ·exact wp_skip<|aD<|have H:=H.frs [4,4,4,3,4] rfl;X4 ⟨E.to rfl,H,Y0,hm⟩
 ·clear E H hm
  rintro a w ⟨y,c,z,k,E,H,l,hm⟩
  unfold nQ at hm
  refine sq<|pr 2 E rfl fun a E=>have H:=H.frs [4,4,3,4,4] rfl;bd hm fun D N hm=>xk E rfl rfl rfl rfl rfl Py (s4 H N) fun w H a E=>pr 5 E rfl fun a E=>nt<|wp_seq<|sq<|?_
  refine pr 1 E rfl fun a E=>nt<|wif E hm rfl (fun hm=>?_) fun hm=>?_
  ·refine sq<|pr 1 E rfl fun a E=>bd hm fun b3 O hm=>xk E rfl rfl rfl rfl rfl T9 (nK H O) fun w H a E=>nt<|wp_ret<|aP<|Ez E rfl<|have H:=H.nilRow 9 kS;?_
   refine have H:=H.drs [3,4];have H:=H.frs [0,3,3,3] rfl;?_
   cases hm
   exact X3 ⟨rfl,H.reads l⟩
  ·refine wp_skip<|aD<|aT (fun a w=>∃ A B m,Env 80 a [(0,pt j 0),(3,pt n 0),(4,.string c),(10,.int .i64 D.1)]∧Sep w (Blk j 228 [o,A,.int .i64 q,u,.string t,.int .i64 s,f]::Blk n 71 (cM b)::Row 62 aG o p::Row 85 aK A B::Row 9 kS f g::Fo) m∧(∀ r,r ∈ rs→r ∈ m)∧qU D p c b q t s g B=some r) ?_ ?_
   ·refine sq<|pr 1 E rfl fun a E=>lb E H 2 rfl rfl rfl rfl rfl rfl rfl U4 rfl fun a E=>nt<|wif E hm rfl (fun hm=>?_) fun hm=>?_
    ·refine wp_region_lit<|pr 2 E rfl fun a E=>have H:=H.frs [4,3,3,4,4] rfl;bd hm fun b4 P hm=>cJ E rfl rfl rfl rfl rfl Pz (Ap H P)<|?_
     rintro _ w ⟨b5,rfl,H⟩ a E
     exact nt<|have H:=H.frs [4,2,3,4,4] rfl;X3 ⟨E.to rfl,H,l,hm⟩
    ·exact wp_skip<|aD<|have H:=H.frs [4,4,3,4,4] rfl;X3 ⟨E.to rfl,H,l,hm⟩
   ·clear E H hm
    rintro a w ⟨A,B,m,E,H,Q,hm⟩
    unfold qU at hm
    refine wp_seq<|dw [(0,0),(1,0),(2,0),(3,0),(4,0),(5,0),(6,0),(7,0),(8,0),(9,0),(10,0),(11,0),(12,0),(13,1),(14,1),(15,2),(16,2),(17,2),(18,2)] [0,1] [] H (by kernel_rfl) (fun _ _ _ h=>False.elim h.2) fun w W0 hI H=>fn 5 E rfl fun a E=>fb E rfl (wn rfl) rfl rfl rfl rfl m0 rfl U28 rfl fun a E=>fn 3 E rfl fun a E=>fb E rfl (wn rfl) rfl rfl rfl rfl mm1 rfl U9 rfl fun a E=>fn 1 E rfl fun a E=>fb E rfl (wn rfl) rfl rfl rfl rfl mm1 rfl U2 rfl fun a E=>cB E rfl (wn rfl) rfl rfl (fun w hW=>(cN E rfl (E.evs rfl) (v:=.agg #[.string c,.string b.Data,.int .i64 0,.int .i64 0,.int .i64 b.Owner]) (by kernel_rfl))) fun a E=>?_
    refine cE rfl<|hG (e:=62) (d:=aG) (cs:=[.string c,.string b.Data,.int .i64 0,.int .i64 0,.int .i64 b.Owner]) (xs:=[(⟨c,b.Data,0,0,b.Owner⟩:aF)]) E H (wn rfl) rfl rfl rfl (E.evs rfl) (by kernel_rfl) rfl rfl (fun ok hr=>(Rows.single (d:=aG) (cs:=[.string c,.string b.Data,.int .i64 0,.int .i64 0,.int .i64 b.Owner]) (x:=(⟨c,b.Data,0,0,b.Owner⟩:aF)) xB)) fun b6 w a H E=>nt<|?_
    refine ⟨⟨_,_,H,(aB mm1 (aB mm2 (aL))),(aN)⟩,?_⟩
    refine cE rfl<|bk hm fun R hm=>aX E (wn rfl) rfl rfl (cG E rfl rfl (IP _)) (insert_a (ix:=3) (iu:=0) H rfl rfl (by decide) R) fun b7 w H a E=>nt<|?_
    refine ⟨⟨_,_,H,(aB mm1 (aB mm2 (aL))),(aN)⟩,?_⟩
    refine bQ rfl<|pr 1 E rfl fun a E=>nt<|bQ rfl<|pr 1 E rfl fun a E=>nt<|bQ rfl<|pr 1 E rfl fun a E=>nt<|?_
    refine bQ rfl<|?_
    obtain ⟨q35,b8,rfl⟩:=H.rowform (i:=3) rfl
    refine bC (i:=1) E H (wn rfl) rfl rfl rfl rfl rfl rfl Gz rfl rfl fun w H=>nt<|bR<|?_
    clear hI
    refine aD<|wp_region_lit<|pr 5 E rfl fun a E=>bC (i:=1) E H (wn rfl) rfl rfl rfl rfl rfl rfl sz9 rfl rfl fun w H=>wpList_nil<|rL E rfl<|have H:=H.drs [0,1];?_
    cases hm
    exact X3 ⟨rfl,H.reads Q⟩

def tC(d:List aF)(g:Int)(i:ByteArray)(j:ByteArray)(k:Int)(e:List ByteArray)(f:bL):Option (Int×ByteArray×ByteArray×Int×(List ByteArray)):=
  (gY d g i j k e f).bind fun b=>if (decide (0 ≤ b.1))=true then ((idx d b.1).bind fun c=>some (b.2.1,b.2.2.1,c.Data,c.Version,b.2.2.2.2.2)) else (some (b.2.1,b.2.2.1,b.2.2.2.1,b.2.2.2.2.1,b.2.2.2.2.2))
theorem En{m:Nat}{f g j:Value}{n:List aF}{p q:Int}{s t:ByteArray}{l:List ByteArray}{e:bL}(H:Sep w (Blk m 228 [f,j,.int .i64 p,.string s,.string t,.int .i64 q,g]::Row 62 aG f n::Row 9 kS g l::Fo) rs){r:Int×ByteArray×ByteArray×Int×(List ByteArray)}(hm:tC n p s t q l e=some r) :
    Calls Tryz.prog 163 [pt m 0,.agg (cM e).toArray].toArray w (Ret fun v w'=>∃ u,.tuple #[]=v∧Sep w' (Blk m 228 [f,j,.int .i64 r.1,.string r.2.1,.string r.2.2.1,.int .i64 r.2.2.2.1,u]::Row 62 aG f n::Row 9 kS u r.2.2.2.2::Fo) (rs)):=by
 unfold tC at hm
 refine ent Tryz.func163 rfl Tryz.ntmps163 rfl rfl fun a E=>sq<|bS E H (wn rfl) rfl rfl rfl rfl rfl fun x w a H E=>nx<|pr 1 E rfl fun a E=>sv E rfl rfl rfl (cD (i:=0) (us:=(cM e)) E H rfl rfl rfl rfl U71 rfl jT) fun a E=>have H:=H.frs [0,3,3,3] rfl;bd hm fun y o hm=>cJ E rfl rfl rfl rfl rfl Bs (pY H o)<|?_
 rintro _ w ⟨z,rfl,H⟩ a E
 refine pr 1 E rfl fun a E=>nx<|pr 1 E rfl fun a E=>sv E rfl rfl rfl (Fg E Fx Fy rfl rfl rfl) fun a E=>nt<|wif E hm rfl (fun hm=>?_) fun hm=>?_
 ·refine dw [(0,0),(1,0),(2,0),(3,0),(4,0),(5,0),(6,0),(7,0),(8,0),(9,0),(10,0),(11,0),(12,0),(13,1),(14,2),(15,2),(16,2),(17,2)] [1] [] H (by kernel_rfl) (fun _ _ _ h=>False.elim h.2) fun w W0 hI H=>fn 3 E rfl fun a E=>bd hm fun A b hm=>?_
  obtain ⟨B,C,c⟩:=H.rowformNE (i:=1) rfl b
  rw [Ad 5 c b] at E
  refine fn 2 E rfl fun a E=>cB E rfl (wn rfl) rfl rfl (fun w hW=>Dm (d:=aG) (k:=1) E cQ c b m0 rfl rfl rfl U9 rfl hW) fun a E=>?_
  refine fn 3 E rfl fun a E=>cB E rfl (wn rfl) rfl rfl (fun w hW=>Dm (d:=aG) (k:=2) E cQ c b m0 rfl rfl rfl U2 rfl hW) fun a E=>?_
  refine fn 3 E rfl fun a E=>cE rfl<|bC (i:=0) E H (wn rfl) rfl rfl rfl rfl rfl rfl sz9 rfl rfl fun w H=>nt<|?_
  refine ⟨⟨_,_,H,(aB mm1 (aL)),(aN)⟩,?_⟩
  refine bQ rfl<|pr 1 E rfl fun a E=>nt<|bQ rfl<|pr 1 E rfl fun a E=>nt<|bQ rfl<|pr 1 E rfl fun a E=>nt<|?_
  refine bQ rfl<|bC (i:=0) E H (wn rfl) rfl rfl rfl rfl rfl rfl sz2 rfl rfl fun w H=>nt<|bR<|?_
  clear hI
  refine rL E rfl<|have H:=H.drop 3;?_
  cases hm
  exact ⟨_,rfl,H.reads Y0⟩
 ·refine wp_skip<|rL E rfl<|have H:=H.drop 3;?_
  cases hm
  exact ⟨_,rfl,H.reads Y0⟩

def qV(d:List aF)(g:Int)(i:ByteArray)(j:ByteArray)(k:Int)(f:List ByteArray)(e:bL):Option ((List aF)×Int×ByteArray×ByteArray×Int×(List ByteArray)):=
  (gY d g i j k f e).bind fun b=>if (decide (0 ≤ b.1))=true then ((jZ d e.Path).bind fun c=>(ck (0 ≤ c.1∧c.1 < d.length∧IntKind.i64.wrap (c.1+1)=c.1+1)).bind fun l=>some (d.eraseIdx c.1.toNat,b.2.1,b.2.2.1,b.2.2.2.1,b.2.2.2.2.1,b.2.2.2.2.2)) else (some (d,b.2.1,b.2.2.1,b.2.2.2.1,b.2.2.2.2.1,b.2.2.2.2.2))
theorem Aq{f:Nat}{l c d:Value}{m:List aF}{n o:Int}{p q:ByteArray}{e:List ByteArray}{b:bL}(H:Sep w (Blk f 228 [l,d,.int .i64 n,.string p,.string q,.int .i64 o,c]::Row 62 aG l m::Row 9 kS c e::Fo) rs){r:(List aF)×Int×ByteArray×ByteArray×Int×(List ByteArray)}(hm:qV m n p q o e b=some r) :
    Calls Tryz.prog 159 [pt f 0,.agg (cM b).toArray].toArray w (Ret fun v w'=>∃ s t,.tuple #[]=v∧Sep w' (Blk f 228 [s,d,.int .i64 r.2.1,.string r.2.2.1,.string r.2.2.2.1,.int .i64 r.2.2.2.2.1,t]::Row 62 aG s r.1::Row 9 kS t r.2.2.2.2.2::Fo) (rs)):=by
 unfold qV at hm
 refine ent Tryz.func159 rfl Tryz.ntmps159 rfl rfl fun a E=>sq<|bS E H (wn rfl) rfl rfl rfl rfl rfl fun u w a H E=>nx<|pr 1 E rfl fun a E=>sv E rfl rfl rfl (cD (i:=0) (us:=(cM b)) E H rfl rfl rfl rfl U71 rfl jT) fun a E=>have H:=H.frs [0,3,3,3] rfl;bd hm fun x g hm=>cJ E rfl rfl rfl rfl rfl Bs (pY H g)<|?_
 rintro _ w ⟨y,rfl,H⟩ a E
 refine sv E rfl rfl rfl (Fg E Fx Fy rfl rfl rfl) fun a E=>nt<|wif E hm rfl (fun hm=>?_) fun hm=>?_
 ·refine sq<|pr 2 E rfl fun a E=>lb E H 3 rfl rfl rfl rfl rfl rfl rfl U9 rfl fun a E=>bd hm fun z j hm=>xk E rfl rfl rfl rfl rfl Py (s4 H j) fun w H a E=>pr 5 E rfl fun a E=>nt<|wp_region_lit<|pr 5 E rfl fun a E=>?_
  refine lb E H 0 rfl rfl rfl rfl rfl rfl rfl U28 rfl fun a E=>pr 3 E rfl fun a E=>bk hm fun k hm=>aX E (wn rfl) rfl rfl (cG E rfl rfl (IH _)) (delete_c (ix:=1) H rfl k) fun A w H a E=>pr 3 E rfl fun a E=>?_
  obtain ⟨q23,B,rfl⟩:=H.rowform (i:=1) rfl
  refine bC (i:=0) E H (wn rfl) rfl rfl rfl rfl rfl rfl Gz rfl rfl fun w H=>wpList_nil<|rL E rfl<|have H:=H.drop 3;?_
  cases hm
  exact ⟨_,_,rfl,H.reads Y0⟩
 ·refine wp_skip<|rL E rfl<|have H:=H.drop 3;?_
  cases hm
  exact ⟨_,_,rfl,H.reads Y0⟩

def iZ(x1:aW)(g:(List aF))(i:(List aI))(b:Int)(c:ByteArray)(d:ByteArray)(e:Int)(f:(List ByteArray)):Option (aW×cR):=
  if (b != 0)=true then (some (x1,(⟨b,c,d,e,f⟩:cR))) else (some ((⟨g,i⟩:aW),(⟨b,c,d,e,f⟩:cR)))
def zF(x1:aW)(b:bL)(m:Bool):Option (aW×cR):=
  if m=true then (some ((⟨[],[]⟩:aW),(⟨1,(ByteArray.mk #[]),(ByteArray.mk #[]),0,[]⟩:cR))) else ((ck (x1.Nodes.length ≤ LIM)).bind fun o=>(ck (x1.Turns.length ≤ LIM)).bind fun p=>if (b.Kind == 1)=true then ((rV x1.Nodes 0 (ByteArray.mk #[]) (ByteArray.mk #[]) 0 [] b).bind fun g=>iZ x1 x1.Nodes x1.Turns g.1 g.2.1 g.2.2.1 g.2.2.2.1 g.2.2.2.2) else (if (b.Kind == 2)=true then ((uG x1.Nodes x1.Turns 0 (ByteArray.mk #[]) 0 [] b).bind fun c=>iZ x1 c.1 c.2.1 c.2.2.1 c.2.2.2.1 c.2.2.2.2.1 c.2.2.2.2.2.1 c.2.2.2.2.2.2) else (if (b.Kind == 3)=true then ((qV x1.Nodes 0 (ByteArray.mk #[]) (ByteArray.mk #[]) 0 [] b).bind fun d=>iZ x1 d.1 x1.Turns d.2.1 d.2.2.1 d.2.2.2.1 d.2.2.2.2.1 d.2.2.2.2.2) else (if (b.Kind == 4)=true then ((vA x1.Nodes x1.Turns 0 (ByteArray.mk #[]) (ByteArray.mk #[]) 0 [] b).bind fun e=>iZ x1 x1.Nodes e.1 e.2.1 e.2.2.1 e.2.2.2.1 e.2.2.2.2.1 e.2.2.2.2.2) else (if (b.Kind == 5)=true then ((rT x1.Nodes 0 (ByteArray.mk #[]) (ByteArray.mk #[]) 0 [] b).bind fun f=>iZ x1 f.1 x1.Turns f.2.1 f.2.2.1 f.2.2.2.1 f.2.2.2.2.1 f.2.2.2.2.2) else (if (b.Kind == 6)=true then ((tB x1.Nodes 0 (ByteArray.mk #[]) (ByteArray.mk #[]) 0 [] b).bind fun i=>iZ x1 x1.Nodes x1.Turns i.1 i.2.1 i.2.2.1 i.2.2.2.1 i.2.2.2.2) else (if (b.Kind == 7)=true then ((tC x1.Nodes 0 (ByteArray.mk #[]) (ByteArray.mk #[]) 0 [] b).bind fun j=>iZ x1 x1.Nodes x1.Turns j.1 j.2.1 j.2.2.1 j.2.2.2.1 j.2.2.2.2) else (if (b.Kind == 8)=true then ((uE x1.Nodes 0 (ByteArray.mk #[]) (ByteArray.mk #[]) 0 [] b).bind fun k=>iZ x1 x1.Nodes x1.Turns k.1 k.2.1 k.2.2.1 k.2.2.2.1 k.2.2.2.2) else (if (b.Kind == 9)=true then ((rW x1.Nodes [] b).bind fun n=>iZ x1 x1.Nodes x1.Turns 0 (ByteArray.mk #[]) (ByteArray.mk #[]) 0 n) else (if (b.Kind == 10)=true then ((rU x1.Nodes [] b).bind fun l=>iZ x1 l.1 x1.Turns 0 (ByteArray.mk #[]) (ByteArray.mk #[]) 0 l.2) else none))))))))))
def F6(x1:aW)(b:bL):Option (aW×cR):=
  (mY x1).bind fun c=>if (!c)=true then (zF x1 b true) else ((zT b).bind fun d=>zF x1 b (!d))
theorem Sj{x1:aW}{p q:Value}{c:bL}(H:Sep w (Fo) rs)(u:rSl aG p x1.Nodes ∈ rs)(x:rSl aK q x1.Turns ∈ rs)(c0:x4 Tryz.prog ∈ rs){r:aW×cR}(hm:F6 x1 c=some r) :
    Calls Tryz.prog 105 [.agg #[p,q],.agg (cM c).toArray].toArray w (Ret fun v w'=>∃ c1 c2 c3,.tuple #[.agg #[c1,c2],.agg (Ae r.2 c3).toArray]=v∧Sep w' (Fo) (rSl aG c1 r.1.Nodes::rSl aK c2 r.1.Turns::rSl kS c3 r.2.Names::rs)):=by
 unfold F6 at hm
 refine ent Tryz.func105 rfl Tryz.ntmps105 rfl rfl fun a E=>sq<|bS E H (wn rfl) rfl rfl rfl rfl rfl fun R w a H E=>bS E H (wn rfl) rfl rfl rfl rfl rfl fun c4 w a H E=>al E H rfl rfl rfl rfl lR fun y w a H E=>al E H rfl rfl rfl rfl DN fun z w a H E=>nx<|sv E rfl rfl rfl (cN E rfl (E.evs rfl) (v:=.agg #[.nilFunc,.func (.func 157) #[] #[],.func (.func 158) #[] #[],.func (.func 159) #[] #[],.func (.func 160) #[] #[],.func (.func 161) #[] #[],.func (.func 162) #[] #[],.func (.func 163) #[] #[],.func (.func 164) #[] #[],.func (.func 165) #[] #[],.func (.func 166) #[] #[]]) (by kernel_rfl)) fun a E=>al E H rfl rfl rfl rfl HQ fun S w a H E=>?_
 refine bC (i:=0) E H (wn rfl) rfl rfl rfl rfl rfl rfl HR rfl rfl fun w H=>nt<|wp_seq<|aT (fun a w=>∃ F s,Env 54 a [(2,pt R 0),(3,pt c4 0),(4,pt y 0),(5,pt z 0),(6,pt S 0),(16,.bool F)]∧Sep w (Blk R 31 [p,q]::Blk c4 71 (cM c)::Blk y 31 [.slice none 0 0,.slice none 0 0]::Blk z 48 Af::Blk S 226 [.nilFunc,.func (.func 157) #[] #[],.func (.func 158) #[] #[],.func (.func 159) #[] #[],.func (.func 160) #[] #[],.func (.func 161) #[] #[],.func (.func 162) #[] #[],.func (.func 163) #[] #[],.func (.func 164) #[] #[],.func (.func 165) #[] #[],.func (.func 166) #[] #[]]::Fo) s∧(∀ r,r ∈ rs→r ∈ s)∧zF x1 c F=some r) ?_ ?_
 ·refine wp_region_lit<|sv E rfl rfl rfl (cD (i:=4) (us:=[p,q]) E H rfl rfl rfl rfl U31 rfl dP) fun a E=>bd hm fun c9 W hm=>xk E rfl rfl rfl rfl rfl Pf (B2 H u x W) fun w H a E=>pr 2 E rfl fun a E=>cs hm (fun f hm=>?_) fun f hm=>?_
  ·exact pk 4 E (kc 12 rfl f) rfl fun a E=>nt<|have H:=H.frs [0,1,2,3,4] rfl;⟨_,_,E.to rfl,H,Y0,hm⟩
  ·refine aQ E (ws' (d:=12) E rfl rfl rfl rfl f) rfl rfl (cD (i:=3) (us:=(cM c)) E H rfl rfl rfl rfl U71 rfl jT) fun a E=>bd hm fun d0 X hm=>aX E (ws' (d:=12) E rfl rfl rfl rfl f) rfl rfl (cG E rfl rfl (CM _)) (Ge H X)<|?_
   rintro _ w ⟨rfl,H⟩ a E
   exact pk 2 E (kc 12 rfl f) rfl fun a E=>nt<|have H:=H.frs [0,1,2,3,4] rfl;⟨_,_,E.to rfl,H,Y0,hm⟩
 ·clear E H hm
  rintro a w ⟨F,s,E,H,b,hm⟩
  unfold zF at hm
  refine wif E hm rfl (fun hm=>?_) fun hm=>?_
  ·refine sq<|sv E rfl rfl rfl (cN E rfl (E.evs rfl) (v:=.agg #[.slice none 0 0,.slice none 0 0]) (by kernel_rfl)) fun a E=>sv E rfl rfl rfl (cN E rfl (E.evs rfl) (v:=.agg #[.int .i64 1,.string (ByteArray.mk #[]),.string (ByteArray.mk #[]),.int .i64 0,.slice none 0 0]) (by kernel_rfl)) fun a E=>bC (i:=2) E H (wn rfl) rfl rfl rfl rfl rfl rfl dP rfl rfl fun w H=>bC (i:=3) E H (wn rfl) rfl rfl rfl rfl rfl rfl A9 rfl rfl fun w H=>nt<|wp_ret<|aP<|uX E rfl (dH (i:=2) (us:=[.slice none 0 0,.slice none 0 0]) H rfl rfl rfl U31 rfl dP) (dH (i:=3) (us:=[.int .i64 1,.string (ByteArray.mk #[]),.string (ByteArray.mk #[]),.int .i64 0,.slice none 0 0]) H rfl rfl rfl U48 rfl A9)<|?_
   refine have H:=H.nilSl aG;have H:=H.nilSl aK;have H:=H.nilSl kS;have H:=H.drs [0,0,0,0,0];?_
   cases hm
   exact X3 ⟨rfl,H.reads (aA mm2 (aA mm1 (aA m0 (fun r hr=>(t3 (b r hr))))))⟩
  ·refine wp_skip<|aD<|wp_seq<|dw [(0,0),(1,0),(3,0),(4,0),(2,1),(5,1),(6,0),(7,0),(8,1),(9,2)] [0] [] H (by kernel_rfl) (fun _ _ _ h=>False.elim h.2) fun w W0 hI H=>fn 1 E rfl fun a E=>fb E rfl (wn rfl) rfl rfl rfl rfl m0 rfl U28 rfl fun a E=>fn 1 E rfl fun a E=>fb E rfl (wn rfl) rfl rfl rfl rfl m0 rfl U29 rfl fun a E=>cE rfl<|?_
   refine bk hm fun Y hm=>aX E (wn rfl) rfl rfl (cG E rfl rfl (DO _)) (qD H (b _ u) Y) fun d1 w H a E=>nt<|?_
   refine ⟨⟨_,_,H,(aB mm1 (aL)),(aN)⟩,?_⟩
   refine cE rfl<|bk hm fun Z hm=>aX E (wn rfl) rfl rfl (cG E rfl rfl (DP _)) (qE H (b _ x) Z) fun d2 w H a E=>nt<|?_
   refine ⟨⟨_,_,H,(aB mm2 (aL)),(aN)⟩,?_⟩
   obtain ⟨q22,T,rfl⟩:=H.rowform (i:=1) rfl
   obtain ⟨q24,U,rfl⟩:=H.rowform (i:=0) rfl
   refine cB E rfl (wn rfl) rfl rfl (fun w hW=>(cN E rfl (E.evs rfl) (v:=.agg #[(.slice q22 x1.Nodes.length T),(.slice q24 x1.Turns.length U)]) (by kernel_rfl))) fun a E=>?_
   refine cB E rfl (wn rfl) rfl rfl (fun w hW=>(cN E rfl (E.evs rfl) (v:=.agg #[(.slice q22 x1.Nodes.length T),(.slice q24 x1.Turns.length U),.int .i64 0,.string (ByteArray.mk #[]),.string (ByteArray.mk #[]),.int .i64 0,.slice none 0 0]) (by kernel_rfl))) fun a E=>?_
   refine cE rfl<|bS E H (wn rfl) rfl rfl rfl rfl rfl fun V w a H E=>nt<|?_
   refine ⟨⟨_,_,H,(aB mm3 (aL)),(aN)⟩,?_⟩
   refine bQ rfl<|pr 1 E rfl fun a E=>nt<|bR<|?_
   clear hI
   refine aD<|wp_seq<|aT (fun a w=>∃ A B n C D g k l m o t,Env 54 a [(2,pt R 0),(4,pt y 0),(5,pt z 0),(7,pt V 0)]∧Sep w (Blk R 31 [p,q]::Blk y 31 [.slice none 0 0,.slice none 0 0]::Blk z 48 Af::Blk V 228 [A,B,.int .i64 g,.string k,.string l,.int .i64 m,n]::Row 62 aG A C::Row 85 aK B D::Row 9 kS n o::Fo) t∧(∀ r,r ∈ rs→r ∈ t)∧iZ x1 C D g k l m o=some r) ?_ ?_
   ·refine dw [(0,0),(1,0),(2,0),(3,0),(4,0),(5,0),(6,1)] [4,7] [] H (by kernel_rfl) (fun _ _ _ h=>False.elim h.2) fun w W0 hI H=>fn 1 E rfl fun a E=>fb E rfl (wn rfl) rfl rfl rfl rfl m0 rfl U3 rfl fun a E=>cs hm (fun G hm=>?_) fun G hm=>?_
    ·refine cB E rfl (wn rfl) rfl rfl (fun w hW=>rA (j:=1) E rfl rfl rfl G rfl O6 E6) fun a E=>?_
     refine fb E rfl (wn rfl) rfl rfl rfl rfl mm1 rfl O7 rfl fun a E=>fn 1 E rfl fun a E=>fbn E (cM c) rfl (wn rfl) rfl rfl rfl rfl m0 rfl U71 rfl jT fun a E=>cE rfl<|have H:=H.nilRow 9 kS;have H:=H.frs [8,8,8,8,8,7,6,8,8] rfl;bd hm fun d3 b0 hm=>aX E (wn rfl) rfl rfl (bP E rfl rfl rfl (IQ _)) (Cm H b0)<|?_
     rintro _ w ⟨d4,rfl,H⟩ a E
     refine nt<|?_
     refine ⟨⟨_,_,H,(aB mm5 (aB (t2 mm6) (aL))),(aN)⟩,?_⟩
     refine bR<|?_
     clear hI
     exact aD<|have H:=H.drs [5,7];have H:=H.frs [2,3,3,3,6,6,6] rfl;X11 ⟨E.to rfl,H,b,hm⟩
    ·refine cs hm (fun I hm=>?_) fun I hm=>?_
     ·refine cB E rfl (wn rfl) rfl rfl (fun w hW=>rA (j:=2) E rfl rfl rfl I rfl O6 E6) fun a E=>?_
      refine fb E rfl (wn rfl) rfl rfl rfl rfl mm1 rfl O7 rfl fun a E=>fn 1 E rfl fun a E=>fbn E (cM c) rfl (wn rfl) rfl rfl rfl rfl m0 rfl U71 rfl jT fun a E=>cE rfl<|have H:=H.nilRow 9 kS;have H:=H.frs [8,8,8,8,8,5,7,8,8] rfl;bd hm fun d5 b1 hm=>aX E (wn rfl) rfl rfl (bP E rfl rfl rfl (II _)) (Gi H (b _ c0) b1)<|?_
      rintro _ w ⟨d6,d7,d8,rfl,H⟩ a E
      refine nt<|?_
      refine ⟨⟨_,_,H,(aB mm5 (aB (t2 mm6) (aL))),(aN)⟩,?_⟩
      refine bR<|?_
      clear hI
      exact aD<|have H:=H.drs [5,7];have H:=H.frs [3,3,3,3,6,6,6] rfl;X11 ⟨E.to rfl,H,b,hm⟩
     ·refine cs hm (fun J hm=>?_) fun J hm=>?_
      ·refine cB E rfl (wn rfl) rfl rfl (fun w hW=>rA (j:=3) E rfl rfl rfl J rfl O6 E6) fun a E=>?_
       refine fb E rfl (wn rfl) rfl rfl rfl rfl mm1 rfl O7 rfl fun a E=>fn 1 E rfl fun a E=>fbn E (cM c) rfl (wn rfl) rfl rfl rfl rfl m0 rfl U71 rfl jT fun a E=>cE rfl<|have H:=H.nilRow 9 kS;have H:=H.frs [8,8,8,8,8,7,6,8,8] rfl;bd hm fun d9 b2 hm=>aX E (wn rfl) rfl rfl (bP E rfl rfl rfl (IG _)) (Aq H b2)<|?_
       rintro _ w ⟨e0,e1,rfl,H⟩ a E
       refine nt<|?_
       refine ⟨⟨_,_,H,(aB mm5 (aB (t2 mm6) (aL))),(aN)⟩,?_⟩
       refine bR<|?_
       clear hI
       exact aD<|have H:=H.drs [5,7];have H:=H.frs [2,3,3,3,6,6,6] rfl;X11 ⟨E.to rfl,H,b,hm⟩
      ·refine cs hm (fun K hm=>?_) fun K hm=>?_
       ·refine cB E rfl (wn rfl) rfl rfl (fun w hW=>rA (j:=4) E rfl rfl rfl K rfl O6 E6) fun a E=>?_
        refine fb E rfl (wn rfl) rfl rfl rfl rfl mm1 rfl O7 rfl fun a E=>fn 1 E rfl fun a E=>fbn E (cM c) rfl (wn rfl) rfl rfl rfl rfl m0 rfl U71 rfl jT fun a E=>cE rfl<|have H:=H.nilRow 9 kS;have H:=H.frs [8,8,8,8,8,5,7,8,8] rfl;bd hm fun e2 b3 hm=>aX E (wn rfl) rfl rfl (bP E rfl rfl rfl (IE _)) (Ck H b3)<|?_
        rintro _ w ⟨e3,e4,rfl,H⟩ a E
        refine nt<|?_
        refine ⟨⟨_,_,H,(aB mm5 (aB (t2 mm6) (aL))),(aN)⟩,?_⟩
        refine bR<|?_
        clear hI
        exact aD<|have H:=H.drs [5,7];have H:=H.frs [3,3,3,3,6,6,6] rfl;X11 ⟨E.to rfl,H,b,hm⟩
       ·refine cs hm (fun L hm=>?_) fun L hm=>?_
        ·refine cB E rfl (wn rfl) rfl rfl (fun w hW=>rA (j:=5) E rfl rfl rfl L rfl O6 E6) fun a E=>?_
         refine fb E rfl (wn rfl) rfl rfl rfl rfl mm1 rfl O7 rfl fun a E=>fn 1 E rfl fun a E=>fbn E (cM c) rfl (wn rfl) rfl rfl rfl rfl m0 rfl U71 rfl jT fun a E=>cE rfl<|have H:=H.nilRow 9 kS;have H:=H.frs [8,8,8,8,8,7,6,8,8] rfl;bd hm fun e5 b4 hm=>aX E (wn rfl) rfl rfl (bP E rfl rfl rfl (ID _)) (Ci H b4)<|?_
         rintro _ w ⟨e6,rfl,H⟩ a E
         refine nt<|?_
         refine ⟨⟨_,_,H,(aB mm5 (aB (t2 mm6) (aL))),(aN)⟩,?_⟩
         refine bR<|?_
         clear hI
         exact aD<|have H:=H.drs [5,7];have H:=H.frs [2,3,3,3,6,6,6] rfl;X11 ⟨E.to rfl,H,b,hm⟩
        ·refine cs hm (fun M hm=>?_) fun M hm=>?_
         ·refine cB E rfl (wn rfl) rfl rfl (fun w hW=>rA (j:=6) E rfl rfl rfl M rfl O6 E6) fun a E=>?_
          refine fb E rfl (wn rfl) rfl rfl rfl rfl mm1 rfl O7 rfl fun a E=>fn 1 E rfl fun a E=>fbn E (cM c) rfl (wn rfl) rfl rfl rfl rfl m0 rfl U71 rfl jT fun a E=>cE rfl<|have H:=H.nilRow 9 kS;have H:=H.frs [8,8,8,8,8,7,6,8,8] rfl;bd hm fun e7 b5 hm=>aX E (wn rfl) rfl rfl (bP E rfl rfl rfl (IC _)) (Em H b5)<|?_
          rintro _ w ⟨e8,rfl,H⟩ a E
          refine nt<|?_
          refine ⟨⟨_,_,H,(aB mm5 (aB (t2 mm6) (aL))),(aN)⟩,?_⟩
          refine bR<|?_
          clear hI
          exact aD<|have H:=H.drs [5,7];have H:=H.frs [2,3,3,3,6,6,6] rfl;X11 ⟨E.to rfl,H,b,hm⟩
         ·refine cs hm (fun N hm=>?_) fun N hm=>?_
          ·refine cB E rfl (wn rfl) rfl rfl (fun w hW=>rA (j:=7) E rfl rfl rfl N rfl O6 E6) fun a E=>?_
           refine fb E rfl (wn rfl) rfl rfl rfl rfl mm1 rfl O7 rfl fun a E=>fn 1 E rfl fun a E=>fbn E (cM c) rfl (wn rfl) rfl rfl rfl rfl m0 rfl U71 rfl jT fun a E=>cE rfl<|have H:=H.nilRow 9 kS;have H:=H.frs [8,8,8,8,8,7,6,8,8] rfl;bd hm fun e9 b6 hm=>aX E (wn rfl) rfl rfl (bP E rfl rfl rfl (IB _)) (En H b6)<|?_
           rintro _ w ⟨f0,rfl,H⟩ a E
           refine nt<|?_
           refine ⟨⟨_,_,H,(aB mm5 (aB (t2 mm6) (aL))),(aN)⟩,?_⟩
           refine bR<|?_
           clear hI
           exact aD<|have H:=H.drs [5,7];have H:=H.frs [2,3,3,3,6,6,6] rfl;X11 ⟨E.to rfl,H,b,hm⟩
          ·refine cs hm (fun O hm=>?_) fun O hm=>?_
           ·refine cB E rfl (wn rfl) rfl rfl (fun w hW=>rA (j:=8) E rfl rfl rfl O rfl O6 E6) fun a E=>?_
            refine fb E rfl (wn rfl) rfl rfl rfl rfl mm1 rfl O7 rfl fun a E=>fn 1 E rfl fun a E=>fbn E (cM c) rfl (wn rfl) rfl rfl rfl rfl m0 rfl U71 rfl jT fun a E=>cE rfl<|have H:=H.nilRow 9 kS;have H:=H.frs [8,8,8,8,8,7,6,8,8] rfl;bd hm fun f1 b7 hm=>aX E (wn rfl) rfl rfl (bP E rfl rfl rfl (HY _)) (Gg H b7)<|?_
            rintro _ w ⟨f2,rfl,H⟩ a E
            refine nt<|?_
            refine ⟨⟨_,_,H,(aB mm5 (aB (t2 mm6) (aL))),(aN)⟩,?_⟩
            refine bR<|?_
            clear hI
            exact aD<|have H:=H.drs [5,7];have H:=H.frs [2,3,3,3,6,6,6] rfl;X11 ⟨E.to rfl,H,b,hm⟩
           ·refine cs hm (fun P hm=>?_) fun P hm=>?_
            ·refine cB E rfl (wn rfl) rfl rfl (fun w hW=>rA (j:=9) E rfl rfl rfl P rfl O6 E6) fun a E=>?_
             refine fb E rfl (wn rfl) rfl rfl rfl rfl mm1 rfl O7 rfl fun a E=>fn 1 E rfl fun a E=>fbn E (cM c) rfl (wn rfl) rfl rfl rfl rfl m0 rfl U71 rfl jT fun a E=>cE rfl<|have H:=H.nilRow 9 kS;have H:=H.frs [8,8,8,8,8,7,6,8,8] rfl;bd hm fun f3 b8 hm=>aX E (wn rfl) rfl rfl (bP E rfl rfl rfl (HX _)) (Cn H b8)<|?_
             rintro _ w ⟨f4,rfl,H⟩ a E
             refine nt<|?_
             refine ⟨⟨_,_,H,(aB mm5 (aB (t2 mm6) (aL))),(aN)⟩,?_⟩
             refine bR<|?_
             clear hI
             exact aD<|have H:=H.drs [5,7];have H:=H.frs [2,3,3,3,6,6,6] rfl;X11 ⟨E.to rfl,H,b,hm⟩
            ·refine cs hm (fun Q hm=>?_) fun Q hm=>?_
             ·refine cB E rfl (wn rfl) rfl rfl (fun w hW=>rA (j:=10) E rfl rfl rfl Q rfl O6 E6) fun a E=>?_
              refine fb E rfl (wn rfl) rfl rfl rfl rfl mm1 rfl O7 rfl fun a E=>fn 1 E rfl fun a E=>fbn E (cM c) rfl (wn rfl) rfl rfl rfl rfl m0 rfl U71 rfl jT fun a E=>cE rfl<|have H:=H.nilRow 9 kS;have H:=H.frs [8,8,8,8,8,7,6,8,8] rfl;bd hm fun f5 b9 hm=>aX E (wn rfl) rfl rfl (bP E rfl rfl rfl (HS _)) (Cj H b9)<|?_
              rintro _ w ⟨f6,f7,rfl,H⟩ a E
              refine nt<|?_
              refine ⟨⟨_,_,H,(aB mm5 (aB (t2 mm6) (aL))),(aN)⟩,?_⟩
              refine bR<|?_
              clear hI
              exact aD<|have H:=H.drs [5,7];have H:=H.frs [2,3,3,3,6,6,6] rfl;X11 ⟨E.to rfl,H,b,hm⟩
             ·exact (bW hm rfl).elim
   ·clear E H hm
    rintro a w ⟨A,B,n,C,D,g,k,l,m,o,t,E,H,e,hm⟩
    unfold iZ at hm
    refine sq<|pr 4 E rfl fun a E=>lb E H 3 rfl rfl rfl rfl rfl rfl rfl U26 rfl fun a E=>pr 1 E rfl fun a E=>nt<|wif E hm rfl (fun hm=>?_) fun hm=>?_
    ·refine wp_seq<|dw [(0,0),(1,0),(2,0),(3,0),(4,0),(5,1),(6,2)] [0,3] [] H (by kernel_rfl) (fun _ _ _ h=>False.elim h.2) fun w W0 hI H=>fbn E [p,q] rfl (wn rfl) rfl rfl rfl rfl m0 rfl U31 rfl dP fun a E=>fn 3 E rfl fun a E=>fbn E [.int .i64 g,.string k,.string l,.int .i64 m,n] rfl (wn rfl) rfl rfl rfl rfl mm1 rfl U48 rfl A9 fun a E=>cE rfl<|bC (i:=1) E H (wn rfl) rfl rfl rfl rfl rfl rfl dP rfl (lN H (e _ u) (e _ x)) fun w H=>nt<|?_
     refine ⟨⟨_,_,H,(aB m0 (aB mm3 (aL))),(aN)⟩,?_⟩
     refine bQ rfl<|?_
     obtain ⟨q39,c5,rfl⟩:=H.rowform (i:=6) rfl
     refine bC (i:=2) E H (wn rfl) rfl rfl rfl rfl rfl rfl A9 rfl rfl fun w H=>nt<|bR<|?_
     clear hI
     refine aD<|wp_ret<|aP<|uX E rfl (dH (i:=1) (us:=[p,q]) H rfl rfl rfl U31 rfl dP) (dH (i:=2) (us:=[.int .i64 g,.string k,.string l,.int .i64 m,(.slice q39 o.length c5)]) H rfl rfl rfl U48 rfl A9)<|have H:=H.thaw (i:=6) rfl;have H:=H.drs [0,0,0,0,0,0];?_
     cases hm
     exact X3 ⟨rfl,H.reads (aA (t1 (e _ u)) (aA (t1 (e _ x)) (aA m0 (fun r hr=>(t1 (e r hr))))))⟩
    ·refine wp_skip<|aD<|wp_seq<|dw [(0,0),(1,0),(2,0),(3,0),(4,0),(5,0),(6,0),(7,0),(8,1),(9,2)] [3] [] H (by kernel_rfl) (fun _ _ _ h=>False.elim h.2) fun w W0 hI H=>fn 3 E rfl fun a E=>fbn E [A,B] rfl (wn rfl) rfl rfl rfl rfl m0 rfl U31 rfl dP fun a E=>fn 3 E rfl fun a E=>fbn E [.int .i64 g,.string k,.string l,.int .i64 m,n] rfl (wn rfl) rfl rfl rfl rfl m0 rfl U48 rfl A9 fun a E=>cE rfl<|?_
     obtain ⟨q41,c6,rfl⟩:=H.rowform (i:=4) rfl
     obtain ⟨q43,c7,rfl⟩:=H.rowform (i:=5) rfl
     refine bC (i:=1) E H (wn rfl) rfl rfl rfl rfl rfl rfl dP rfl rfl fun w H=>nt<|?_
     refine ⟨⟨_,_,H,(aB mm3 (aL)),(aN)⟩,?_⟩
     refine bQ rfl<|?_
     obtain ⟨q45,c8,rfl⟩:=H.rowform (i:=6) rfl
     refine bC (i:=2) E H (wn rfl) rfl rfl rfl rfl rfl rfl A9 rfl rfl fun w H=>nt<|bR<|?_
     clear hI
     refine aD<|wp_ret<|uX E rfl (dH (i:=1) (us:=[(.slice q41 C.length c6),(.slice q43 D.length c7)]) H rfl rfl rfl U31 rfl dP) (dH (i:=2) (us:=[.int .i64 g,.string k,.string l,.int .i64 m,(.slice q45 o.length c8)]) H rfl rfl rfl U48 rfl A9)<|have H:=H.thaw (i:=4) rfl;have H:=H.thaw (i:=4) rfl;have H:=H.thaw (i:=4) rfl;have H:=H.drs [0,0,0,0];?_
     cases hm
     exact X3 ⟨rfl,H.reads (aA mm2 (aA mm1 (aA m0 (fun r hr=>(t3 (e r hr))))))⟩

def sN(g:List cH)(x1:aW):Nat→(List cR)→Int→(List aF)→(List aI)→Option (aW×(List cR)×Int×Int)
  | 0,_,_,_,_=>none
  | j+1,d,c,e,f=>
    if (decide (c < (g.length:Int)))=true then ((idx g c).bind fun i=>(F6 (⟨e,f⟩:aW) i.Part).bind fun b=>if (b.2.Err != 0)=true then (some (x1,[],b.2.Err,c)) else ((ck (d.length+([b.2]:List cR).length ≤ LIM)).bind fun k=>sN g x1 j (d ++ ([b.2]:List cR)) (IntKind.i64.wrap (c+1)) b.1.Nodes b.1.Turns)) else (some ((⟨e,f⟩:aW),d,0,0))
def xT(x1:aW)(b:List cH):Option (aW×(List cR)×Int×Int):=
  sN b x1 (((b.length:Int) - 0:Int).toNat+1) [] 0 x1.Nodes x1.Turns
theorem P9{x1:aW}{q s I:Value}{u:List cH}(H:Sep w (Fo) rs)(m:rSl aG q x1.Nodes ∈ rs)(n:rSl aK s x1.Turns ∈ rs)(B:rSl cF I u ∈ rs)(M:x4 Tryz.prog ∈ rs){r:aW×(List cR)×Int×Int}(hm:xT x1 u=some r) :
    Calls Tryz.prog 41 [.agg #[q,s],I].toArray w (Ret fun v w'=>∃ N O P,.tuple #[.agg #[N,O],P,.int .i64 r.2.2.1,.int .i64 r.2.2.2]=v∧Sep w' (Row 48 bE P r.2.1::Fo) (rSl aG N r.1.Nodes::rSl aK O r.1.Turns::rs)):=by
 unfold xT at hm
 refine ent Tryz.func41 rfl Tryz.ntmps41 rfl rfl fun a E=>sq<|bS E H (wn rfl) rfl rfl rfl rfl rfl fun C w a H E=>al E H rfl rfl rfl rfl lR fun D w a H E=>pr 3 E rfl fun a E=>nx<|sv E rfl rfl rfl (cD (i:=1) (us:=[q,s]) E H rfl rfl rfl rfl U31 rfl dP) fun a E=>al E H rfl rfl rfl rfl lR fun F w a H E=>bC (i:=0) E H (wn rfl) rfl rfl rfl rfl rfl rfl dP rfl (lN H m n) fun w H=>?_
 refine nx<|pr 1 E rfl fun a E=>nt<|wp_seq<|sq<|pr 1 E rfl fun a E=>sv E rfl rfl rfl (dB E H rfl rfl B U40) fun a E=>pr 1 E rfl fun a E=>nt<|?_
 refine wp_block<|cA (fun t a w=>∃ y g j z A o p f,Env 44 a [(2,pt C 0),(4,pt D 0),(8,pt F 0),(9,y),(15,I),(16,.int .i64 (u.length:Int)),(17,.int .i64 A)]∧Sep w (Blk C 31 [q,s]::Blk D 31 [.slice none 0 0,.slice none 0 0]::Blk F 31 [g,j]::Row 48 bE y z::Fo) f∧(∀ r,r ∈ rs→r ∈ f)∧rSl aG g o ∈ f∧rSl aK j p ∈ f∧sN u x1 t z A o p=some r) (((u.length:Int) - 0:Int).toNat+1) ?_ ?_
 ·exact have H:=H.nilRow 48 bE;have H:=H.frs [0,1,2,3] rfl;X8 ⟨E.to rfl,H,Y0,m,n,hm⟩
 ·clear E H hm
  rintro t a w ⟨y,g,j,z,A,o,p,f,E,H,c,k,l,hm⟩
  cases t with
  | zero=>exact (bW hm rfl).elim
  | succ t=>
   unfold sN at hm
   refine sq<|pr 1 E rfl fun a E=>nt<|wp_seq<|wif E hm rfl (fun hm=>?_) fun hm=>?_
   ·refine wp_skip<|aD<|wp_seq<|wp_block<|sq<|pr 1 E rfl fun a E=>bd hm fun Q J hm=>dF E H (wn rfl) rfl rfl rfl rfl rfl (c _ B) U40 G5 J fun q26 a H E=>ldf wJ E H rfl rfl rfl rfl rfl m0 U73 rfl G5 fun a E=>?_
    refine al E H rfl rfl rfl rfl Pk fun U w a H E=>pr 1 E rfl fun a E=>bC (i:=0) E H (wn rfl) rfl rfl rfl rfl rfl rfl G5 rfl rfl fun w H=>nx<|sv E rfl rfl rfl (cD (i:=3) (us:=[g,j]) E H rfl rfl rfl rfl U31 rfl dP) fun a E=>pr 1 E rfl fun a E=>sv E rfl rfl rfl (cD (i:=0) (us:=(cM Q.Part)) E H rfl rfl rfl rfl U71 rfl jT) fun a E=>bd hm fun b K hm=>cJ E rfl rfl rfl rfl rfl HP (Sj (x1:=(⟨o,p⟩:aW)) H (t1 k) (t1 l) (t1 (c _ M)) K)<|?_
    rintro _ w ⟨R,S,T,rfl,H⟩ a E
    refine pr 3 E rfl fun a E=>al E H rfl rfl rfl rfl lR fun V w a H E=>al E H rfl rfl rfl rfl DN fun W w a H E=>bC (i:=1) E H (wn rfl) rfl rfl rfl rfl rfl rfl dP rfl (lN H m0 mm1) fun w H=>bC (i:=0) E H (wn rfl) rfl rfl rfl rfl rfl rfl A9 rfl (Gw H mm2) fun w H=>nt<|wp_seq<|sq<|pr 1 E rfl fun a E=>?_
    refine lb E H 0 rfl rfl rfl rfl rfl rfl rfl U26 rfl fun a E=>pr 1 E rfl fun a E=>nt<|wif E hm rfl (fun hm=>?_) fun hm=>?_
    ·refine wp_seq<|dw [(0,0),(1,0),(2,0),(3,0),(4,1),(5,1),(6,1),(7,2)] [0,3] [] H (by kernel_rfl) (fun _ _ _ h=>False.elim h.2) fun w W0 hI H=>fbn E [q,s] rfl (wn rfl) rfl rfl rfl rfl mm1 rfl U31 rfl dP fun a E=>fn 1 E rfl fun a E=>fb E rfl (wn rfl) rfl rfl rfl rfl m0 rfl U26 rfl fun a E=>fn 1 E rfl fun a E=>cE rfl<|bC (i:=4) E H (wn rfl) rfl rfl rfl rfl rfl rfl dP rfl (lN H (t4 (c _ m)) (t4 (c _ n))) fun w H=>nt<|?_
     refine ⟨⟨_,_,H,(aB m0 (aB mm3 (aL))),(aN)⟩,?_⟩
     refine cE rfl<|pr 1 E rfl fun a E=>nt<|?_
     refine ⟨⟨_,_,H,(aB m0 (aB mm3 (aL))),(aN)⟩,?_⟩
     refine cE rfl<|pr 1 E rfl fun a E=>nt<|?_
     refine ⟨⟨_,_,H,(aB m0 (aB mm3 (aL))),(aN)⟩,?_⟩
     refine bQ rfl<|pr 1 E rfl fun a E=>nt<|bR<|?_
     clear hI
     refine aD<|wp_ret<|aP<|bU<|aP<|aP<|bU<|aP<|Xc E rfl (dH (i:=4) (us:=[q,s]) H rfl rfl rfl U31 rfl dP) (rvT rfl) (rvT rfl) (rvT rfl)<|?_
     refine have H:=H.nilRow 48 bE;have H:=H.drs [1,1,1,1,1,1,1];?_
     cases hm
     exact X3 ⟨rfl,H.reads (aA (t4 (c _ m)) (aA (t4 (c _ n)) (fun r hr=>(t4 (c r hr)))))⟩
    ·refine wp_skip<|aD<|sq<|sv E rfl rfl rfl (cD (i:=1) (us:=[R,S]) E H rfl rfl rfl rfl U31 rfl dP) fun a E=>bC (i:=5) E H (wn rfl) rfl rfl rfl rfl rfl rfl dP rfl (lN H m0 mm1) fun w H=>nt<|wp_region_lit<|pr 1 E rfl fun a E=>sv E rfl rfl rfl (cD (i:=0) (us:=(Ae b.2 T)) E H rfl rfl rfl rfl U48 rfl A9) fun a E=>?_
     obtain ⟨q35,G,rfl⟩:=H.slform mm2
     refine sT (e:=48) (d:=bE) (cs:=[.int .i64 b.2.Err,.string b.2.Path,.string b.2.Data,.int .i64 b.2.Version,(.slice q35 b.2.Names.length G)]) (xs:=[b.2]) E H (wn rfl) rfl rfl rfl (E.evs rfl) (by kernel_rfl) rfl (fun ok hr=>(Rows.single (d:=bE) (cs:=[.int .i64 b.2.Err,.string b.2.Path,.string b.2.Data,.int .i64 b.2.Version,(.slice q35 b.2.Names.length G)]) (x:=b.2) (Fr (hr _ mm2)))) fun X w a H E=>bk hm fun L hm=>eU (i:=6) E H (wn rfl) rfl rfl rfl rfl rfl rfl (lD m0) U27 IU rfl L rfl fun Y w a H E=>pr 1 E rfl fun a E=>wpList_nil<|bY<|aD<|wp_region_lit<|pr 2 E rfl fun a E=>?_
     exact nt<|have H:=H.drs [0,0,0];⟨t,Nat.lt_succ_self t,X8 ⟨E.to rfl,H,(Y5 c),mm1,mm2,hm⟩⟩
   ·refine wp_exit<|bH<|bH<|dZ<|aD<|sq<|sv E rfl rfl rfl (cD (i:=2) (us:=[g,j]) E H rfl rfl rfl rfl U31 rfl dP) fun a E=>pr 1 E rfl fun a E=>bC (i:=1) E H (wn rfl) rfl rfl rfl rfl rfl rfl dP rfl (lN H k l) fun w H=>?_
    refine pr 3 E rfl fun a E=>nt<|wp_ret<|Xc E rfl (dH (i:=1) (us:=[g,j]) H rfl rfl rfl U31 rfl dP) (rvT rfl) (rvT rfl) (rvT rfl)<|have H:=H.drs [0,0,0];?_
    cases hm
    exact X3 ⟨rfl,H.reads (aA k (aA l (c)))⟩

def vD(x1:Int):Option Bool:=
  some (x1 != x1)
theorem I6{x1:Int}(H:Sep w (Fo) rs){r:Bool}(hm:vD x1=some r) :
    Calls Tryz.prog 245 [.int .i64 x1].toArray w (Ret fun v w'=>.bool r=v∧Sep w' (Fo) (rs)):=by
 unfold vD at hm
 refine ent Tryz.func245 rfl Tryz.ntmps245 rfl rfl fun a E=>sq<|pr 1 E rfl fun a E=>nx<|pr 4 E rfl fun a E=>nt<|wp_ret<|bB E rfl rfl<|?_
 cases hm
 exact ⟨rfl,H.reads Y0⟩

def yB(x1:Int)(b:Int):Option Int:=
  (vD x1).bind fun d=>(vD b).bind fun c=>if d=true then (if c=true then (some (0)) else (some ((-1)))) else (if c=true then (some (1)) else (if (decide (x1 < b))=true then (some ((-1))) else (if (decide (x1 > b))=true then (some (1)) else (some (0)))))
theorem Z2{x1 b:Int}(H:Sep w (Fo) rs){r:Int}(hm:yB x1 b=some r) :
    Calls Tryz.prog 196 [.int .i64 x1,.int .i64 b].toArray w (Ret fun v w'=>.int .i64 r=v∧Sep w' (Fo) (rs)):=by
 unfold yB at hm
 refine ent Tryz.func196 rfl Tryz.ntmps196 rfl rfl fun a E=>sq<|pr 1 E rfl fun a E=>nx<|pr 1 E rfl fun a E=>bd hm fun e c hm=>xk E rfl rfl rfl rfl rfl Xj (I6 H c) fun w H a E=>pr 1 E rfl fun a E=>nx<|?_
 refine pr 1 E rfl fun a E=>bd hm fun f d hm=>xk E rfl rfl rfl rfl rfl Xj (I6 H d) fun w H a E=>pr 1 E rfl fun a E=>nt<|wp_seq<|sq<|pr 1 E rfl fun a E=>nt<|wif E hm rfl (fun hm=>?_) fun hm=>?_
 ·refine wp_seq<|sq<|pr 1 E rfl fun a E=>nt<|wif E hm rfl (fun hm=>?_) fun hm=>?_
  ·refine sq<|pr 1 E rfl fun a E=>nt<|wp_ret<|aP<|aP<|bB E rfl rfl<|?_
   cases hm
   exact ⟨rfl,H.reads Y0⟩
  ·refine wp_skip<|aD<|sq<|pr 1 E rfl fun a E=>nt<|wp_ret<|aP<|bB E rfl rfl<|?_
   cases hm
   exact ⟨rfl,H.reads Y0⟩
 ·refine wp_skip<|aD<|wp_seq<|sq<|pr 1 E rfl fun a E=>nt<|wif E hm rfl (fun hm=>?_) fun hm=>?_
  ·refine sq<|pr 1 E rfl fun a E=>nt<|wp_ret<|aP<|bB E rfl rfl<|?_
   cases hm
   exact ⟨rfl,H.reads Y0⟩
  ·refine wp_skip<|aD<|wp_seq<|sq<|pr 3 E rfl fun a E=>nt<|wif E hm rfl (fun hm=>?_) fun hm=>?_
   ·refine sq<|pr 1 E rfl fun a E=>nt<|wp_ret<|aP<|bB E rfl rfl<|?_
    cases hm
    exact ⟨rfl,H.reads Y0⟩
   ·refine wp_skip<|aD<|wp_seq<|sq<|pr 3 E rfl fun a E=>nt<|wif E hm rfl (fun hm=>?_) fun hm=>?_
    ·refine sq<|pr 1 E rfl fun a E=>nt<|wp_ret<|aP<|bB E rfl rfl<|?_
     cases hm
     exact ⟨rfl,H.reads Y0⟩
    ·refine wp_skip<|aD<|sq<|pr 1 E rfl fun a E=>nt<|wp_ret<|bB E rfl rfl<|?_
     cases hm
     exact ⟨rfl,H.reads Y0⟩

def zZ(x1:aC)(x3:Int):Option Int:=
  (yB x1.Num x3).bind fun b=>some (b)
theorem I9{x1:aC}{c:Value}{x3:Int}(H:Sep w (Fo) rs){r:Int}(hm:zZ x1 x3=some r) :
    Calls Tryz.prog 131 [.agg (nC x1 c).toArray,.int .i64 x3].toArray w (Ret fun v w'=>.int .i64 r=v∧Sep w' (Fo) (rs)):=by
 unfold zZ at hm
 refine ent Tryz.func131 rfl Tryz.ntmps131 rfl rfl fun a E=>sq<|bS E H (wn rfl) rfl rfl rfl rfl rfl fun d w a H E=>pr 1 E rfl fun a E=>nx<|pr 1 E rfl fun a E=>lb E H 0 rfl rfl rfl rfl rfl rfl rfl U2 rfl fun a E=>pr 1 E rfl fun a E=>bd hm fun e b hm=>?_
 refine xk E rfl rfl rfl rfl rfl HJ (Z2 H b) fun w H a E=>pr 1 E rfl fun a E=>nt<|wp_ret<|bB E rfl rfl<|have H:=H.drop 0;?_
 cases hm
 exact ⟨rfl,H.reads Y0⟩

def dD(c:List aC)(x3:Int):Nat→Int→Int→Option (Int×Bool)
  | 0,_,_=>none
  | e+1,b,d=>
    if (decide (b < d))=true then ((idx c (IntKind.i64.wrap (rM .u64 (IntKind.u64.wrap (IntKind.i64.wrap (b+d))) 1))).bind fun j=>(zZ j x3).bind fun f=>if (decide (f < 0))=true then (dD c x3 e (IntKind.i64.wrap ((IntKind.i64.wrap (rM .u64 (IntKind.u64.wrap (IntKind.i64.wrap (b+d))) 1))+1)) d) else (dD c x3 e b (IntKind.i64.wrap (rM .u64 (IntKind.u64.wrap (IntKind.i64.wrap (b+d))) 1)))) else (if (decide (b < (c.length:Int)))=true then ((idx c b).bind fun g=>(zZ g x3).bind fun i=>some (b,i == 0)) else (some (b,false)))
def dI(b:List aC)(x3:Int):Option (Int×Bool):=
  dD b x3 (((b.length:Int) - 0:Int).toNat+1) 0 (b.length:Int)
theorem pV{j:Value}{e:List aC}{x3:Int}(H:Sep w (Row 193 aO j e::Fo) rs){r:Int×Bool}(hm:dI e x3=some r) :
    Calls Tryz.prog 130 [j,.int .i64 x3,.func (.func 131) #[] #[]].toArray w (Ret fun v w'=>.tuple #[.int .i64 r.1,.bool r.2]=v∧Sep w' (Row 193 aO j e::Fo) (rs)):=by
 unfold dI at hm
 refine ent Tryz.func130 rfl Tryz.ntmps130 rfl rfl fun a E=>sq<|pr 2 E rfl fun a E=>nx<|pr 1 E rfl fun a E=>sv E rfl rfl rfl (lC (i:=0) E H rfl rfl rfl U76) fun a E=>pr 1 E rfl fun a E=>nx<|pr 3 E rfl fun a E=>?_
 refine nt<|wp_seq<|wp_block<|cA (fun c a w=>∃ u x l,Env 49 a [(0,j),(1,.int .i64 x3),(2,.func (.func 131) #[] #[]),(8,.int .i64 (e.length:Int)),(9,.int .i64 u),(10,.int .i64 x)]∧Sep w (Row 193 aO j e::Fo) l∧(∀ r,r ∈ rs→r ∈ l)∧dD e x3 c u x=some r) (((e.length:Int) - 0:Int).toNat+1) ?_ ?_
 ·exact X3 ⟨E.to rfl,H,Y0,hm⟩
 ·clear E H hm
  rintro c a w ⟨u,x,l,E,H,g,hm⟩
  cases c with
  | zero=>exact (bW hm rfl).elim
  | succ c=>
   unfold dD at hm
   refine wp_seq<|sq<|pr 3 E rfl fun a E=>nt<|wif E hm rfl (fun hm=>?_) fun hm=>?_
   ·refine wp_skip<|aD<|wp_block<|sq<|pr 4 E rfl fun a E=>sv E rfl rfl rfl (T5 E rfl rfl rfl (by decide)) fun a E=>pr 2 E rfl fun a E=>nx<|pr 3 E rfl fun a E=>?_
    refine bd hm fun A m hm=>?_
    obtain ⟨B,C,n⟩:=H.rowformNE (i:=0) rfl m
    refine sv E rfl rfl rfl (dL (d:=aO) E n rfl rfl rfl rfl U76 uZ m) fun a E=>Fk (i:=0) (k:=0) (s:=3) E H n (wn rfl) rfl rfl rfl rfl rfl m rfl Gy rfl uZ fun D a H E=>?_
    obtain ⟨_,hcs⟩:=H.rd (.head _)
    obtain ⟨p,rfl,-⟩:=dY hcs
    clear hcs
    refine have H:=H.derive1 m0 (rSl aU p A.Events) (fun ok h=>iG h);?_
    replace E:Env 49 a ((28,.agg (nC A p).toArray)::_):=E
    refine pr 1 E rfl fun a E=>bd hm fun F y hm=>aX E (wn rfl) rfl rfl (bP E rfl rfl rfl (Jl _)) (I9 H y)<|?_
    rintro _ w ⟨rfl,H⟩ a E
    refine pr 1 E rfl fun a E=>nt<|wif E hm rfl (fun hm=>?_) fun hm=>?_
    ·exact wp_region_lit<|pr 3 E rfl fun a E=>wpList_nil<|bY<|aD<|⟨c,Nat.lt_succ_self c,X3 ⟨E.to rfl,H,(Y2 g),hm⟩⟩
    ·exact wp_region_lit<|pr 2 E rfl fun a E=>wpList_nil<|bY<|aD<|⟨c,Nat.lt_succ_self c,X3 ⟨E.to rfl,H,(Y2 g),hm⟩⟩
   ·refine wp_exit<|bH<|bH<|dZ<|aD<|sq<|pr 5 E rfl fun a E=>cs hm (fun b hm=>?_) fun b hm=>?_
    ·refine pk 3 E (kc 39 rfl b) rfl fun a E=>bd hm fun q f hm=>?_
     obtain ⟨G,I,o⟩:=H.rowformNE (i:=0) rfl f
     refine aQ E (ws' (d:=39) E rfl rfl rfl rfl b) rfl rfl (dL (d:=aO) E o rfl rfl rfl rfl U76 uZ f) fun a E=>Fk (i:=0) (k:=0) (s:=3) E H o (ws' (d:=39) E rfl rfl rfl rfl b) rfl rfl rfl rfl rfl f rfl Gy rfl uZ fun J a H E=>?_
     obtain ⟨_,hcs⟩:=H.rd (.head _)
     obtain ⟨t,rfl,-⟩:=dY hcs
     clear hcs
     refine have H:=H.derive1 m0 (rSl aU t q.Events) (fun ok h=>iG h);?_
     replace E:Env 49 a ((44,.agg (nC q t).toArray)::_):=E
     refine pk 1 E (kc 39 rfl b) rfl fun a E=>bd hm fun K z hm=>aX E (ws' (d:=39) E rfl rfl rfl rfl b) rfl rfl (bP E rfl rfl rfl (Jl _)) (I9 H z)<|?_
     rintro _ w ⟨rfl,H⟩ a E
     refine pk 4 E (kc 39 rfl b) rfl fun a E=>nt<|wp_ret<|iE E rfl rfl rfl<|?_
     cases hm
     exact ⟨rfl,H.reads (Y2 g)⟩
    ·refine pk 11 E (kc 39 rfl b) rfl fun a E=>nt<|wp_ret<|iE E rfl rfl rfl<|?_
     cases hm
     exact ⟨rfl,H.reads g⟩

def rE(c:aJ)(d:aC)(b:(List aC)):Option (Bool×(List aC)):=
  if c.Deep=true then (some (decide ((d.Events.length:Int) < 7),b)) else (some (false,b))
def rF(c:aJ)(b:aC)(d:Int)(e:ByteArray)(f:List aC)(g:Int)(i:Bool):Option (Bool×(List aC)):=
  if i=true then ((ck ((({ b with Count:=IntKind.i64.wrap (b.Count+1) }:aC).Events).length ≤ LIM)).bind fun j=>(ck ((({ b with Count:=IntKind.i64.wrap (b.Count+1) }:aC).Events).length+([(⟨IntKind.i64.wrap (b.Count+1),d,e,c.Num⟩:bK)]:List bK).length ≤ LIM)).bind fun k=>rE c b ((f.set g.toNat ({ b with Count:=IntKind.i64.wrap (b.Count+1) }:aC)).set g.toNat ({ ({ b with Count:=IntKind.i64.wrap (b.Count+1) }:aC) with Events:=(({ b with Count:=IntKind.i64.wrap (b.Count+1) }:aC).Events) ++ ([(⟨IntKind.i64.wrap (b.Count+1),d,e,c.Num⟩:bK)]:List bK) }:aC))) else (rE c b f)
def oL(c:aJ)(b:aC)(f:List aC)(g:Int)(d:Int)(e:ByteArray):Option (Bool×(List aC)):=
  if (decide ((b.Events.length:Int) < 8))=true then (rF c b d e f g (decide (b.Count < 281474976710656))) else (rF c b d e f g false)
def zG(d:List aC)(e:Int)(c:aC)(b:aJ)(f:Int)(g:ByteArray):Option (Bool×(List aC)):=
  if ((c.Events.length:Int) == 7)=true then (oL b c d e 4 b.Path) else (oL b c d e f g)
theorem Lm{m:Value}{F V X:Nat}{t:List aC}{s G:Int}{b:aC}{c:aJ}{I:ByteArray}(j:idx t s=some b)(l:m= .slice (some ⟨F,0,none⟩) V X)(H:Sep w (Row 193 aO m t::Fo) rs){r:Bool×(List aC)}(hm:zG t s b c G I=some r) :
    Calls Tryz.prog 259 [.pointer (some ⟨F,s.toNat * 3,none⟩),.agg (eG c).toArray,.int .i64 G,.string I].toArray w (Ret fun v w'=>.bool r.1=v∧Sep w' (Row 193 aO m r.2::Fo) (rs)):=by
 unfold zG at hm
 refine ent Tryz.func259 rfl Tryz.ntmps259 rfl rfl fun a E=>sq<|bS E H (wn rfl) rfl rfl rfl rfl rfl fun o w a H E=>pr 1 E rfl fun a E=>nx<|pr 3 E rfl fun a E=>y5 (i:=1) (k:=2) E H l (wn rfl) rfl rfl rfl rfl rfl j rfl U32 rfl fun Y a H E=>?_
 obtain ⟨_,hcs⟩:=H.rd (.head _)
 obtain ⟨N,rfl,-⟩:=dY hcs
 clear hcs
 refine have H:=H.derive1 m0 (rSl aU N b.Events) (fun ok h=>iG h);?_
 replace E:Env 65 a ((14,N)::_):=E
 refine sv E rfl rfl rfl (dB E H rfl rfl m0 U32) fun a E=>pr 1 E rfl fun a E=>nt<|wp_seq<|dw [(0,0),(1,0),(2,0),(3,0),(4,0),(5,0),(6,0),(7,0),(8,0),(9,0),(10,1),(11,2)] [0,1] [] H (by kernel_rfl) (fun _ _ _ h=>False.elim h.2) fun w W0 hI H=>fn 3 E rfl fun a E=>cB E rfl (wn rfl) rfl rfl (fun w hW=>Ru (d:=aO) (k:=1) (u:=.int .i64 b.Count) E l j mm1 (fun w ok cs h=>by obtain ⟨m,rfl,-⟩:=dY h;rfl) rfl rfl U2 rfl hW) fun a E=>?_
 refine fn 4 E rfl fun a E=>fb E rfl (wn rfl) rfl rfl rfl rfl m0 rfl U2 rfl fun a E=>cB E rfl (wn rfl) rfl rfl (fun w hW=>(cN E rfl (E.evs rfl) (v:=.agg #[.int .i64 (IntKind.i64.wrap (b.Count+1)),.int .i64 G,.string I,.int .i64 c.Num]) (by kernel_rfl))) fun a E=>?_
 refine cE rfl<|al E H rfl rfl rfl rfl Vb fun p w a H E=>nt<|?_
 refine ⟨⟨_,_,H,(aB mm1 (aB mm2 (aL))),(aN)⟩,?_⟩
 refine bQ rfl<|bC (i:=0) E H (wn rfl) rfl rfl rfl rfl rfl rfl sB rfl rfl fun w H=>nt<|bR<|?_
 clear hI
 refine aD<|aT (fun a w=>∃ f g y,Env 65 a [(0,.pointer (some ⟨F,s.toNat * 3,none⟩)),(5,pt o 0),(9,.int .i64 (b.Events.length:Int)),(10,pt p 0)]∧Sep w (Row 193 aO m t::Blk o 39 (eG c)::Blk p 50 [.int .i64 (IntKind.i64.wrap (b.Count+1)),.int .i64 f,.string g,.int .i64 c.Num]::Fo) y∧(∀ r,r ∈ rs→r ∈ y)∧oL c b t s f g=some r) ?_ ?_
 ·refine sq<|pr 2 E rfl fun a E=>nt<|wif E hm rfl (fun hm=>?_) fun hm=>?_
  ·refine dw [(0,0),(1,0),(2,0),(3,1),(4,2),(5,2)] [1] [] H (by kernel_rfl) (fun _ _ _ h=>False.elim h.2) fun w W0 hI H=>fn 1 E rfl fun a E=>fb E rfl (wn rfl) rfl rfl rfl rfl m0 rfl U9 rfl fun a E=>fn 1 E rfl fun a E=>cE rfl<|bC (i:=0) E H (wn rfl) rfl rfl rfl rfl rfl rfl sz3 rfl rfl fun w H=>nt<|?_
   refine ⟨⟨_,_,H,(aB mm1 (aL)),(aN)⟩,?_⟩
   refine bQ rfl<|pr 1 E rfl fun a E=>nt<|bQ rfl<|bC (i:=0) E H (wn rfl) rfl rfl rfl rfl rfl rfl sz9 rfl rfl fun w H=>nt<|bR<|?_
   clear hI
   exact aD<|have H:=H.frs [0,1,2] rfl;X3 ⟨E.to rfl,H,(Y2 Y0),hm⟩
  ·exact wp_skip<|aD<|have H:=H.frs [0,1,2] rfl;X3 ⟨E.to rfl,H,(Y2 Y0),hm⟩
 ·clear E H hm
  rintro a w ⟨f,g,y,E,H,J,hm⟩
  unfold oL at hm
  refine aT (fun a w=>∃ K z,Env 65 a [(5,pt o 0),(9,.int .i64 (b.Events.length:Int))]∧Sep w (Blk o 39 (eG c)::Row 193 aO m K::Fo) z∧(∀ r,r ∈ rs→r ∈ z)∧rE c b K=some r) ?_ ?_
  ·refine aT (fun a w=>∃ L A,Env 65 a [(0,.pointer (some ⟨F,s.toNat * 3,none⟩)),(5,pt o 0),(9,.int .i64 (b.Events.length:Int)),(10,pt p 0),(40,.bool L)]∧Sep w (Row 193 aO m t::Blk o 39 (eG c)::Blk p 50 [.int .i64 (IntKind.i64.wrap (b.Count+1)),.int .i64 f,.string g,.int .i64 c.Num]::Fo) A∧(∀ r,r ∈ rs→r ∈ A)∧rF c b f g t s L=some r) ?_ ?_
   ·refine wp_region_lit<|pr 3 E rfl fun a E=>cs hm (fun n hm=>?_) fun n hm=>?_
    ·refine pk 3 E (kc 34 rfl n) rfl fun a E=>y5 (i:=0) (k:=1) E H l (ws' (d:=34) E rfl rfl rfl rfl n) rfl rfl rfl rfl rfl j rfl U2 rfl fun Z a H E=>?_
     obtain ⟨_,hcs⟩:=H.rd (.head _)
     obtain ⟨Q,rfl,-⟩:=dY hcs
     clear hcs
     refine have H:=H.derive1 m0 (rSl aU Q b.Events) (fun ok h=>iG h);?_
     replace E:Env 65 a ((38,.int .i64 b.Count)::_):=E
     exact pk 2 E (kc 34 rfl n) rfl fun a E=>nt<|⟨_,_,E.to rfl,H,(Y2 J),hm⟩
    ·exact pk 6 E (kc 34 rfl n) rfl fun a E=>nt<|⟨_,_,E.to rfl,H,J,hm⟩
   ·clear E H hm
    rintro a w ⟨L,A,E,H,q,hm⟩
    unfold rF at hm
    refine wif E hm rfl (fun hm=>?_) fun hm=>?_
    ·refine sq<|pr 3 E rfl fun a E=>y5 (i:=0) (k:=1) E H l (wn rfl) rfl rfl rfl rfl rfl j rfl U2 rfl fun b0 a H E=>?_
     obtain ⟨_,hcs⟩:=H.rd (.head _)
     obtain ⟨R,rfl,-⟩:=dY hcs
     clear hcs
     refine have H:=H.derive1 m0 (rSl aU R b.Events) (fun ok h=>iG h);?_
     replace E:Env 65 a ((44,.int .i64 b.Count)::_):=E
     refine pr 3 E rfl fun a E=>A2 (i:=0) (k:=1) (us:=[.int .i64 (IntKind.i64.wrap (b.Count+1))]) (y':=({ b with Count:=IntKind.i64.wrap (b.Count+1) }:aC)) E H l (wn rfl) rfl rfl rfl rfl rfl rfl j rfl sz2 rfl (fun ok cs hr h=>by obtain ⟨m,rfl,g1⟩:=dY h;exact lE (x:=({ b with Count:=IntKind.i64.wrap (b.Count+1) }:aC)) g1) fun w H=>nt<|bk hm fun B hm=>bk hm fun C hm=>?_
     have hI:eK [Blk p 50 [.int .i64 (IntKind.i64.wrap (b.Count+1)),.int .i64 f,.string g,.int .i64 c.Num]] [] { w with drawn:=w.drawn+1 }:=⟨_,_,H.kept (Kp.drawn _ w _),(aB mm2 (aL)),(aN)⟩
     refine lZ _ (.go 0 0 (.go 1 0 (.go 2 0 (.go 3 0 (.go 6 0 (.alt 4 (.alt 5 (.go 7 1 (.go 8 1 (.go 9 2 (.go 10 2 (.go 11 2 .nil))))) 7 (.go 5 1 (.go 8 1 (.go 9 2 (.go 10 2 (.go 11 2 .nil)))))) 7 (.go 4 1 (.go 5 1 (.go 8 1 (.go 9 2 (.go 10 2 (.go 11 2 .nil)))))))))))) [9,10,11] mI (by kernel_rfl) (fun _ _ _ h=>False.elim h.2) hI<|have H:=H.kept (Kp.drawn _ w (w.drawn+1));?_
     generalize ({ w with drawn:=w.drawn+1 }:World)=w at H hI ⊢
     replace hI:∃ W,eK [Blk p 50 [.int .i64 (IntKind.i64.wrap (b.Count+1)),.int .i64 f,.string g,.int .i64 c.Num]] [] W:=⟨_,hI⟩
     obtain ⟨W0,hI⟩:=hI
     refine aZ E rfl (wn rfl) rfl rfl (fun w hW=>(bD E rfl rfl)) fun a E=>aZ E rfl (wn rfl) rfl rfl (fun w hW=>(bD E rfl rfl)) fun a E=>aZ E rfl (wn rfl) rfl rfl (fun w hW=>(wE E rfl rfl)) fun a E=>aZ E rfl (wn rfl) rfl rfl (fun w hW=>lB E rfl rfl (v:=.pointer (some ⟨F,s.toNat * 3+2,none⟩)) (Nt _ _)) fun a E=>aZ E rfl (wn rfl) rfl rfl (fun w hW=>gK E rfl rfl (z7 (us:=[.int .i64 (IntKind.i64.wrap (b.Count+1)),.int .i64 f,.string g,.int .i64 c.Num]) m0 rfl U50 rfl sB w hW)) fun a E=>?_
     refine mS rfl rfl ?_ ?_
     ·refine y5 (i:=0) (k:=2) E H l (wn rfl) rfl rfl rfl rfl rfl (wI j) rfl U32 rfl fun b1 a H E=>?_
      obtain ⟨_,hcs⟩:=H.rd (.head _)
      obtain ⟨O,rfl,-⟩:=dY hcs
      clear hcs
      refine have H:=H.derive1 m0 (rSl aU O (({ b with Count:=IntKind.i64.wrap (b.Count+1) }:aC).Events)) (fun ok h=>iG h);?_
      replace E:Env 65 a ((52,O)::_):=E
      refine nt<|?_
      refine ⟨⟨_,_,H,(aB mm2 (aL)),(aN)⟩,?_⟩
      refine mS rfl rfl ?_ ?_
      ·refine aX E (wn rfl) rfl rfl (cG E rfl rfl (Fv _)) (fG H m0 B) fun b2 w H a E=>nt<|?_
       refine ⟨⟨_,_,H,(aB mm3 (aL)),(aN)⟩,?_⟩
       refine cP rfl<|sT (e:=50) (d:=aU) (cs:=[.int .i64 (IntKind.i64.wrap (b.Count+1)),.int .i64 f,.string g,.int .i64 c.Num]) (xs:=[(⟨IntKind.i64.wrap (b.Count+1),f,g,c.Num⟩:bK)]) E H (wn rfl) rfl rfl rfl (E.evs rfl) (by kernel_rfl) rfl (fun ok hr=>(Rows.single (d:=aU) (cs:=[.int .i64 (IntKind.i64.wrap (b.Count+1)),.int .i64 f,.string g,.int .i64 c.Num]) (x:=(⟨IntKind.i64.wrap (b.Count+1),f,g,c.Num⟩:bK)) zO)) fun b3 w a H E=>nt<|?_
       refine ⟨⟨_,_,H,(aB mm3 (aL)),(aN)⟩,?_⟩
       refine cP rfl<|eU (i:=0) E H (wn rfl) rfl rfl rfl rfl rfl rfl (lD m0) U32 Jn rfl C rfl fun b4 w a H E=>nt<|?_
       refine ⟨⟨_,_,H,(aB mm3 (aL)),(aN)⟩,?_⟩
       refine dA rfl<|pr 1 E rfl fun a E=>nt<|dA rfl<|pr 1 E rfl fun a E=>nt<|dA rfl<|?_
       obtain ⟨q70,S,rfl⟩:=H.rowform (i:=0) rfl
       refine have H:=H.thaw (i:=0) rfl;A2 (i:=0) (k:=2) (us:=[(.slice q70 ((({ b with Count:=IntKind.i64.wrap (b.Count+1) }:aC).Events) ++ ([(⟨IntKind.i64.wrap (b.Count+1),f,g,c.Num⟩:bK)]:List bK)).length S)]) (y':=({ ({ b with Count:=IntKind.i64.wrap (b.Count+1) }:aC) with Events:=(({ b with Count:=IntKind.i64.wrap (b.Count+1) }:aC).Events) ++ ([(⟨IntKind.i64.wrap (b.Count+1),f,g,c.Num⟩:bK)]:List bK) }:aC)) E H l (wn rfl) rfl rfl rfl rfl rfl rfl (wI j) rfl Pp rfl (fun ok cs hr h=>by obtain ⟨m,rfl,g1⟩:=dY h;exact lE (x:=({ ({ b with Count:=IntKind.i64.wrap (b.Count+1) }:aC) with Events:=(({ b with Count:=IntKind.i64.wrap (b.Count+1) }:aC).Events) ++ ([(⟨IntKind.i64.wrap (b.Count+1),f,g,c.Num⟩:bK)]:List bK) }:aC)) (hr _ m0)) fun w H=>nt<|eV<|?_
       clear hI
       exact aD<|have H:=H.drop 2;have H:=H.frs [0,1] rfl;⟨_,_,E.to rfl,H,(Y6 q),hm⟩
      ·refine sT (e:=50) (d:=aU) (cs:=[.int .i64 (IntKind.i64.wrap (b.Count+1)),.int .i64 f,.string g,.int .i64 c.Num]) (xs:=[(⟨IntKind.i64.wrap (b.Count+1),f,g,c.Num⟩:bK)]) E H (wn rfl) rfl rfl rfl (E.evs rfl) (by kernel_rfl) rfl (fun ok hr=>(Rows.single (d:=aU) (cs:=[.int .i64 (IntKind.i64.wrap (b.Count+1)),.int .i64 f,.string g,.int .i64 c.Num]) (x:=(⟨IntKind.i64.wrap (b.Count+1),f,g,c.Num⟩:bK)) zO)) fun b5 w a H E=>nt<|?_
       refine ⟨⟨_,_,H,(aB mm2 (aL)),(aN)⟩,?_⟩
       refine cP rfl<|aX E (wn rfl) rfl rfl (cG E rfl rfl (Fv _)) (fG H mm1 B) fun b6 w H a E=>nt<|?_
       refine ⟨⟨_,_,H,(aB mm3 (aL)),(aN)⟩,?_⟩
       refine cP rfl<|eU (i:=0) E H (wn rfl) rfl rfl rfl rfl rfl rfl (lD m0) U32 Jn rfl C rfl fun b7 w a H E=>nt<|?_
       refine ⟨⟨_,_,H,(aB mm3 (aL)),(aN)⟩,?_⟩
       refine dA rfl<|pr 1 E rfl fun a E=>nt<|dA rfl<|pr 1 E rfl fun a E=>nt<|dA rfl<|?_
       obtain ⟨q79,T,rfl⟩:=H.rowform (i:=0) rfl
       refine have H:=H.thaw (i:=0) rfl;A2 (i:=0) (k:=2) (us:=[(.slice q79 ((({ b with Count:=IntKind.i64.wrap (b.Count+1) }:aC).Events) ++ ([(⟨IntKind.i64.wrap (b.Count+1),f,g,c.Num⟩:bK)]:List bK)).length T)]) (y':=({ ({ b with Count:=IntKind.i64.wrap (b.Count+1) }:aC) with Events:=(({ b with Count:=IntKind.i64.wrap (b.Count+1) }:aC).Events) ++ ([(⟨IntKind.i64.wrap (b.Count+1),f,g,c.Num⟩:bK)]:List bK) }:aC)) E H l (wn rfl) rfl rfl rfl rfl rfl rfl (wI j) rfl Pp rfl (fun ok cs hr h=>by obtain ⟨m,rfl,g1⟩:=dY h;exact lE (x:=({ ({ b with Count:=IntKind.i64.wrap (b.Count+1) }:aC) with Events:=(({ b with Count:=IntKind.i64.wrap (b.Count+1) }:aC).Events) ++ ([(⟨IntKind.i64.wrap (b.Count+1),f,g,c.Num⟩:bK)]:List bK) }:aC)) (hr _ m0)) fun w H=>nt<|eV<|?_
       clear hI
       exact aD<|have H:=H.drop 2;have H:=H.frs [0,1] rfl;⟨_,_,E.to rfl,H,(Y6 q),hm⟩
     ·refine sT (e:=50) (d:=aU) (cs:=[.int .i64 (IntKind.i64.wrap (b.Count+1)),.int .i64 f,.string g,.int .i64 c.Num]) (xs:=[(⟨IntKind.i64.wrap (b.Count+1),f,g,c.Num⟩:bK)]) E H (wn rfl) rfl rfl rfl (E.evs rfl) (by kernel_rfl) rfl (fun ok hr=>(Rows.single (d:=aU) (cs:=[.int .i64 (IntKind.i64.wrap (b.Count+1)),.int .i64 f,.string g,.int .i64 c.Num]) (x:=(⟨IntKind.i64.wrap (b.Count+1),f,g,c.Num⟩:bK)) zO)) fun b8 w a H E=>nt<|?_
      refine ⟨⟨_,_,H,(aB mm2 (aL)),(aN)⟩,?_⟩
      refine cP rfl<|y5 (i:=0) (k:=2) E H l (wn rfl) rfl rfl rfl rfl rfl (wI j) rfl U32 rfl fun b9 a H E=>?_
      obtain ⟨_,hcs⟩:=H.rd (.head _)
      obtain ⟨P,rfl,-⟩:=dY hcs
      clear hcs
      refine have H:=H.derive1 m0 (rSl aU P (({ b with Count:=IntKind.i64.wrap (b.Count+1) }:aC).Events)) (fun ok h=>iG h);?_
      replace E:Env 65 a ((52,P)::_):=E
      refine nt<|?_
      refine ⟨⟨_,_,H,(aB mm2 (aL)),(aN)⟩,?_⟩
      refine cP rfl<|aX E (wn rfl) rfl rfl (cG E rfl rfl (Fv _)) (fG H m0 B) fun c0 w H a E=>nt<|?_
      refine ⟨⟨_,_,H,(aB mm3 (aL)),(aN)⟩,?_⟩
      refine cP rfl<|eU (i:=0) E H (wn rfl) rfl rfl rfl rfl rfl rfl (lD mm2) U32 Jn rfl C rfl fun c1 w a H E=>nt<|?_
      refine ⟨⟨_,_,H,(aB mm3 (aL)),(aN)⟩,?_⟩
      refine dA rfl<|pr 1 E rfl fun a E=>nt<|dA rfl<|pr 1 E rfl fun a E=>nt<|dA rfl<|?_
      obtain ⟨q90,U,rfl⟩:=H.rowform (i:=0) rfl
      refine have H:=H.thaw (i:=0) rfl;A2 (i:=0) (k:=2) (us:=[(.slice q90 ((({ b with Count:=IntKind.i64.wrap (b.Count+1) }:aC).Events) ++ ([(⟨IntKind.i64.wrap (b.Count+1),f,g,c.Num⟩:bK)]:List bK)).length U)]) (y':=({ ({ b with Count:=IntKind.i64.wrap (b.Count+1) }:aC) with Events:=(({ b with Count:=IntKind.i64.wrap (b.Count+1) }:aC).Events) ++ ([(⟨IntKind.i64.wrap (b.Count+1),f,g,c.Num⟩:bK)]:List bK) }:aC)) E H l (wn rfl) rfl rfl rfl rfl rfl rfl (wI j) rfl Pp rfl (fun ok cs hr h=>by obtain ⟨m,rfl,g1⟩:=dY h;exact lE (x:=({ ({ b with Count:=IntKind.i64.wrap (b.Count+1) }:aC) with Events:=(({ b with Count:=IntKind.i64.wrap (b.Count+1) }:aC).Events) ++ ([(⟨IntKind.i64.wrap (b.Count+1),f,g,c.Num⟩:bK)]:List bK) }:aC)) (hr _ m0)) fun w H=>nt<|eV<|?_
      clear hI
      exact aD<|have H:=H.drop 2;have H:=H.frs [0,1] rfl;⟨_,_,E.to rfl,H,(Y6 q),hm⟩
    ·exact wp_skip<|aD<|have H:=H.drop 2;have H:=H.frs [0,1] rfl;⟨_,_,E.to rfl,H,q,hm⟩
  ·clear E H hm
   rintro a w ⟨K,z,E,H,M,hm⟩
   unfold rE at hm
   refine sq<|pr 1 E rfl fun a E=>lb E H 0 rfl rfl rfl rfl rfl rfl rfl U4 rfl fun a E=>pr 1 E rfl fun a E=>cs hm (fun D hm=>?_) fun D hm=>?_
   ·refine pk 4 E (kc 61 rfl D) rfl fun a E=>nt<|wp_ret<|bB E rfl rfl<|have H:=H.drop 0;?_
    cases hm
    exact ⟨rfl,H.reads M⟩
   ·refine pk 4 E (kc 61 rfl D) rfl fun a E=>nt<|wp_ret<|bB E rfl rfl<|have H:=H.drop 0;?_
    cases hm
    exact ⟨rfl,H.reads M⟩

def rX(b:Int×Bool)(x1:aJ)(e:Int)(g:ByteArray)(c:(List aC)):Option (Bool×(List aC)):=
  (idx c b.1).bind fun f=>(zG c b.1 f x1 e g).bind fun d=>some (!d.1,d.2)
def mB(x1:aJ)(d:Int)(e:ByteArray)(c:List aC)(f:Bool):Option (Bool×(List aC)):=
  if f=true then (some (false,c)) else ((dI c x1.Session).bind fun b=>if (!b.2)=true then ((ck (0 ≤ b.1∧b.1 ≤ c.length∧c.length ≤ 1000000)).bind fun g=>rX b x1 d e (c.take b.1.toNat ++ (⟨x1.Session,0,[]⟩:aC)::c.drop b.1.toNat)) else (rX b x1 d e c))
def sO(x1:aJ)(b:ByteArray)(d:List aC)(c:Int):Option (Bool×(List aC)):=
  if (!(sEq x1.Path b))=true then (if (!x1.Deep)=true then (mB x1 c b d true) else ((zC b x1.Path).bind fun e=>mB x1 c b d (!e))) else (mB x1 c b d false)
theorem S3{x1:aJ}{g j k:Nat}{l:ByteArray}{A q:Value}{B:List aC}{f:Int}(H:Sep w (Blk g 9 [.string l]::Blk j 78 [q,A]::Row 193 aO A B::Blk k 3 [.int .i64 f]::Fo) rs){r:Bool×(List aC)}(hm:sO x1 l B f=some r) :
    Calls Tryz.prog 258 [.agg (eG x1).toArray,pt g 0,pt j 0,pt k 0].toArray w (Ret fun v w'=>∃ K,.bool r.1=v∧Sep w' (Blk g 9 [.string l]::Blk j 78 [q,K]::Blk k 3 [.int .i64 f]::Row 193 aO K r.2::Fo) (rs)):=by
 unfold sO at hm
 refine ent Tryz.func258 rfl Tryz.ntmps258 rfl rfl fun a E=>sq<|bS E H (wn rfl) rfl rfl rfl rfl rfl fun s w a H E=>pr 1 E rfl fun a E=>nt<|wp_seq<|aT (fun a w=>∃ t m,Env 52 a [(1,pt g 0),(2,pt j 0),(3,pt k 0),(4,pt s 0),(23,.bool t)]∧Sep w (Blk g 9 [.string l]::Blk j 78 [q,A]::Blk k 3 [.int .i64 f]::Blk s 39 (eG x1)::Row 193 aO A B::Fo) m∧(∀ r,r ∈ rs→r ∈ m)∧mB x1 f l B t=some r) ?_ ?_
 ·refine wp_region_lit<|pr 1 E rfl fun a E=>lb E H 0 rfl rfl rfl rfl rfl rfl rfl U9 rfl fun a E=>lb E H 1 rfl rfl rfl rfl rfl rfl rfl U9 rfl fun a E=>pr 2 E rfl fun a E=>cs hm (fun b hm=>?_) fun b hm=>?_
  ·refine pk 1 E (kc 12 rfl b) rfl fun a E=>aQ E (ws' (d:=12) E rfl rfl rfl rfl b) rfl rfl (bT (i:=0) E H rfl rfl rfl rfl U4 rfl) fun a E=>pk 2 E (kc 12 rfl b) rfl fun a E=>cs hm (fun c hm=>?_) fun c hm=>?_
   ·exact pk 7 E (kc' (kc 16 rfl c) 12 rfl b) rfl fun a E=>nt<|have H:=H.frs [3,1,4,4,4] rfl;⟨_,_,E.to rfl,H,Y0,hm⟩
   ·refine aQ E (ws' (d:=16) E rfl rfl rfl rfl c) rfl rfl (bT (i:=1) E H rfl rfl rfl rfl U9 rfl) fun a E=>pk 1 E (kc 16 rfl c) rfl fun a E=>aQ E (ws' (d:=16) E rfl rfl rfl rfl c) rfl rfl (bT (i:=0) E H rfl rfl rfl rfl U9 rfl) fun a E=>bd hm fun L D hm=>aX E (ws' (d:=16) E rfl rfl rfl rfl c) rfl rfl (cG E rfl rfl (Va _)) (Al H D)<|?_
    rintro _ w ⟨rfl,H⟩ a E
    exact pk 3 E (kc' (kc 16 rfl c) 12 rfl b) rfl fun a E=>nt<|have H:=H.frs [3,1,4,4,4] rfl;⟨_,_,E.to rfl,H,Y0,hm⟩
  ·exact pk 11 E (kc 12 rfl b) rfl fun a E=>nt<|have H:=H.frs [3,1,4,4,4] rfl;⟨_,_,E.to rfl,H,Y0,hm⟩
 ·clear E H hm
  rintro a w ⟨t,m,E,H,n,hm⟩
  unfold mB at hm
  refine wif E hm rfl (fun hm=>?_) fun hm=>?_
  ·refine sq<|pr 1 E rfl fun a E=>nt<|wp_ret<|aP<|bB E rfl rfl<|have H:=H.drop 3;?_
   cases hm
   exact ⟨_,rfl,H.reads n⟩
  ·refine wp_skip<|aD<|sq<|pr 1 E rfl fun a E=>lb E H 1 rfl rfl rfl rfl rfl rfl rfl U76 rfl fun a E=>pr 1 E rfl fun a E=>lb E H 3 rfl rfl rfl rfl rfl rfl rfl U2 rfl fun a E=>have H:=H.frs [3,3,3,3,4] rfl;bd hm fun C F hm=>?_
   refine xk E rfl rfl rfl rfl rfl Po (pV H F) fun w H a E=>pr 5 E rfl fun a E=>nt<|aT (fun a w=>∃ u y o,Env 52 a [(1,pt g 0),(2,pt j 0),(3,pt k 0),(4,pt s 0),(6,.int .i64 C.1)]∧Sep w (Blk g 9 [.string l]::Blk j 78 [q,u]::Blk k 3 [.int .i64 f]::Blk s 39 (eG x1)::Row 193 aO u y::Fo) o∧(∀ r,r ∈ rs→r ∈ o)∧rX C x1 f l y=some r) ?_ ?_
   ·refine sq<|pr 2 E rfl fun a E=>nt<|wif E hm rfl (fun hm=>?_) fun hm=>?_
    ·refine wp_region_lit<|pr 1 E rfl fun a E=>lb E H 2 rfl rfl rfl rfl rfl rfl rfl U76 rfl fun a E=>pr 2 E rfl fun a E=>lb E H 4 rfl rfl rfl rfl rfl rfl rfl U2 rfl fun a E=>sv E rfl rfl rfl (cN E rfl (E.evs rfl) (v:=.agg #[.int .i64 x1.Session,.int .i64 0,.slice none 0 0]) (by kernel_rfl)) fun a E=>hG (e:=193) (d:=aO) (cs:=[.int .i64 x1.Session,.int .i64 0,.slice none 0 0]) (xs:=[(⟨x1.Session,0,[]⟩:aC)]) E H (wn rfl) rfl rfl rfl (E.evs rfl) (by kernel_rfl) rfl rfl (fun ok hr=>(Rows.single (d:=aO) (cs:=[.int .i64 x1.Session,.int .i64 0,.slice none 0 0]) (x:=(⟨x1.Session,0,[]⟩:aC)) (lE (Sl.nil _ _ _)))) fun M w a H E=>bk hm fun G hm=>aX E (wn rfl) rfl rfl (cG E rfl rfl (Ps _)) (Se.insert_a (ix:=1) (iu:=0) H rfl rfl (by decide) G) fun N w H a E=>?_
     refine pr 1 E rfl fun a E=>?_
     obtain ⟨q33,O,rfl⟩:=H.rowform (i:=1) rfl
     exact bC (i:=3) E H (wn rfl) rfl rfl rfl rfl rfl rfl Le rfl rfl fun w H=>nt<|have H:=H.drop 0;have H:=H.frs [0,4,4,4,4] rfl;X3 ⟨E.to rfl,H,n,hm⟩
    ·exact wp_skip<|aD<|have H:=H.frs [0,4,4,4,4] rfl;X3 ⟨E.to rfl,H,n,hm⟩
   ·clear E H hm
    rintro a w ⟨u,y,o,E,H,I,hm⟩
    unfold rX at hm
    refine wp_seq<|dw [(0,0),(1,0),(2,0),(3,0),(4,0),(5,0),(6,0),(7,1),(8,0),(9,2)] [0,1,2,3] [] H (by kernel_rfl) (fun _ _ _ h=>False.elim h.2) fun w W0 hI H=>fn 1 E rfl fun a E=>fb E rfl (wn rfl) rfl rfl rfl rfl mm1 rfl U76 rfl fun a E=>fn 1 E rfl fun a E=>bd hm fun P p hm=>?_
    obtain ⟨Q,R,z⟩:=H.rowformNE (i:=4) rfl p
    refine cB E rfl (wn rfl) rfl rfl (fun w hW=>dL (d:=aO) E z rfl rfl rfl rfl U76 uZ p) fun a E=>?_
    refine fbn E (eG x1) rfl (wn rfl) rfl rfl rfl rfl mm3 rfl U39 rfl sY fun a E=>fb E rfl (wn rfl) rfl rfl rfl rfl mm2 rfl U3 rfl fun a E=>fb E rfl (wn rfl) rfl rfl rfl rfl m0 rfl U9 rfl fun a E=>cE rfl<|have H:=H.frs [3,3,3,3,4] rfl;bd hm fun S J hm=>xk E rfl rfl rfl rfl rfl IX (Lm p z H J) fun w H a E=>nt<|?_
    refine ⟨⟨_,_,H,(aB mm1 (aB mm2 (aB mm3 (aB mm4 (aL))))),(aN)⟩,?_⟩
    refine fn 1 E rfl fun a E=>bQ rfl<|pr 1 E rfl fun a E=>nt<|bR<|?_
    clear hI
    refine aD<|wp_ret<|bB E rfl rfl<|have H:=H.drop 4;have H:=H.frs [0,3,3,3] rfl;?_
    cases hm
    exact ⟨_,rfl,H.reads I⟩

def eB(f:List aJ)(g:ByteArray)(d:Int):Nat→Int→(List aC)→Option (Int×(List aC))
  | 0,_,_=>none
  | j+1,b,e=>
    if (decide (b < (f.length:Int)))=true then ((idx f b).bind fun i=>(sO i g e d).bind fun c=>if c.1=true then (some (b,c.2)) else (eB f g d j (IntKind.i64.wrap (b+1)) c.2)) else (some ((-1),e))
def gP(b:List aJ)(d:ByteArray)(e:List aC)(c:Int):Option (Int×(List aC)):=
  eB b d c (((b.length:Int) - 0:Int).toNat+1) 0 e
theorem wN{m z n:Value}{e:List aJ}{o p b:Nat}{q:ByteArray}{A:List aC}{c:Int}(H:Sep w (Row 39 aY m e::Blk o 9 [.string q]::Blk p 78 [n,z]::Row 193 aO z A::Blk b 3 [.int .i64 c]::Fo) rs){r:Int×(List aC)}(hm:gP e q A c=some r) :
    Calls Tryz.prog 194 [m,.func (.func 258) #[] #[pt o 0,pt p 0,pt b 0]].toArray w (Ret fun v w'=>∃ B,.int .i64 r.1=v∧Sep w' (Blk o 9 [.string q]::Blk p 78 [n,B]::Blk b 3 [.int .i64 c]::Row 39 aY m e::Row 193 aO B r.2::Fo) (rs)):=by
 unfold gP at hm
 refine ent Tryz.func194 rfl Tryz.ntmps194 rfl rfl fun a E=>sq<|pr 1 E rfl fun a E=>nt<|wp_seq<|sq<|pr 1 E rfl fun a E=>sv E rfl rfl rfl (lC (i:=0) E H rfl rfl rfl U75) fun a E=>pr 1 E rfl fun a E=>?_
 refine nt<|wp_block<|cA (fun l a w=>∃ s t u f,Env 19 a [(0,m),(1,.func (.func 258) #[] #[pt o 0,pt p 0,pt b 0]),(7,.int .i64 (e.length:Int)),(8,.int .i64 t)]∧Sep w (Row 39 aY m e::Blk o 9 [.string q]::Blk p 78 [n,s]::Blk b 3 [.int .i64 c]::Row 193 aO s u::Fo) f∧(∀ r,r ∈ rs→r ∈ f)∧eB e q c l t u=some r) (((e.length:Int) - 0:Int).toNat+1) ?_ ?_
 ·exact have H:=H.frs [3,4,4,4,4] rfl;X4 ⟨E.to rfl,H,Y0,hm⟩
 ·clear E H hm
  rintro l a w ⟨s,t,u,f,E,H,g,hm⟩
  cases l with
  | zero=>exact (bW hm rfl).elim
  | succ l=>
   unfold eB at hm
   refine sq<|pr 1 E rfl fun a E=>nt<|wp_seq<|wif E hm rfl (fun hm=>?_) fun hm=>?_
   ·refine wp_skip<|aD<|wp_seq<|wp_block<|sq<|pr 2 E rfl fun a E=>nx<|pr 3 E rfl fun a E=>bd hm fun k j hm=>?_
    obtain ⟨C,D,x⟩:=H.rowformNE (i:=0) rfl j
    refine sv E rfl rfl rfl (dL (d:=aY) E x rfl rfl rfl rfl U75 sY j) fun a E=>sv E rfl rfl rfl (iF (i:=0) E H jM x rfl rfl rfl j (us:=[.int .i64 k.Session,.int .i64 k.Num,.string k.Path,.bool k.Deep]) rfl U39 rfl sY) fun a E=>have H:=H.frs [0,3,4,4,4] rfl;bd hm fun F y hm=>aX E (wn rfl) rfl rfl (bP E rfl rfl rfl (Xq _)) (S3 H y)<|?_
    rintro _ w ⟨G,rfl,H⟩ a E
    refine nt<|wif E hm rfl (fun hm=>?_) fun hm=>?_
    ·refine sq<|pr 2 E rfl fun a E=>nt<|wp_ret<|bU<|aP<|aP<|bU<|aP<|?_
     refine bB E rfl rfl<|have H:=H.frs [3,4,4,4,4] rfl;?_
     cases hm
     exact ⟨_,rfl,H.reads g⟩
    ·exact wp_skip<|bY<|aD<|wp_region_lit<|pr 2 E rfl fun a E=>nt<|have H:=H.frs [3,3,3,3,4] rfl;⟨l,Nat.lt_succ_self l,X4 ⟨E.to rfl,H,g,hm⟩⟩
   ·refine wp_exit<|bH<|bH<|dZ<|aD<|sq<|pr 1 E rfl fun a E=>nt<|wp_ret<|?_
    refine bB E rfl rfl<|have H:=H.frs [4,1,4,4,4] rfl;?_
    cases hm
    exact ⟨_,rfl,H.reads g⟩

def fY(rec_1:(List aJ)→Int→Int→(List aC)→Option ((List aJ)×(List aC)))(b:Int)(c:(List aJ))(d:Int)(e:(List aC)):Option ((List aJ)×(List aC)):=
  rec_1 c d (IntKind.i64.wrap (b+1)) e
def eI(j:ByteArray)(e:Int):Nat→(List aJ)→Int→Int→(List aC)→Option ((List aJ)×(List aC))
  | 0,_,_,_,_=>none
  | k+1,c,b,d,g=>
    if (decide (d < (c.length:Int)))=true then ((idx c d).bind fun i=>(sO i j g e).bind fun f=>if (!f.1)=true then ((idx c b).bind fun l=>fY (eI j e k) d (c.set b.toNat i) (IntKind.i64.wrap (b+1)) f.2) else (fY (eI j e k) d c b f.2)) else ((ck (0 ≤ b∧b ≤ c.length)).bind fun m=>(ck (0 ≤ b∧b ≤ (c.take b.toNat ++ List.replicate (c.length - b.toNat) (⟨0,0,⟨#[]⟩,false⟩:aJ)).length)).bind fun n=>some ((c.take b.toNat ++ List.replicate (c.length - b.toNat) (⟨0,0,⟨#[]⟩,false⟩:aJ)).take b.toNat,g))
def fI(c:List aJ)(e:ByteArray)(f:List aC)(d:Int):Option ((List aJ)×(List aC)):=
  (gP c e f d).bind fun b=>if (b.1 == (-1))=true then (some (c,b.2)) else (eI e d (((c.length:Int) - (IntKind.i64.wrap (b.1+1)):Int).toNat+1) c b.1 (IntKind.i64.wrap (b.1+1)) b.2)
theorem xI{t O s:Value}{J:List aJ}{g j c:Nat}{k:ByteArray}{P:List aC}{e:Int}(H:Sep w (Row 39 aY t J::Blk g 9 [.string k]::Blk j 78 [s,O]::Row 193 aO O P::Blk c 3 [.int .i64 e]::Fo) rs){r:(List aJ)×(List aC)}(hm:fI J k P e=some r) :
    Calls Tryz.prog 257 [t,.func (.func 258) #[] #[pt g 0,pt j 0,pt c 0]].toArray w (Ret fun v w'=>∃ Q R,Q=v∧Sep w' (Row 39 aY Q r.1::Blk g 9 [.string k]::Blk j 78 [s,R]::Blk c 3 [.int .i64 e]::Row 193 aO R r.2::Fo) (rs)):=by
 unfold fI at hm
 refine ent Tryz.func257 rfl Tryz.ntmps257 rfl rfl fun a E=>sq<|pr 1 E rfl fun a E=>nx<|pr 2 E rfl fun a E=>bd hm fun S K hm=>cJ E rfl rfl rfl rfl rfl Pn (wN H K)<|?_
 rintro _ w ⟨T,rfl,H⟩ a E
 refine pr 1 E rfl fun a E=>nt<|wp_seq<|sq<|pr 2 E rfl fun a E=>nt<|wif E hm rfl (fun hm=>?_) fun hm=>?_
 ·refine sq<|pr 2 E rfl fun a E=>nt<|wp_ret<|aP<|bB E rfl rfl<|have H:=H.frs [4,3,3,3,4] rfl;?_
  cases hm
  exact ⟨_,_,rfl,H.reads Y0⟩
 ·refine wp_skip<|aD<|wp_seq<|sq<|pr 3 E rfl fun a E=>nt<|wp_block<|cA (fun l a w=>∃ u x y f z m,Env 42 a [(0,t),(1,.func (.func 258) #[] #[pt g 0,pt j 0,pt c 0]),(5,.int .i64 y),(6,.int .i64 f)]∧Sep w (Row 39 aY t x::Blk g 9 [.string k]::Blk j 78 [s,u]::Blk c 3 [.int .i64 e]::Row 193 aO u z::Fo) m∧(∀ r,r ∈ rs→r ∈ m)∧eI k e l x y f z=some r) (((J.length:Int) - (IntKind.i64.wrap (S.1+1)):Int).toNat+1) ?_ ?_
  ·exact have H:=H.frs [4,3,3,3,4] rfl;X6 ⟨E.to rfl,H,Y0,hm⟩
  ·clear E H hm
   rintro l a w ⟨u,x,y,f,z,m,E,H,n,hm⟩
   cases l with
   | zero=>exact (bW hm rfl).elim
   | succ l=>
    unfold eI at hm
    refine wp_seq<|sq<|pr 2 E rfl fun a E=>sv E rfl rfl rfl (lC (i:=0) E H rfl rfl rfl U75) fun a E=>pr 1 E rfl fun a E=>nt<|wif E hm rfl (fun hm=>?_) fun hm=>?_
    ·refine wp_skip<|aD<|aT (fun a w=>∃ A B C D o,Env 42 a [(0,t),(1,.func (.func 258) #[] #[pt g 0,pt j 0,pt c 0]),(5,.int .i64 C),(6,.int .i64 f)]∧Sep w (Row 39 aY t B::Blk g 9 [.string k]::Blk j 78 [s,A]::Blk c 3 [.int .i64 e]::Row 193 aO A D::Fo) o∧(∀ r,r ∈ rs→r ∈ o)∧fY (eI k e l) f B C D=some r) ?_ ?_
     ·refine wp_block<|sq<|pr 2 E rfl fun a E=>bd hm fun b p hm=>?_
      obtain ⟨U,V,F⟩:=H.rowformNE (i:=0) rfl p
      refine sv E rfl rfl rfl (dL (d:=aY) E F rfl rfl rfl rfl U75 sY p) fun a E=>sv E rfl rfl rfl (iF (i:=0) E H jM F rfl rfl rfl p (us:=[.int .i64 b.Session,.int .i64 b.Num,.string b.Path,.bool b.Deep]) rfl U39 rfl sY) fun a E=>al E H rfl rfl rfl rfl CX fun W w a H E=>bC (i:=0) E H (wn rfl) rfl rfl rfl rfl rfl rfl sY rfl rfl fun w H=>nx<|pr 1 E rfl fun a E=>sv E rfl rfl rfl (cD (i:=0) (us:=(eG b)) E H rfl rfl rfl rfl U39 rfl sY) fun a E=>have H:=H.frs [1,1,4,5,5,5] rfl;bd hm fun X L hm=>?_
      refine aX E (wn rfl) rfl rfl (bP E rfl rfl rfl (Xq _)) (S3 H L)<|?_
      rintro _ w ⟨Y,rfl,H⟩ a E
      refine pr 1 E rfl fun a E=>nt<|wif E hm rfl (fun hm=>?_) fun hm=>?_
      ·refine sq<|pr 2 E rfl fun a E=>sv E rfl rfl rfl (cD (i:=4) (us:=(eG b)) E H rfl rfl rfl rfl U39 rfl sY) fun a E=>bd hm fun Z q hm=>?_
       obtain ⟨b0,b1,G⟩:=H.rowformNE (i:=5) rfl q
       refine sv E rfl rfl rfl (dL (d:=aY) E G rfl rfl rfl rfl U75 sY q) fun a E=>z8 (d:=aY) (i:=5) (us:=[.int .i64 b.Session,.int .i64 b.Num,.string b.Path,.bool b.Deep]) (z':=b) E H jM (wn rfl) rfl G rfl rfl rfl rfl rfl rfl rfl q sY fun w H=>nt<|wp_region_lit<|pr 3 E rfl fun a E=>wpList_nil<|bY<|aD<|have H:=H.drop 4;?_
       exact have H:=H.frs [3,3,3,3,4] rfl;X5 ⟨E.to rfl,H,n,hm⟩
      ·exact wp_skip<|bY<|aD<|have H:=H.drop 4;have H:=H.frs [3,3,3,3,4] rfl;X5 ⟨E.to rfl,H,n,hm⟩
     ·clear E H hm
      rintro a w ⟨A,B,C,D,o,E,H,M,hm⟩
      unfold fY at hm
      exact wp_region_lit<|pr 3 E rfl fun a E=>nt<|⟨l,Nat.lt_succ_self l,X6 ⟨E.to rfl,H,M,hm⟩⟩
    ·refine wp_exit<|bH<|bH<|dZ<|aD<|sq<|pr 2 E rfl fun a E=>bk hm fun I hm=>sv E rfl rfl rfl (T7 (d:=aY) (i:=0) E H rfl rfl rfl rfl U75 sY I) fun a E=>?_
     refine E4 (i:=0) (z0:=(⟨0,0,⟨#[]⟩,false⟩:aJ)) E H jM (wn rfl) rfl rfl rfl U75 IY rfl rfl rfl I fun w H=>nx<|pr 2 E rfl fun a E=>bk hm fun N hm=>M7 (i:=0) E H jM (wn rfl) rfl rfl rfl rfl rfl rfl U75 sY N fun b2 a H E=>pr 1 E rfl fun a E=>nt<|wp_ret<|bB E rfl rfl<|?_
     cases hm
     exact ⟨_,_,rfl,H.reads n⟩

def nR(x1:Int):Option Bool:=
  if (decide (x1 ≥ 1))=true then (some (decide (x1 ≤ 281474976710656))) else (some (false))
theorem a8{x1:Int}(H:Sep w (Fo) rs){r:Bool}(hm:nR x1=some r) :
    Calls Tryz.prog 193 [.int .i64 x1].toArray w (Ret fun v w'=>.bool r=v∧Sep w' (Fo) (rs)):=by
 unfold nR at hm
 refine ent Tryz.func193 rfl Tryz.ntmps193 rfl rfl fun a E=>sq<|pr 1 E rfl fun a E=>nx<|pr 3 E rfl fun a E=>cs hm (fun b hm=>?_) fun b hm=>?_
 ·refine pk 4 E (kc 5 rfl b) rfl fun a E=>nt<|wp_ret<|bB E rfl rfl<|?_
  cases hm
  exact ⟨rfl,H.reads Y0⟩
 ·refine pk 4 E (kc 5 rfl b) rfl fun a E=>nt<|wp_ret<|bB E rfl rfl<|?_
  cases hm
  exact ⟨rfl,H.reads Y0⟩

def iN(rec_1:Int→Option Bool)(c:Int)(b:Bool):Option Bool:=
  if b=true then (some (false)) else (rec_1 (IntKind.i64.wrap (c+1)))
def fJ(x1:aC):Nat→Int→Option Bool
  | 0,_=>none
  | d+1,c=>
    if (decide (c < (x1.Events.length:Int)))=true then ((idx x1.Events c).bind fun b=>if (b.Num != (IntKind.i64.wrap ((IntKind.i64.wrap ((IntKind.i64.wrap (x1.Count - (x1.Events.length:Int)))+1))+c)))=true then (iN (fJ x1 d) c true) else (if (decide (b.Num < 1))=true then (iN (fJ x1 d) c true) else (if (decide (b.Kind < 1))=true then (iN (fJ x1 d) c true) else (if (decide (b.Kind > 4))=true then (iN (fJ x1 d) c true) else ((eP b.Path).bind fun e=>if (!e)=true then (iN (fJ x1 d) c true) else ((nR b.Watch).bind fun f=>iN (fJ x1 d) c (!f))))))) else (some (true))
def lK(x1:aC)(b:Bool):Option Bool:=
  if b=true then (some (false)) else (fJ x1 (((x1.Events.length:Int) - 0:Int).toNat+1) 0)
def uH(x1:aC):Option Bool:=
  (nR x1.Num).bind fun b=>if (!b)=true then (lK x1 true) else (if (decide (x1.Count < 0))=true then (lK x1 true) else (if (decide (x1.Count > 281474976710656))=true then (lK x1 true) else (lK x1 (decide ((x1.Events.length:Int) > 8)))))
theorem Gj{x1:aC}{s:Value}(H:Sep w (Fo) rs)(p:rSl aU s x1.Events ∈ rs){r:Bool}(hm:uH x1=some r) :
    Calls Tryz.prog 192 [.agg (nC x1 s).toArray].toArray w (Ret fun v w'=>.bool r=v∧Sep w' (Fo) (rs)):=by
 unfold uH at hm
 refine ent Tryz.func192 rfl Tryz.ntmps192 rfl rfl fun a E=>sq<|bS E H (wn rfl) rfl rfl rfl rfl rfl fun G w a H E=>pr 1 E rfl fun a E=>nt<|wp_seq<|aT (fun a w=>∃ A t,Env 75 a [(1,pt G 0),(25,.bool A)]∧Sep w (Blk G 193 (nC x1 s)::Fo) t∧(∀ r,r ∈ rs→r ∈ t)∧lK x1 A=some r) ?_ ?_
 ·refine wp_region_lit<|pr 1 E rfl fun a E=>lb E H 0 rfl rfl rfl rfl rfl rfl rfl U2 rfl fun a E=>bd hm fun I B hm=>xk E rfl rfl rfl rfl rfl Jk (a8 H B) fun w H a E=>pr 2 E rfl fun a E=>cs hm (fun g hm=>?_) fun g hm=>?_
  ·exact pk 15 E (kc 10 rfl g) rfl fun a E=>nt<|⟨_,_,E.to rfl,H,Y0,hm⟩
  ·refine pk 1 E (kc 10 rfl g) rfl fun a E=>aQ E (ws' (d:=10) E rfl rfl rfl rfl g) rfl rfl (bT (i:=0) E H rfl rfl rfl rfl U2 rfl) fun a E=>pk 3 E (kc 10 rfl g) rfl fun a E=>cs hm (fun j hm=>?_) fun j hm=>?_
   ·exact pk 10 E (kc 15 rfl j) rfl fun a E=>nt<|⟨_,_,E.to rfl,H,Y0,hm⟩
   ·refine pk 1 E (kc 15 rfl j) rfl fun a E=>aQ E (ws' (d:=15) E rfl rfl rfl rfl j) rfl rfl (bT (i:=0) E H rfl rfl rfl rfl U2 rfl) fun a E=>pk 3 E (kc 15 rfl j) rfl fun a E=>cs hm (fun c hm=>?_) fun c hm=>?_
    ·exact pk 5 E (kc 20 rfl c) rfl fun a E=>nt<|⟨_,_,E.to rfl,H,Y0,hm⟩
    ·exact pk 1 E (kc 20 rfl c) rfl fun a E=>aQ E (ws' (d:=20) E rfl rfl rfl rfl c) rfl rfl (bT (i:=0) E H rfl rfl rfl rfl U32 rfl) fun a E=>aQ E (ws' (d:=20) E rfl rfl rfl rfl c) rfl rfl (dB E H rfl rfl p U32) fun a E=>pk 2 E (kc 20 rfl c) rfl fun a E=>nt<|⟨_,_,E.to rfl,H,Y0,hm⟩
 ·clear E H hm
  rintro a w ⟨A,t,E,H,q,hm⟩
  unfold lK at hm
  refine wif E hm rfl (fun hm=>?_) fun hm=>?_
  ·refine sq<|pr 1 E rfl fun a E=>nt<|wp_ret<|aP<|bB E rfl rfl<|have H:=H.drop 0;?_
   cases hm
   exact ⟨rfl,H.reads q⟩
  ·refine wp_skip<|aD<|sq<|pr 1 E rfl fun a E=>lb E H 0 rfl rfl rfl rfl rfl rfl rfl U2 rfl fun a E=>pr 1 E rfl fun a E=>lb E H 0 rfl rfl rfl rfl rfl rfl rfl U32 rfl fun a E=>sv E rfl rfl rfl (dB E H rfl rfl (q _ p) U32) fun a E=>pr 3 E rfl fun a E=>?_
   refine nt<|wp_seq<|sq<|pr 1 E rfl fun a E=>lb E H 0 rfl rfl rfl rfl rfl rfl rfl U32 rfl fun a E=>sv E rfl rfl rfl (dB E H rfl rfl (q _ p) U32) fun a E=>pr 1 E rfl fun a E=>nt<|wp_block<|cA (fun n a w=>∃ u x,Env 75 a [(3,.int .i64 (IntKind.i64.wrap ((IntKind.i64.wrap (x1.Count - (x1.Events.length:Int)))+1))),(34,s),(35,.int .i64 (x1.Events.length:Int)),(36,.int .i64 u)]∧Sep w (Fo) x∧(∀ r,r ∈ rs→r ∈ x)∧fJ x1 n u=some r) (((x1.Events.length:Int) - 0:Int).toNat+1) ?_ ?_
   ·exact have H:=H.drop 0;⟨_,_,E.to rfl,H,q,hm⟩
   ·clear E H hm
    rintro n a w ⟨u,x,E,H,b,hm⟩
    cases n with
    | zero=>exact (bW hm rfl).elim
    | succ n=>
     unfold fJ at hm
     refine sq<|pr 1 E rfl fun a E=>nt<|wp_seq<|wif E hm rfl (fun hm=>?_) fun hm=>?_
     ·refine wp_skip<|aD<|wp_seq<|wp_block<|sq<|pr 1 E rfl fun a E=>bd hm fun J C hm=>dF E H (wn rfl) rfl rfl rfl rfl rfl (b _ p) U32 sB C fun q13 a H E=>ldf pX E H rfl rfl rfl rfl rfl m0 U50 rfl sB fun a E=>?_
      refine al E H rfl rfl rfl rfl Vb fun K w a H E=>pr 1 E rfl fun a E=>bC (i:=0) E H (wn rfl) rfl rfl rfl rfl rfl rfl sB rfl rfl fun w H=>nt<|aT (fun a w=>∃ y o,Env 75 a [(3,.int .i64 (IntKind.i64.wrap ((IntKind.i64.wrap (x1.Count - (x1.Events.length:Int)))+1))),(34,s),(35,.int .i64 (x1.Events.length:Int)),(36,.int .i64 u),(73,.bool y)]∧Sep w (Fo) o∧(∀ r,r ∈ rs→r ∈ o)∧iN (fJ x1 n) u y=some r) ?_ ?_
      ·refine wp_region_lit<|pr 1 E rfl fun a E=>lb E H 0 rfl rfl rfl rfl rfl rfl rfl U2 rfl fun a E=>pr 5 E rfl fun a E=>cs hm (fun k hm=>?_) fun k hm=>?_
       ·exact pk 26 E (kc 47 rfl k) rfl fun a E=>nt<|have H:=H.drop 0;⟨_,_,E.to rfl,H,(Y1 b),hm⟩
       ·refine pk 1 E (kc 47 rfl k) rfl fun a E=>aQ E (ws' (d:=47) E rfl rfl rfl rfl k) rfl rfl (bT (i:=0) E H rfl rfl rfl rfl U2 rfl) fun a E=>pk 3 E (kc 47 rfl k) rfl fun a E=>cs hm (fun l hm=>?_) fun l hm=>?_
        ·exact pk 21 E (kc 52 rfl l) rfl fun a E=>nt<|have H:=H.drop 0;⟨_,_,E.to rfl,H,(Y1 b),hm⟩
        ·refine pk 1 E (kc 52 rfl l) rfl fun a E=>aQ E (ws' (d:=52) E rfl rfl rfl rfl l) rfl rfl (bT (i:=0) E H rfl rfl rfl rfl U3 rfl) fun a E=>pk 3 E (kc 52 rfl l) rfl fun a E=>cs hm (fun m hm=>?_) fun m hm=>?_
         ·exact pk 16 E (kc 57 rfl m) rfl fun a E=>nt<|have H:=H.drop 0;⟨_,_,E.to rfl,H,(Y1 b),hm⟩
         ·refine pk 1 E (kc 57 rfl m) rfl fun a E=>aQ E (ws' (d:=57) E rfl rfl rfl rfl m) rfl rfl (bT (i:=0) E H rfl rfl rfl rfl U3 rfl) fun a E=>pk 3 E (kc 57 rfl m) rfl fun a E=>cs hm (fun e hm=>?_) fun e hm=>?_
          ·exact pk 11 E (kc 62 rfl e) rfl fun a E=>nt<|have H:=H.drop 0;⟨_,_,E.to rfl,H,(Y1 b),hm⟩
          ·refine pk 1 E (kc 62 rfl e) rfl fun a E=>aQ E (ws' (d:=62) E rfl rfl rfl rfl e) rfl rfl (bT (i:=0) E H rfl rfl rfl rfl U9 rfl) fun a E=>bd hm fun L D hm=>aX E (ws' (d:=62) E rfl rfl rfl rfl e) rfl rfl (cG E rfl rfl (A7 _)) (iI H D)<|?_
           rintro _ w ⟨rfl,H⟩ a E
           refine pk 3 E (kc 62 rfl e) rfl fun a E=>cs hm (fun f hm=>?_) fun f hm=>?_
           ·exact pk 5 E (kc 68 rfl f) rfl fun a E=>nt<|have H:=H.drop 0;⟨_,_,E.to rfl,H,(Y1 b),hm⟩
           ·refine pk 1 E (kc 68 rfl f) rfl fun a E=>aQ E (ws' (d:=68) E rfl rfl rfl rfl f) rfl rfl (bT (i:=0) E H rfl rfl rfl rfl U2 rfl) fun a E=>bd hm fun M F hm=>aX E (ws' (d:=68) E rfl rfl rfl rfl f) rfl rfl (cG E rfl rfl (Jk _)) (a8 H F)<|?_
            rintro _ w ⟨rfl,H⟩ a E
            exact pk 2 E (kc 68 rfl f) rfl fun a E=>nt<|have H:=H.drop 0;⟨_,_,E.to rfl,H,(Y1 b),hm⟩
      ·clear E H hm
       rintro a w ⟨y,o,E,H,z,hm⟩
       unfold iN at hm
       refine wif E hm rfl (fun hm=>?_) fun hm=>?_
       ·refine sq<|pr 1 E rfl fun a E=>nt<|wp_ret<|bU<|aP<|aP<|bU<|aP<|?_
        refine bB E rfl rfl<|?_
        cases hm
        exact ⟨rfl,H.reads z⟩
       ·exact wp_skip<|bY<|aD<|wp_region_lit<|pr 2 E rfl fun a E=>nt<|⟨n,Nat.lt_succ_self n,_,_,E.to rfl,H,z,hm⟩
     ·refine wp_exit<|bH<|bH<|dZ<|aD<|sq<|pr 1 E rfl fun a E=>nt<|wp_ret<|?_
      refine bB E rfl rfl<|?_
      cases hm
      exact ⟨rfl,H.reads b⟩

def nX(x1:aC):Option Bool:=
  (uH x1).bind fun b=>some (!b)
theorem J1{x1:aC}{b:Value}{c:Nat}(H:Sep w (Blk c 254 [.func (.func 192) #[] #[]]::Fo) rs)(d:rSl aU b x1.Events ∈ rs){r:Bool}(hm:nX x1=some r) :
    Calls Tryz.prog 244 [.agg (nC x1 b).toArray,pt c 0].toArray w (Ret fun v w'=>.bool r=v∧Sep w' (Blk c 254 [.func (.func 192) #[] #[]]::Fo) (rs)):=by
 unfold nX at hm
 refine ent Tryz.func244 rfl Tryz.ntmps244 rfl rfl fun a E=>sq<|bS E H (wn rfl) rfl rfl rfl rfl rfl fun f w a H E=>pr 1 E rfl fun a E=>nx<|lb E H 1 rfl rfl rfl rfl rfl rfl rfl KT rfl fun a E=>sv E rfl rfl rfl (cD (i:=0) (us:=(nC x1 b)) E H rfl rfl rfl rfl Gy rfl uZ) fun a E=>bd hm fun g e hm=>aX E (wn rfl) rfl rfl (bP E rfl rfl rfl (HI _)) (Gj H d e)<|?_
 rintro _ w ⟨rfl,H⟩ a E
 refine pr 2 E rfl fun a E=>nt<|wp_ret<|bB E rfl rfl<|have H:=H.drop 0;?_
 cases hm
 exact ⟨rfl,H.reads Y0⟩

def dV(c:List aC):Nat→Int→Option Int
  | 0,_=>none
  | e+1,b=>
    if (decide (b < (c.length:Int)))=true then ((idx c b).bind fun f=>(nX f).bind fun d=>if d=true then (some (b)) else (dV c e (IntKind.i64.wrap (b+1)))) else (some ((-1)))
def fZ(b:List aC):Option Int:=
  dV b (((b.length:Int) - 0:Int).toNat+1) 0
theorem vN{i:Value}{d:List aC}{e:Nat}(H:Sep w (Blk e 254 [.func (.func 192) #[] #[]]::Fo) rs)(g:rSl aO i d ∈ rs){r:Int}(hm:fZ d=some r) :
    Calls Tryz.prog 284 [i,.func (.func 244) #[] #[pt e 0]].toArray w (Ret fun v w'=>.int .i64 r=v∧Sep w' (Blk e 254 [.func (.func 192) #[] #[]]::Fo) (rs)):=by
 unfold fZ at hm
 refine ent Tryz.func284 rfl Tryz.ntmps284 rfl rfl fun a E=>sq<|pr 1 E rfl fun a E=>nt<|wp_seq<|sq<|pr 1 E rfl fun a E=>sv E rfl rfl rfl (dB E H rfl rfl g U76) fun a E=>pr 1 E rfl fun a E=>?_
 refine nt<|wp_block<|cA (fun c a w=>∃ j f,Env 19 a [(0,i),(1,.func (.func 244) #[] #[pt e 0]),(7,.int .i64 (d.length:Int)),(8,.int .i64 j)]∧Sep w (Blk e 254 [.func (.func 192) #[] #[]]::Fo) f∧(∀ r,r ∈ rs→r ∈ f)∧dV d c j=some r) (((d.length:Int) - 0:Int).toNat+1) ?_ ?_
 ·exact ⟨_,_,E.to rfl,H,Y0,hm⟩
 ·clear E H hm
  rintro c a w ⟨j,f,E,H,b,hm⟩
  cases c with
  | zero=>exact (bW hm rfl).elim
  | succ c=>
   unfold dV at hm
   refine sq<|pr 1 E rfl fun a E=>nt<|wp_seq<|wif E hm rfl (fun hm=>?_) fun hm=>?_
   ·refine wp_skip<|aD<|wp_seq<|wp_block<|sq<|pr 2 E rfl fun a E=>nx<|pr 3 E rfl fun a E=>bd hm fun p l hm=>?_
    refine dF E H (wn rfl) rfl rfl rfl rfl rfl (b _ g) U76 uZ l fun q10 a H E=>Z9 E H (wn rfl) rfl rfl rfl rfl m0 Gy rfl uZ fun m a H E=>?_
    obtain ⟨n,rfl,h⟩:=G1 H;clear H;have H:=h
    refine bd hm fun o k hm=>aX E (wn rfl) rfl rfl (bP E rfl rfl rfl (HG _)) (J1 H m0 k)<|?_
    rintro _ w ⟨rfl,H⟩ a E
    refine nt<|wif E hm rfl (fun hm=>?_) fun hm=>?_
    ·refine sq<|pr 2 E rfl fun a E=>nt<|wp_ret<|bU<|aP<|aP<|bU<|aP<|?_
     refine bB E rfl rfl<|?_
     cases hm
     exact ⟨rfl,H.reads (Y3 b)⟩
    ·exact wp_skip<|bY<|aD<|wp_region_lit<|pr 2 E rfl fun a E=>nt<|⟨c,Nat.lt_succ_self c,_,_,E.to rfl,H,(Y3 b),hm⟩
   ·refine wp_exit<|bH<|bH<|dZ<|aD<|sq<|pr 1 E rfl fun a E=>nt<|wp_ret<|?_
    refine bB E rfl rfl<|?_
    cases hm
    exact ⟨rfl,H.reads b⟩

def fO(b:List aC):Option Bool:=
  (fZ b).bind fun c=>some (decide (c ≥ 0))
theorem uI{c:Value}{d:List aC}{b:Nat}(H:Sep w (Blk b 254 [.func (.func 192) #[] #[]]::Fo) rs)(e:rSl aO c d ∈ rs){r:Bool}(hm:fO d=some r) :
    Calls Tryz.prog 243 [c,.func (.func 244) #[] #[pt b 0]].toArray w (Ret fun v w'=>.bool r=v∧Sep w' (Blk b 254 [.func (.func 192) #[] #[]]::Fo) (rs)):=by
 unfold fO at hm
 refine ent Tryz.func243 rfl Tryz.ntmps243 rfl rfl fun a E=>sq<|pr 1 E rfl fun a E=>nx<|pr 2 E rfl fun a E=>bd hm fun g f hm=>xk E rfl rfl rfl rfl rfl HF (vN H e f) fun w H a E=>pr 2 E rfl fun a E=>nt<|?_
 refine wp_ret<|bB E rfl rfl<|?_
 cases hm
 exact ⟨rfl,H.reads Y0⟩

def lU(b:List aC):Option Bool:=
  (fO b).bind fun c=>some (!c)
theorem M3{b:Value}{c:List aC}(H:Sep w (Fo) rs)(d:rSl aO b c ∈ rs){r:Bool}(hm:lU c=some r) :
    Calls Tryz.prog 191 [b,.func (.func 192) #[] #[]].toArray w (Ret fun v w'=>.bool r=v∧Sep w' (Fo) (rs)):=by
 unfold lU at hm
 refine ent Tryz.func191 rfl Tryz.ntmps191 rfl rfl fun a E=>sq<|bS E H (wn rfl) rfl rfl rfl rfl rfl fun f w a H E=>pr 1 E rfl fun a E=>nx<|pr 1 E rfl fun a E=>sv E rfl rfl rfl (kH E rfl rfl rfl) fun a E=>bd hm fun g e hm=>xk E rfl rfl rfl rfl rfl HE (uI H d e) fun w H a E=>?_
 refine pr 2 E rfl fun a E=>nt<|wp_ret<|bB E rfl rfl<|have H:=H.drop 0;?_
 cases hm
 exact ⟨rfl,H.reads Y0⟩

def w5(x1:aJ):Option Bool:=
  (nR x1.Session).bind fun b=>if b=true then ((nR x1.Num).bind fun c=>if c=true then ((eP x1.Path).bind fun d=>some (d)) else (some (false))) else (some (false))
theorem W8{x1:aJ}(H:Sep w (Fo) rs){r:Bool}(hm:w5 x1=some r) :
    Calls Tryz.prog 128 [.agg (eG x1).toArray].toArray w (Ret fun v w'=>.bool r=v∧Sep w' (Fo) (rs)):=by
 unfold w5 at hm
 refine ent Tryz.func128 rfl Tryz.ntmps128 rfl rfl fun a E=>sq<|bS E H (wn rfl) rfl rfl rfl rfl rfl fun j w a H E=>pr 1 E rfl fun a E=>nx<|pr 1 E rfl fun a E=>lb E H 0 rfl rfl rfl rfl rfl rfl rfl U2 rfl fun a E=>bd hm fun k f hm=>xk E rfl rfl rfl rfl rfl Jk (a8 H f) fun w H a E=>?_
 refine pr 1 E rfl fun a E=>cs hm (fun b hm=>?_) fun b hm=>?_
 ·refine pk 1 E (kc 6 rfl b) rfl fun a E=>aQ E (ws' (d:=6) E rfl rfl rfl rfl b) rfl rfl (bT (i:=0) E H rfl rfl rfl rfl U2 rfl) fun a E=>bd hm fun l g hm=>aX E (ws' (d:=6) E rfl rfl rfl rfl b) rfl rfl (cG E rfl rfl (Jk _)) (a8 H g)<|?_
  rintro _ w ⟨rfl,H⟩ a E
  refine pk 2 E (kc 6 rfl b) rfl fun a E=>cs hm (fun c hm=>?_) fun c hm=>?_
  ·refine pk 1 E (kc 11 rfl c) rfl fun a E=>aQ E (ws' (d:=11) E rfl rfl rfl rfl c) rfl rfl (bT (i:=0) E H rfl rfl rfl rfl U9 rfl) fun a E=>bd hm fun m e hm=>aX E (ws' (d:=11) E rfl rfl rfl rfl c) rfl rfl (cG E rfl rfl (A7 _)) (iI H e)<|?_
   rintro _ w ⟨rfl,H⟩ a E
   refine pk 2 E (kc 11 rfl c) rfl fun a E=>nt<|wp_ret<|bB E rfl rfl<|have H:=H.drop 0;?_
   cases hm
   exact ⟨rfl,H.reads Y0⟩
  ·refine pk 5 E (kc 11 rfl c) rfl fun a E=>nt<|wp_ret<|bB E rfl rfl<|have H:=H.drop 0;?_
   cases hm
   exact ⟨rfl,H.reads Y0⟩
 ·refine pk 10 E (kc 6 rfl b) rfl fun a E=>nt<|wp_ret<|bB E rfl rfl<|have H:=H.drop 0;?_
  cases hm
  exact ⟨rfl,H.reads Y0⟩

def tQ(x1:aJ):Option Bool:=
  (w5 x1).bind fun b=>some (!b)
theorem M4{x1:aJ}{b:Nat}(H:Sep w (Blk b 189 [.func (.func 128) #[] #[]]::Fo) rs){r:Bool}(hm:tQ x1=some r) :
    Calls Tryz.prog 242 [.agg (eG x1).toArray,pt b 0].toArray w (Ret fun v w'=>.bool r=v∧Sep w' (Blk b 189 [.func (.func 128) #[] #[]]::Fo) (rs)):=by
 unfold tQ at hm
 refine ent Tryz.func242 rfl Tryz.ntmps242 rfl rfl fun a E=>sq<|bS E H (wn rfl) rfl rfl rfl rfl rfl fun d w a H E=>pr 1 E rfl fun a E=>nx<|lb E H 1 rfl rfl rfl rfl rfl rfl rfl KS rfl fun a E=>sv E rfl rfl rfl (cD (i:=0) (us:=(eG x1)) E H rfl rfl rfl rfl U39 rfl sY) fun a E=>bd hm fun e c hm=>aX E (wn rfl) rfl rfl (bP E rfl rfl rfl (Xi _)) (W8 H c)<|?_
 rintro _ w ⟨rfl,H⟩ a E
 refine pr 2 E rfl fun a E=>nt<|wp_ret<|bB E rfl rfl<|have H:=H.drop 0;?_
 cases hm
 exact ⟨rfl,H.reads Y0⟩

def gF(c:List aJ):Nat→Int→Option Int
  | 0,_=>none
  | e+1,b=>
    if (decide (b < (c.length:Int)))=true then ((idx c b).bind fun f=>(tQ f).bind fun d=>if d=true then (some (b)) else (gF c e (IntKind.i64.wrap (b+1)))) else (some ((-1)))
def kC(b:List aJ):Option Int:=
  gF b (((b.length:Int) - 0:Int).toNat+1) 0
theorem yC{i:Value}{d:List aJ}{e:Nat}(H:Sep w (Blk e 189 [.func (.func 128) #[] #[]]::Fo) rs)(g:rSl aY i d ∈ rs){r:Int}(hm:kC d=some r) :
    Calls Tryz.prog 194 [i,.func (.func 242) #[] #[pt e 0]].toArray w (Ret fun v w'=>.int .i64 r=v∧Sep w' (Blk e 189 [.func (.func 128) #[] #[]]::Fo) (rs)):=by
 unfold kC at hm
 refine ent Tryz.func194 rfl Tryz.ntmps194 rfl rfl fun a E=>sq<|pr 1 E rfl fun a E=>nt<|wp_seq<|sq<|pr 1 E rfl fun a E=>sv E rfl rfl rfl (dB E H rfl rfl g U75) fun a E=>pr 1 E rfl fun a E=>?_
 refine nt<|wp_block<|cA (fun c a w=>∃ j f,Env 19 a [(0,i),(1,.func (.func 242) #[] #[pt e 0]),(7,.int .i64 (d.length:Int)),(8,.int .i64 j)]∧Sep w (Blk e 189 [.func (.func 128) #[] #[]]::Fo) f∧(∀ r,r ∈ rs→r ∈ f)∧gF d c j=some r) (((d.length:Int) - 0:Int).toNat+1) ?_ ?_
 ·exact ⟨_,_,E.to rfl,H,Y0,hm⟩
 ·clear E H hm
  rintro c a w ⟨j,f,E,H,b,hm⟩
  cases c with
  | zero=>exact (bW hm rfl).elim
  | succ c=>
   unfold gF at hm
   refine sq<|pr 1 E rfl fun a E=>nt<|wp_seq<|wif E hm rfl (fun hm=>?_) fun hm=>?_
   ·refine wp_skip<|aD<|wp_seq<|wp_block<|sq<|pr 2 E rfl fun a E=>nx<|pr 3 E rfl fun a E=>bd hm fun n l hm=>?_
    refine dF E H (wn rfl) rfl rfl rfl rfl rfl (b _ g) U75 sY l fun q10 a H E=>ldf jM E H rfl rfl rfl rfl rfl m0 U39 rfl sY fun a E=>bd hm fun m k hm=>aX E (wn rfl) rfl rfl (bP E rfl rfl rfl (HC _)) (M4 H k)<|?_
    rintro _ w ⟨rfl,H⟩ a E
    refine nt<|wif E hm rfl (fun hm=>?_) fun hm=>?_
    ·refine sq<|pr 2 E rfl fun a E=>nt<|wp_ret<|bU<|aP<|aP<|bU<|aP<|?_
     refine bB E rfl rfl<|?_
     cases hm
     exact ⟨rfl,H.reads (Y1 b)⟩
    ·exact wp_skip<|bY<|aD<|wp_region_lit<|pr 2 E rfl fun a E=>nt<|⟨c,Nat.lt_succ_self c,_,_,E.to rfl,H,(Y1 b),hm⟩
   ·refine wp_exit<|bH<|bH<|dZ<|aD<|sq<|pr 1 E rfl fun a E=>nt<|wp_ret<|?_
    refine bB E rfl rfl<|?_
    cases hm
    exact ⟨rfl,H.reads b⟩

def jE(b:List aJ):Option Bool:=
  (kC b).bind fun c=>some (decide (c ≥ 0))
theorem wA{c:Value}{d:List aJ}{b:Nat}(H:Sep w (Blk b 189 [.func (.func 128) #[] #[]]::Fo) rs)(e:rSl aY c d ∈ rs){r:Bool}(hm:jE d=some r) :
    Calls Tryz.prog 241 [c,.func (.func 242) #[] #[pt b 0]].toArray w (Ret fun v w'=>.bool r=v∧Sep w' (Blk b 189 [.func (.func 128) #[] #[]]::Fo) (rs)):=by
 unfold jE at hm
 refine ent Tryz.func241 rfl Tryz.ntmps241 rfl rfl fun a E=>sq<|pr 1 E rfl fun a E=>nx<|pr 2 E rfl fun a E=>bd hm fun g f hm=>xk E rfl rfl rfl rfl rfl Pn (yC H e f) fun w H a E=>pr 2 E rfl fun a E=>nt<|?_
 refine wp_ret<|bB E rfl rfl<|?_
 cases hm
 exact ⟨rfl,H.reads Y0⟩

def rG(b:List aJ):Option Bool:=
  (jE b).bind fun c=>some (!c)
theorem S4{b:Value}{c:List aJ}(H:Sep w (Fo) rs)(d:rSl aY b c ∈ rs){r:Bool}(hm:rG c=some r) :
    Calls Tryz.prog 190 [b,.func (.func 128) #[] #[]].toArray w (Ret fun v w'=>.bool r=v∧Sep w' (Fo) (rs)):=by
 unfold rG at hm
 refine ent Tryz.func190 rfl Tryz.ntmps190 rfl rfl fun a E=>sq<|bS E H (wn rfl) rfl rfl rfl rfl rfl fun f w a H E=>pr 1 E rfl fun a E=>nx<|pr 1 E rfl fun a E=>sv E rfl rfl rfl (kH E rfl rfl rfl) fun a E=>bd hm fun g e hm=>xk E rfl rfl rfl rfl rfl HB (wA H d e) fun w H a E=>?_
 refine pr 2 E rfl fun a E=>nt<|wp_ret<|bB E rfl rfl<|have H:=H.drop 0;?_
 cases hm
 exact ⟨rfl,H.reads Y0⟩

def y1(rec_1:Int→(List ((Int×Int)×Int))→Option Bool)(c:Int)(b:(List ((Int×Int)×Int))):Option Bool:=
  rec_1 (IntKind.i64.wrap (c+1)) b
def wO(rec_2:Bool→Int→Option Bool)(b:Int)(c:Bool):Option Bool:=
  rec_2 c (IntKind.i64.wrap (b+1))
def lL(x1:bM)(d:(List ((Int×Int)×Int))):Nat→Bool→Int→Option Bool
  | 0,_,_=>none
  | e+1,c,b=>
    if (decide (b < (x1.Sessions.length:Int)))=true then (if c=true then ((idx x1.Sessions (IntKind.i64.wrap (b - 1))).bind fun f=>(idx x1.Sessions b).bind fun g=>wO (lL x1 d e) b (decide (f.Num < g.Num))) else (wO (lL x1 d e) b false)) else (if (decide ((x1.Watches.length:Int) ≤ 64))=true then (if ((d.length:Int) == (x1.Watches.length:Int))=true then ((rG x1.Watches).bind fun i=>if i=true then ((lU x1.Sessions).bind fun j=>if j=true then (some (c)) else (some (false))) else (some (false))) else (some (false))) else (some (false)))
def tD(x1:bM):Nat→Int→(List ((Int×Int)×Int))→Option Bool
  | 0,_,_=>none
  | f+1,d,c=>
    if (decide (d < (x1.Watches.length:Int)))=true then ((idx x1.Watches d).bind fun b=>(mlk x2 c (b.Session,b.Num)).bind fun e=>(ck (x2.ok (b.Session,b.Num)=true∧c.length+1 < maxLen)).bind fun g=>y1 (tD x1 f) d (oC c (b.Session,b.Num) (IntKind.i64.wrap ((e.getD 0)+1)))) else (lL x1 c (((x1.Sessions.length:Int) - 1:Int).toNat+1) true 1)
def pB(x1:bM):Option Bool:=
  tD x1 (((x1.Watches.length:Int) - 0:Int).toNat+1) 0 []
theorem w6{x1:bM}{m G:Value}(H:Sep w (Fo) rs)(n:rSl aY m x1.Watches ∈ rs)(I:rSl aO G x1.Sessions ∈ rs){r:Bool}(hm:pB x1=some r) :
    Calls Tryz.prog 127 [.agg #[m,G]].toArray w (Ret fun v w'=>.bool r=v∧Sep w' (Fo) (rs)):=by
 unfold pB at hm
 refine ent Tryz.func127 rfl Tryz.ntmps127 rfl rfl fun a E=>sq<|bS E H (wn rfl) rfl rfl rfl rfl rfl fun o w a H E=>pr 1 E rfl fun a E=>nx<|xN (k:=251) (K:=x2) (d:=(kI .i64)) (g:=false) E H (wn rfl) rfl rfl rfl fun p w a H E=>pr 1 E rfl fun a E=>nt<|wp_seq<|?_
 refine sq<|pr 1 E rfl fun a E=>lb E H 1 rfl rfl rfl rfl rfl rfl rfl U75 rfl fun a E=>sv E rfl rfl rfl (dB E H rfl rfl n U75) fun a E=>pr 1 E rfl fun a E=>nt<|wp_block<|cA (fun s a w=>∃ J t x,Env 76 a [(1,pt o 0),(3,.map (some p)),(10,m),(11,.int .i64 (x1.Watches.length:Int)),(12,.int .i64 J)]∧Sep w (Blk o 78 [m,G]::cC Tryz.prog 251 x2 (kI .i64) false p t::Fo) x∧(∀ r,r ∈ rs→r ∈ x)∧tD x1 s J t=some r) (((x1.Watches.length:Int) - 0:Int).toNat+1) ?_ ?_
 ·exact have H:=H.frs [0,1] rfl;X3 ⟨E.to rfl,H,Y0,hm⟩
 ·clear E H hm
  rintro s a w ⟨J,t,x,E,H,l,hm⟩
  cases s with
  | zero=>exact (bW hm rfl).elim
  | succ s=>
   unfold tD at hm
   refine sq<|pr 1 E rfl fun a E=>nt<|wp_seq<|wif E hm rfl (fun hm=>?_) fun hm=>?_
   ·refine wp_skip<|aD<|aT (fun a w=>∃ L y,Env 76 a [(1,pt o 0),(3,.map (some p)),(10,m),(11,.int .i64 (x1.Watches.length:Int)),(12,.int .i64 J)]∧Sep w (Blk o 78 [m,G]::cC Tryz.prog 251 x2 (kI .i64) false p L::Fo) y∧(∀ r,r ∈ rs→r ∈ y)∧y1 (tD x1 s) J L=some r) ?_ ?_
    ·refine wp_block<|sq<|bd hm fun D S hm=>dF E H (wn rfl) rfl rfl rfl rfl rfl (l _ n) U75 sY S fun q17 a H E=>ldf jM E H rfl rfl rfl rfl rfl m0 U39 rfl sY fun a E=>al E H rfl rfl rfl rfl CX fun F w a H E=>bC (i:=0) E H (wn rfl) rfl rfl rfl rfl rfl rfl sY rfl rfl fun w H=>nt<|bd hm fun R M hm=>?_
     refine bk hm fun N hm=>?_
     have hI:eK [Blk F 39 (eG D)] [] { w with drawn:=w.drawn+1 }:=⟨_,_,H.kept (Kp.drawn _ w _),(aB m0 (aL)),(aN)⟩
     refine lZ _ (.go 0 0 (.go 1 0 (.go 2 0 (.go 3 0 (.go 4 0 (.go 5 0 (.alt 6 (.go 7 0 (.go 8 1 (.go 9 0 (.go 10 2 .nil)))) 8 (.go 9 0 (.go 6 1 (.go 7 0 (.go 10 2 .nil))))))))))) [10] mI (by kernel_rfl) (fun _ _ _ h=>False.elim h.2) hI<|have H:=H.kept (Kp.drawn _ w (w.drawn+1));?_
     generalize ({ w with drawn:=w.drawn+1 }:World)=w at H hI ⊢
     replace hI:∃ W,eK [Blk F 39 (eG D)] [] W:=⟨_,hI⟩
     obtain ⟨W0,hI⟩:=hI
     refine aZ E rfl (wn rfl) rfl rfl (fun w hW=>(bD E rfl rfl)) fun a E=>aZ E rfl (wn rfl) rfl rfl (fun w hW=>lB E rfl rfl (v:=pt F 0) (Fu _ _)) fun a E=>aZ E rfl (wn rfl) rfl rfl (fun w hW=>gK E rfl rfl (mE m0 rfl U2 rfl w hW)) fun a E=>aZ E rfl (wn rfl) rfl rfl (fun w hW=>lB E rfl rfl (v:=pt F 1) (Lb _ _)) fun a E=>aZ E rfl (wn rfl) rfl rfl (fun w hW=>gK E rfl rfl (mE m0 rfl U2 rfl w hW)) fun a E=>aZ E rfl (wn rfl) rfl rfl (fun w hW=>(cN E rfl (E.evs rfl) (v:=.agg #[.int .i64 D.Session,.int .i64 D.Num]) (by kernel_rfl))) fun a E=>?_
     refine mS rfl rfl ?_ ?_
     ·refine sv E rfl rfl rfl (Ku (i:=2) (K:=x2) (z0:=0) (u:=R) E H rfl rfl rfl rfl R6 Ee Ld M) fun a E=>nt<|?_
      refine ⟨⟨_,_,H,(aB m0 (aL)),(aN)⟩,?_⟩
      refine aZ E rfl (wn rfl) rfl rfl (fun w hW=>(lA E rfl rfl rfl rfl)) fun a E=>cP rfl<|Cv (i:=2) (K:=x2) (z0:=0) E H (wn rfl) rfl rfl rfl rfl rfl rfl R6 Ee Ld N fun q33 w a H E=>nt<|?_
      refine ⟨⟨_,_,H,(aB m0 (aL)),(aN)⟩,?_⟩
      refine aZ E rfl (wn rfl) rfl rfl (fun w hW=>(dK E rfl rfl rfl)) fun a E=>dA rfl<|W4 (i:=2) (K:=x2) E H (wn rfl) rfl rfl rfl rfl rfl rfl R6 Ee fun w H=>nt<|eV<|?_
      clear hI
      exact bY<|aD<|have H:=H.drop 0;⟨_,_,E.to rfl,H,(Y1 l),hm⟩
     ·refine Cv (i:=2) (K:=x2) (z0:=0) E H (wn rfl) rfl rfl rfl rfl rfl rfl R6 Ee Ld N fun q36 w a H E=>nt<|?_
      refine ⟨⟨_,_,H,(aB m0 (aL)),(aN)⟩,?_⟩
      refine aZ E rfl (wn rfl) rfl rfl (fun w hW=>(dK E rfl rfl rfl)) fun a E=>cP rfl<|sv E rfl rfl rfl (Ut (i:=2) (K:=x2) (z0:=0) (u:=R) E H rfl rfl rfl rfl R6 Ee Ld M) fun a E=>nt<|?_
      refine ⟨⟨_,_,H,(aB m0 (aL)),(aN)⟩,?_⟩
      refine aZ E rfl (wn rfl) rfl rfl (fun w hW=>(lA E rfl rfl rfl rfl)) fun a E=>dA rfl<|W4 (i:=2) (K:=x2) E H (wn rfl) rfl rfl rfl rfl rfl rfl R6 Ee fun w H=>nt<|eV<|?_
      clear hI
      exact bY<|aD<|have H:=H.drop 0;⟨_,_,E.to rfl,H,(Y1 l),hm⟩
    ·clear E H hm
     rintro a w ⟨L,y,E,H,T,hm⟩
     unfold y1 at hm
     exact wp_region_lit<|pr 2 E rfl fun a E=>nt<|⟨s,Nat.lt_succ_self s,X3 ⟨E.to rfl,H,T,hm⟩⟩
   ·refine wp_exit<|bH<|bH<|dZ<|aD<|sq<|pr 1 E rfl fun a E=>nt<|wp_seq<|?_
    refine sq<|pr 1 E rfl fun a E=>nt<|wp_block<|cA (fun z a w=>∃ O q A,Env 76 a [(1,pt o 0),(3,.map (some p)),(6,.bool O),(7,.int .i64 q)]∧Sep w (Blk o 78 [m,G]::cC Tryz.prog 251 x2 (kI .i64) false p t::Fo) A∧(∀ r,r ∈ rs→r ∈ A)∧lL x1 t z O q=some r) (((x1.Sessions.length:Int) - 1:Int).toNat+1) ?_ ?_
    ·exact X3 ⟨E.to rfl,H,l,hm⟩
    ·clear E H hm
     rintro z a w ⟨O,q,A,E,H,c,hm⟩
     cases z with
     | zero=>exact (bW hm rfl).elim
     | succ z=>
      unfold lL at hm
      refine wp_seq<|sq<|pr 2 E rfl fun a E=>lb E H 0 rfl rfl rfl rfl rfl rfl rfl U76 rfl fun a E=>sv E rfl rfl rfl (dB E H rfl rfl (c _ I) U76) fun a E=>pr 1 E rfl fun a E=>nt<|wif E hm rfl (fun hm=>?_) fun hm=>?_
      ·refine wp_skip<|aD<|aT (fun a w=>∃ Q B,Env 76 a [(1,pt o 0),(3,.map (some p)),(6,.bool Q),(7,.int .i64 q)]∧Sep w (Blk o 78 [m,G]::cC Tryz.prog 251 x2 (kI .i64) false p t::Fo) B∧(∀ r,r ∈ rs→r ∈ B)∧wO (lL x1 t z) q Q=some r) ?_ ?_
       ·refine wp_block<|?_
        obtain ⟨b6,H⟩:=H.raw (c _ I)
        refine dw [(0,0),(1,0),(2,0),(3,0),(4,0),(5,0),(6,0),(7,0),(8,0),(9,0),(10,0),(11,0),(12,0),(13,0),(14,0),(15,0),(16,0),(17,2)] [0] [0] H (by kernel_rfl) (fun _ _ _ h=>False.elim h.2) fun w W0 hI H=>fn 2 E rfl fun a E=>cs hm (fun b hm=>?_) fun b hm=>?_
        ·refine fk 1 E (kc 35 rfl b) rfl fun a E=>fb E rfl (ws' (d:=35) E rfl rfl rfl rfl b) rfl rfl rfl rfl m0 rfl U76 rfl fun a E=>fk 2 E (kc 35 rfl b) rfl fun a E=>bd hm fun b7 U hm=>?_
         obtain ⟨q50,b8,V,X⟩:=sW (P:=Tryz.prog) (k:=.i64) hI (sV (.head _)) U76 uZ U
         refine cB E rfl (ws' (d:=35) E rfl rfl rfl rfl b) rfl rfl (fun w hW=>wF E rfl rfl rfl (V w)) fun a E=>?_
         have Y:=yX X (fun _ _ _ h=>I5 h)
         refine fk 1 E (kc 35 rfl b) rfl fun a E=>fa E rfl (ws' (d:=35) E rfl rfl rfl rfl b) rfl rfl rfl rfl Y U2 rfl fun a E=>fk 1 E (kc 35 rfl b) rfl fun a E=>fb E rfl (ws' (d:=35) E rfl rfl rfl rfl b) rfl rfl rfl rfl m0 rfl U76 rfl fun a E=>fk 1 E (kc 35 rfl b) rfl fun a E=>bd hm fun b9 Z hm=>?_
         obtain ⟨q57,c0,b0,b1⟩:=sW (P:=Tryz.prog) (k:=.i64) hI (sV (.head _)) U76 uZ Z
         refine cB E rfl (ws' (d:=35) E rfl rfl rfl rfl b) rfl rfl (fun w hW=>wF E rfl rfl rfl (b0 w)) fun a E=>?_
         have b2:=yX b1 (fun _ _ _ h=>I5 h)
         refine fk 1 E (kc 35 rfl b) rfl fun a E=>fa E rfl (ws' (d:=35) E rfl rfl rfl rfl b) rfl rfl rfl rfl b2 U2 rfl fun a E=>fk 2 E (kc 35 rfl b) rfl fun a E=>bQ rfl<|pr 1 E rfl fun a E=>nt<|bR<|?_
         clear hI
         exact bY<|aD<|⟨_,_,E.to rfl,H,(Y1 c),hm⟩
        ·refine fk 15 E (kc 35 rfl b) rfl fun a E=>bQ rfl<|pr 1 E rfl fun a E=>nt<|bR<|?_
         clear hI
         exact bY<|aD<|⟨_,_,E.to rfl,H,(Y1 c),hm⟩
       ·clear E H hm
        rintro a w ⟨Q,B,E,H,b3,hm⟩
        unfold wO at hm
        exact wp_region_lit<|pr 3 E rfl fun a E=>nt<|⟨z,Nat.lt_succ_self z,X3 ⟨E.to rfl,H,b3,hm⟩⟩
      ·refine wp_exit<|bH<|bH<|dZ<|aD<|sq<|pr 1 E rfl fun a E=>lb E H 0 rfl rfl rfl rfl rfl rfl rfl U75 rfl fun a E=>sv E rfl rfl rfl (dB E H rfl rfl (c _ n) U75) fun a E=>?_
       refine pr 2 E rfl fun a E=>cs hm (fun e hm=>?_) fun e hm=>?_
       ·refine pk 1 E (kc 55 rfl e) rfl fun a E=>aQ E (ws' (d:=55) E rfl rfl rfl rfl e) rfl rfl (F2 (i:=1) E H rfl rfl rfl Ee) fun a E=>pk 1 E (kc 55 rfl e) rfl fun a E=>aQ E (ws' (d:=55) E rfl rfl rfl rfl e) rfl rfl (bT (i:=0) E H rfl rfl rfl rfl U75 rfl) fun a E=>aQ E (ws' (d:=55) E rfl rfl rfl rfl e) rfl rfl (dB E H rfl rfl (c _ n) U75) fun a E=>pk 3 E (kc 55 rfl e) rfl fun a E=>cs hm (fun f hm=>?_) fun f hm=>?_
        ·refine pk 1 E (kc 63 rfl f) rfl fun a E=>aQ E (ws' (d:=63) E rfl rfl rfl rfl f) rfl rfl (bT (i:=0) E H rfl rfl rfl rfl U75 rfl) fun a E=>bd hm fun c1 b4 hm=>aX E (ws' (d:=63) E rfl rfl rfl rfl f) rfl rfl (cG E rfl rfl (HA _)) (S4 H (c _ n) b4)<|?_
         rintro _ w ⟨rfl,H⟩ a E
         refine pk 2 E (kc 63 rfl f) rfl fun a E=>cs hm (fun j hm=>?_) fun j hm=>?_
         ·refine pk 1 E (kc 68 rfl j) rfl fun a E=>aQ E (ws' (d:=68) E rfl rfl rfl rfl j) rfl rfl (bT (i:=0) E H rfl rfl rfl rfl U76 rfl) fun a E=>bd hm fun c2 b5 hm=>aX E (ws' (d:=68) E rfl rfl rfl rfl j) rfl rfl (cG E rfl rfl (HD _)) (M3 H (c _ I) b5)<|?_
          rintro _ w ⟨rfl,H⟩ a E
          refine pk 2 E (kc 68 rfl j) rfl fun a E=>cs hm (fun C hm=>?_) fun C hm=>?_
          ·refine pk 3 E (kc 73 rfl C) rfl fun a E=>nt<|wp_ret<|bB E rfl rfl<|have H:=H.drs [0,0];?_
           cases hm
           exact ⟨rfl,H.reads c⟩
          ·refine pk 3 E (kc 73 rfl C) rfl fun a E=>nt<|wp_ret<|bB E rfl rfl<|have H:=H.drs [0,0];?_
           cases hm
           exact ⟨rfl,H.reads c⟩
         ·refine pk 8 E (kc 68 rfl j) rfl fun a E=>nt<|wp_ret<|bB E rfl rfl<|have H:=H.drs [0,0];?_
          cases hm
          exact ⟨rfl,H.reads c⟩
        ·refine pk 13 E (kc 63 rfl f) rfl fun a E=>nt<|wp_ret<|bB E rfl rfl<|have H:=H.drs [0,0];?_
         cases hm
         exact ⟨rfl,H.reads c⟩
       ·refine pk 21 E (kc 55 rfl e) rfl fun a E=>nt<|wp_ret<|bB E rfl rfl<|have H:=H.drs [0,0];?_
        cases hm
        exact ⟨rfl,H.reads c⟩

def mG(x1:bM)(d:ByteArray)(e:Int)(c:Bool):Option (bM×Int):=
  if c=true then (some ((⟨[],[]⟩:bM),1)) else ((ck (x1.Sessions.length ≤ LIM)).bind fun f=>(ck (x1.Watches.length ≤ LIM)).bind fun g=>(fI x1.Watches d x1.Sessions e).bind fun b=>some ((⟨b.1,b.2⟩:bM),0))
def zH(x1:bM)(b:Int)(c:ByteArray):Option (bM×Int):=
  (pB x1).bind fun d=>if (!d)=true then (mG x1 c b true) else (if (decide (b < 1))=true then (mG x1 c b true) else (if (decide (b > 3))=true then (mG x1 c b true) else ((eP c).bind fun e=>mG x1 c b (!e))))
theorem Ln{x1:bM}{l m:Value}{n:Int}{o:ByteArray}(H:Sep w (Fo) rs)(p:rSl aY l x1.Watches ∈ rs)(q:rSl aO m x1.Sessions ∈ rs){r:bM×Int}(hm:zH x1 n o=some r) :
    Calls Tryz.prog 213 [.agg #[l,m],.int .i64 n,.string o].toArray w (Ret fun v w'=>∃ C D,.tuple #[.agg #[C,D],.int .i64 r.2]=v∧Sep w' (Fo) (rSl aY C r.1.Watches::rSl aO D r.1.Sessions::rs)):=by
 unfold zH at hm
 refine ent Tryz.func213 rfl Tryz.ntmps213 rfl rfl fun a E=>sq<|bS E H (wn rfl) rfl rfl rfl rfl rfl fun F w a H E=>bS E H (wn rfl) rfl rfl rfl rfl rfl fun G w a H E=>bS E H (wn rfl) rfl rfl rfl rfl rfl fun s w a H E=>al E H rfl rfl rfl rfl T8 fun t w a H E=>pr 1 E rfl fun a E=>nt<|wp_seq<|aT (fun a w=>∃ j g,Env 36 a [(3,pt F 0),(4,pt G 0),(5,pt s 0),(6,pt t 0),(23,.bool j)]∧Sep w (Blk F 78 [l,m]::Blk G 3 [.int .i64 n]::Blk s 9 [.string o]::Blk t 78 [.slice none 0 0,.slice none 0 0]::Fo) g∧(∀ r,r ∈ rs→r ∈ g)∧mG x1 o n j=some r) ?_ ?_
 ·refine wp_region_lit<|sv E rfl rfl rfl (cD (i:=3) (us:=[l,m]) E H rfl rfl rfl rfl U78 rfl fR) fun a E=>bd hm fun K x hm=>xk E rfl rfl rfl rfl rfl Jj (w6 H p q x) fun w H a E=>pr 2 E rfl fun a E=>cs hm (fun c hm=>?_) fun c hm=>?_
  ·exact pk 12 E (kc 11 rfl c) rfl fun a E=>nt<|have H:=H.frs [0,1,2,3] rfl;⟨_,_,E.to rfl,H,Y0,hm⟩
  ·refine aQ E (ws' (d:=11) E rfl rfl rfl rfl c) rfl rfl (bT (i:=2) E H rfl rfl rfl rfl U3 rfl) fun a E=>pk 3 E (kc 11 rfl c) rfl fun a E=>cs hm (fun e hm=>?_) fun e hm=>?_
   ·exact pk 8 E (kc 15 rfl e) rfl fun a E=>nt<|have H:=H.frs [0,1,2,3] rfl;⟨_,_,E.to rfl,H,Y0,hm⟩
   ·refine aQ E (ws' (d:=15) E rfl rfl rfl rfl e) rfl rfl (bT (i:=2) E H rfl rfl rfl rfl U3 rfl) fun a E=>pk 3 E (kc 15 rfl e) rfl fun a E=>cs hm (fun b hm=>?_) fun b hm=>?_
    ·exact pk 4 E (kc 19 rfl b) rfl fun a E=>nt<|have H:=H.frs [0,1,2,3] rfl;⟨_,_,E.to rfl,H,Y0,hm⟩
    ·refine aQ E (ws' (d:=19) E rfl rfl rfl rfl b) rfl rfl (bT (i:=1) E H rfl rfl rfl rfl U9 rfl) fun a E=>bd hm fun L y hm=>aX E (ws' (d:=19) E rfl rfl rfl rfl b) rfl rfl (cG E rfl rfl (A7 _)) (iI H y)<|?_
     rintro _ w ⟨rfl,H⟩ a E
     exact pk 2 E (kc 19 rfl b) rfl fun a E=>nt<|have H:=H.frs [0,1,2,3] rfl;⟨_,_,E.to rfl,H,Y0,hm⟩
 ·clear E H hm
  rintro a w ⟨j,g,E,H,f,hm⟩
  unfold mG at hm
  refine wif E hm rfl (fun hm=>?_) fun hm=>?_
  ·refine sq<|sv E rfl rfl rfl (cN E rfl (E.evs rfl) (v:=.agg #[.slice none 0 0,.slice none 0 0]) (by kernel_rfl)) fun a E=>bC (i:=3) E H (wn rfl) rfl rfl rfl rfl rfl rfl fR rfl rfl fun w H=>pr 1 E rfl fun a E=>nt<|wp_ret<|aP<|uX E rfl (dH (i:=3) (us:=[.slice none 0 0,.slice none 0 0]) H rfl rfl rfl U78 rfl fR) (rvT rfl)<|have H:=H.nilSl aY;?_
   refine have H:=H.nilSl aO;have H:=H.drs [0,0,0,0];?_
   cases hm
   exact ⟨_,_,rfl,H.reads (aA mm1 (aA m0 (fun r hr=>(t2 (f r hr)))))⟩
  ·refine wp_skip<|aD<|sq<|pr 1 E rfl fun a E=>lb E H 0 rfl rfl rfl rfl rfl rfl rfl U76 rfl fun a E=>bk hm fun z hm=>aX E (wn rfl) rfl rfl (cG E rfl rfl (Jm _)) (fU H (f _ q) z) fun M w H a E=>pr 1 E rfl fun a E=>?_
   obtain ⟨q18,N,rfl⟩:=H.rowform (i:=0) rfl
   refine bC (i:=1) E H (wn rfl) rfl rfl rfl rfl rfl rfl Le rfl rfl fun w H=>nx<|pr 1 E rfl fun a E=>lb E H 1 rfl rfl rfl rfl rfl rfl rfl U75 rfl fun a E=>bk hm fun A hm=>aX E (wn rfl) rfl rfl (cG E rfl rfl (Jo _)) (gR H (f _ p) A) fun O w H a E=>sv E rfl rfl rfl (kH E rfl rfl rfl) fun a E=>have H:=H.frs [5,4,3,4,5,5] rfl;bd hm fun k B hm=>?_
   refine cJ E rfl rfl rfl rfl rfl IW (xI H B)<|?_
   rintro _ w ⟨P,I,rfl,H⟩ a E
   refine pr 1 E rfl fun a E=>?_
   obtain ⟨q27,u,rfl⟩:=H.rowform (i:=0) rfl
   refine bC (i:=2) E H (wn rfl) rfl rfl rfl rfl rfl rfl Pr rfl rfl fun w H=>nx<|sv E rfl rfl rfl (cD (i:=2) (us:=[(.slice q27 k.1.length u),I]) E H rfl rfl rfl rfl U78 rfl fR) fun a E=>?_
   obtain ⟨q29,J,rfl⟩:=H.rowform (i:=4) rfl
   refine bC (i:=5) E H (wn rfl) rfl rfl rfl rfl rfl rfl fR rfl rfl fun w H=>pr 1 E rfl fun a E=>nt<|wp_ret<|uX E rfl (dH (i:=5) (us:=[(.slice q27 k.1.length u),(.slice q29 k.2.length J)]) H rfl rfl rfl U78 rfl fR) (rvT rfl)<|have H:=H.thaw (i:=0) rfl;have H:=H.thaw (i:=3) rfl;have H:=H.drs [0,0,0,0];?_
   cases hm
   exact ⟨_,_,rfl,H.reads (aA mm1 (aA m0 (fun r hr=>(t2 (f r hr)))))⟩

def fF(c:List aJ)(d:List aC)(x20:Int)(e:ByteArray):Option ((List aJ)×(List aC)):=
  (zH (⟨c,d⟩:bM) x20 e).bind fun b=>if (b.2 == 0)=true then (some (b.1.Watches,b.1.Sessions)) else (some (c,d))
theorem sD{s:Nat}{b c j k l m n o p:Value}{d:List aJ}{e:List aC}{x20:Int}{q:ByteArray}(H:Sep w (Blk s 82 [j,k,l,m,b,c,n,o,p]::Fo) rs)(f:rSl aY b d ∈ rs)(g:rSl aO c e ∈ rs){r:(List aJ)×(List aC)}(hm:fF d e x20 q=some r) :
    Calls Tryz.prog 148 [pt s 0,.int .i64 x20,.string q].toArray w (Ret fun v w'=>∃ u x,.tuple #[]=v∧Sep w' (Blk s 82 [j,k,l,m,u,x,n,o,p]::Fo) (rSl aY u r.1::rSl aO x r.2::rs)):=by
 unfold fF at hm
 refine ent Tryz.func148 rfl Tryz.ntmps148 rfl rfl fun a E=>sq<|pr 3 E rfl fun a E=>sv E rfl rfl rfl (cD (i:=0) (us:=[b,c]) E H rfl rfl rfl rfl U78 rfl fR) fun a E=>pr 2 E rfl fun a E=>bd hm fun A t hm=>cJ E rfl rfl rfl rfl rfl IV (Ln (x1:=(⟨d,e⟩:bM)) H f g t)<|?_
 rintro _ w ⟨y,z,rfl,H⟩ a E
 refine pr 3 E rfl fun a E=>al E H rfl rfl rfl rfl T8 fun B w a H E=>bC (i:=0) E H (wn rfl) rfl rfl rfl rfl rfl rfl fR rfl (iH H m0 mm1) fun w H=>pr 1 E rfl fun a E=>nx<|pr 2 E rfl fun a E=>nt<|wif E hm rfl (fun hm=>?_) fun hm=>?_
 ·refine wp_region_lit<|pr 1 E rfl fun a E=>sv E rfl rfl rfl (cD (i:=0) (us:=[y,z]) E H rfl rfl rfl rfl U78 rfl fR) fun a E=>pr 2 E rfl fun a E=>bC (i:=1) E H (wn rfl) rfl rfl rfl rfl rfl rfl fR rfl (iH H m0 mm1) fun w H=>wpList_nil<|rL E rfl<|have H:=H.drop 0;?_
  cases hm
  exact ⟨_,_,rfl,H.reads (aA m0 (aA mm1 (fun r hr=>(t2 hr))))⟩
 ·refine wp_skip<|rL E rfl<|have H:=H.drop 0;?_
  cases hm
  exact ⟨_,_,rfl,H.reads (aA (t2 f) (aA (t2 g) (fun r hr=>(t2 hr))))⟩

def eW(rec_1:Int→(List aJ)→(List aC)→Option ((List aJ)×(List aC)))(b:Int)(c:(List aJ))(d:(List aC)):Option ((List aJ)×(List aC)):=
  rec_1 (IntKind.i64.wrap (b+1)) c d
def kX(rec_1:Int→(List aJ)→(List aC)→Option ((List aJ)×(List aC)))(d:Int)(b:cR)(e:cH):Nat→Int→(List aJ)→(List aC)→Option ((List aJ)×(List aC))
  | 0,_,_,_=>none
  | l+1,c,f,g=>
    if (decide (c < (b.Names.length:Int)))=true then ((idx b.Names c).bind fun j=>(xS e.Part.Path j).bind fun k=>(fF f g 2 k.1).bind fun i=>kX rec_1 d b e l (IntKind.i64.wrap (c+1)) i.1 i.2) else (eW rec_1 d f g)
def eJ(c:List cH)(d:List cR):Nat→Int→(List aJ)→(List aC)→Option ((List aJ)×(List aC))
  | 0,_,_,_=>none
  | i+1,b,f,g=>
    if (decide (b < (c.length:Int)))=true then ((idx c b).bind fun e=>if (e.Part.Kind == 2)=true then ((idx d b).bind fun n=>(fF f g 1 n.Path).bind fun j=>eW (eJ c d i) b j.1 j.2) else (if (e.Part.Kind == 3)=true then ((fF f g 2 e.Part.Path).bind fun k=>eW (eJ c d i) b k.1 k.2) else (if (e.Part.Kind == 5)=true then ((fF f g 3 e.Part.Path).bind fun l=>eW (eJ c d i) b l.1 l.2) else (if (e.Part.Kind == 10)=true then ((idx d b).bind fun m=>kX (eJ c d i) b m e (((m.Names.length:Int) - 0:Int).toNat+1) 0 f g) else (eW (eJ c d i) b f g))))) else (some (f,g))
def qW(c:List aJ)(d:List aC)(b:List cH)(e:List cR):Option ((List aJ)×(List aC)):=
  eJ b e (((b.length:Int) - 0:Int).toNat+1) 0 c d
theorem Ar{l:Nat}{X Y m n o p q s t u x:Value}{Z:List aJ}{b0:List aC}{c:List cH}{y:List cR}(H:Sep w (Blk l 82 [o,p,q,s,X,Y,t,u,x]::Fo) rs)(b4:rSl aY X Z ∈ rs)(b5:rSl aO Y b0 ∈ rs)(C:rSl cF m c ∈ rs)(D:rSl bE n y ∈ rs){r:(List aJ)×(List aC)}(hm:qW Z b0 c y=some r) :
    Calls Tryz.prog 92 [pt l 0,m,n].toArray w (Ret fun v w'=>∃ c8 c9,.tuple #[]=v∧Sep w' (Blk l 82 [o,p,q,s,c8,c9,t,u,x]::Fo) (rSl aY c8 r.1::rSl aO c9 r.2::rs)):=by
 unfold qW at hm
 refine ent Tryz.func92 rfl Tryz.ntmps92 rfl rfl fun a E=>sq<|pr 1 E rfl fun a E=>sv E rfl rfl rfl (dB E H rfl rfl C U40) fun a E=>pr 1 E rfl fun a E=>nt<|wp_block<|cA (fun z a w=>∃ F G g I J j,Env 70 a [(0,pt l 0),(2,n),(12,m),(13,.int .i64 (c.length:Int)),(14,.int .i64 g)]∧Sep w (Blk l 82 [o,p,q,s,F,G,t,u,x]::Fo) j∧(∀ r,r ∈ rs→r ∈ j)∧rSl aY F I ∈ j∧rSl aO G J ∈ j∧eJ c y z g I J=some r) (((c.length:Int) - 0:Int).toNat+1) ?_ ?_
 ·exact X6 ⟨E.to rfl,H,Y0,b4,b5,hm⟩
 ·clear E H hm
  rintro z a w ⟨F,G,g,I,J,j,E,H,b,d,e,hm⟩
  cases z with
  | zero=>exact (bW hm rfl).elim
  | succ z=>
   unfold eJ at hm
   refine sq<|pr 1 E rfl fun a E=>nt<|wp_seq<|wif E hm rfl (fun hm=>?_) fun hm=>?_
   ·refine wp_skip<|aD<|aT (fun a w=>∃ K L M N k,Env 70 a [(0,pt l 0),(2,n),(12,m),(13,.int .i64 (c.length:Int)),(14,.int .i64 g)]∧Sep w (Blk l 82 [o,p,q,s,K,L,t,u,x]::Fo) k∧(∀ r,r ∈ rs→r ∈ k)∧rSl aY K M ∈ k∧rSl aO L N ∈ k∧eW (eJ c y z) g M N=some r) ?_ ?_
    ·refine wp_block<|sq<|pr 1 E rfl fun a E=>bd hm fun b1 b6 hm=>dF E H (wn rfl) rfl rfl rfl rfl rfl (b _ C) U40 G5 b6 fun q54 a H E=>ldf wJ E H rfl rfl rfl rfl rfl m0 U73 rfl G5 fun a E=>al E H rfl rfl rfl rfl Pk fun b2 w a H E=>pr 1 E rfl fun a E=>bC (i:=0) E H (wn rfl) rfl rfl rfl rfl rfl rfl G5 rfl rfl fun w H=>?_
     refine nx<|pr 2 E rfl fun a E=>lb E H 0 rfl rfl rfl rfl rfl rfl rfl U3 rfl fun a E=>nt<|wp_block<|sq<|pr 2 E rfl fun a E=>nt<|wif E hm rfl (fun hm=>?_) fun hm=>?_
     ·refine wp_region_lit<|pr 3 E rfl fun a E=>bd hm fun d0 b7 hm=>dF E H (wn rfl) rfl rfl rfl rfl rfl (t1 (b _ D)) U27 A9 b7 fun q58 a H E=>have H:=H.derive1 m0 (rAt kS (q58.add 1) d0.Path) (fun ok h=>Dt h);pr 1 E rfl fun a E=>sv E rfl rfl rfl (nB E H rfl rfl m0 U9 rfl) fun a E=>have H:=H.frs [0,1] rfl;bd hm fun d1 b8 hm=>?_
      refine cJ E rfl rfl rfl rfl rfl Jr (sD H (t3 d) (t3 e) b8)<|?_
      rintro _ w ⟨d2,d3,rfl,H⟩ a E
      exact wpList_nil<|bY<|bY<|aD<|have H:=H.drop 1;X5 ⟨E.to rfl,H,(Y5 b),m0,mm1,hm⟩
     ·refine sq<|pr 2 E rfl fun a E=>nt<|wif E hm rfl (fun hm=>?_) fun hm=>?_
      ·refine wp_region_lit<|pr 3 E rfl fun a E=>lb E H 0 rfl rfl rfl rfl rfl rfl rfl U9 rfl fun a E=>have H:=H.frs [0,1] rfl;bd hm fun d4 b9 hm=>cJ E rfl rfl rfl rfl rfl Jr (sD H (t1 d) (t1 e) b9)<|?_
       rintro _ w ⟨d5,d6,rfl,H⟩ a E
       exact wpList_nil<|bY<|bY<|aD<|have H:=H.drop 1;X5 ⟨E.to rfl,H,(Y3 b),m0,mm1,hm⟩
      ·refine sq<|pr 2 E rfl fun a E=>nt<|wif E hm rfl (fun hm=>?_) fun hm=>?_
       ·refine wp_region_lit<|pr 3 E rfl fun a E=>lb E H 0 rfl rfl rfl rfl rfl rfl rfl U9 rfl fun a E=>have H:=H.frs [0,1] rfl;bd hm fun d7 c0 hm=>cJ E rfl rfl rfl rfl rfl Jr (sD H (t1 d) (t1 e) c0)<|?_
        rintro _ w ⟨d8,d9,rfl,H⟩ a E
        exact wpList_nil<|bY<|bY<|aD<|have H:=H.drop 1;X5 ⟨E.to rfl,H,(Y3 b),m0,mm1,hm⟩
       ·refine sq<|pr 2 E rfl fun a E=>nt<|wif E hm rfl (fun hm=>?_) fun hm=>?_
        ·refine sq<|pr 2 E rfl fun a E=>bd hm fun A c1 hm=>dF E H (wn rfl) rfl rfl rfl rfl rfl (t1 (b _ D)) U27 A9 c1 fun q73 a H E=>have H:=H.derive1 m0 (rAt (kL kS) (q73.add 4) A.Names) (fun ok h=>K7 h);pr 1 E rfl fun a E=>Re E H (wn rfl) rfl rfl rfl rfl m0 U41 rfl fun b3 a H E=>sv E rfl rfl rfl (dB E H rfl rfl m0 U41) fun a E=>pr 1 E rfl fun a E=>?_
         refine nt<|wp_block<|cA (fun B a w=>∃ O P Q R S f,Env 70 a [(0,pt l 0),(2,n),(7,pt b2 0),(12,m),(13,.int .i64 (c.length:Int)),(14,.int .i64 g),(51,b3),(52,.int .i64 (A.Names.length:Int)),(53,.int .i64 Q)]∧Sep w (Blk l 82 [o,p,q,s,O,P,t,u,x]::Blk b2 73 (Cw b1)::Fo) f∧(∀ r,r ∈ rs→r ∈ f)∧rSl kS b3 A.Names ∈ f∧rSl aY O R ∈ f∧rSl aO P S ∈ f∧kX (eJ c y z) g A b1 B Q R S=some r) (((A.Names.length:Int) - 0:Int).toNat+1) ?_ ?_
         ·exact have H:=H.frs [0,1] rfl;X6 ⟨E.to rfl,H,(Y4 b),m0,(t4 d),(t4 e),hm⟩
         ·clear E H hm
          rintro B a w ⟨O,P,Q,R,S,f,E,H,T,U,V,W,hm⟩
          cases B with
          | zero=>exact (bW hm rfl).elim
          | succ B=>
           unfold kX at hm
           refine sq<|pr 1 E rfl fun a E=>nt<|wp_seq<|wif E hm rfl (fun hm=>?_) fun hm=>?_
           ·refine wp_skip<|aD<|wp_seq<|wp_block<|sq<|bd hm fun e0 c2 hm=>dF E H (wn rfl) rfl rfl rfl rfl rfl U U41 sz9 c2 fun q87 a H E=>sv E rfl rfl rfl (nB E H rfl rfl m0 U9 rfl) fun a E=>pr 1 E rfl fun a E=>?_
            refine nx<|pr 2 E rfl fun a E=>lb E H 1 rfl rfl rfl rfl rfl rfl rfl U9 rfl fun a E=>pr 1 E rfl fun a E=>bd hm fun e1 c3 hm=>xk E rfl rfl rfl rfl rfl Xp (Da H c3) fun w H a E=>pr 5 E rfl fun a E=>nt<|wp_region_lit<|?_
            refine pr 2 E rfl fun a E=>bd hm fun e2 c4 hm=>cJ E rfl rfl rfl rfl rfl Jr (sD H (t1 V) (t1 W) c4)<|?_
            rintro _ w ⟨e3,e4,rfl,H⟩ a E
            exact wpList_nil<|bY<|aD<|wp_region_lit<|pr 2 E rfl fun a E=>nt<|⟨B,Nat.lt_succ_self B,X6 ⟨E.to rfl,H,(Y3 T),(t3 U),m0,mm1,hm⟩⟩
           ·exact wp_exit<|bH<|bH<|dZ<|bY<|bY<|aD<|have H:=H.drop 1;X5 ⟨E.to rfl,H,T,V,W,hm⟩
        ·exact wp_skip<|bY<|bY<|aD<|have H:=H.drop 0;X5 ⟨E.to rfl,H,(Y1 b),(t1 d),(t1 e),hm⟩
    ·clear E H hm
     rintro a w ⟨K,L,M,N,k,E,H,c5,c6,c7,hm⟩
     unfold eW at hm
     exact wp_region_lit<|pr 2 E rfl fun a E=>nt<|⟨z,Nat.lt_succ_self z,X6 ⟨E.to rfl,H,c5,c6,c7,hm⟩⟩
   ·refine wp_exit<|bH<|bH<|dZ<|rL E rfl<|?_
    cases hm
    exact ⟨_,_,rfl,H.reads (aA d (aA e (b)))⟩

def oY(g:List aF)(i:List aI)(c:List aJ)(d:List aC)(e:List cH):Option (aE×(List aF)×(List aI)×(List aJ)×(List aC)):=
  (xT (⟨g,i⟩:aW) e).bind fun b=>if (b.2.2.1 != 0)=true then (some ((⟨b.2.2.1,b.2.2.2,false,0,[],(⟨[],[]⟩:aW),[],[],[]⟩:aE),g,i,c,d)) else ((qW c d e b.2.1).bind fun f=>some ((⟨0,0,false,0,b.2.1,(⟨[],[]⟩:aW),[],[],[]⟩:aE),b.1.Nodes,b.1.Turns,f.1,f.2))
theorem I7{B:Nat}{C D j k l m n o p q:Value}{F:List aF}{G:List aI}{s:List aJ}{t:List aC}{u:List cH}(H:Sep w (Blk B 82 [C,D,m,n,j,k,o,p,q]::Fo) rs)(c:rSl aG C F ∈ rs)(d:rSl aK D G ∈ rs)(e:rSl aY j s ∈ rs)(f:rSl aO k t ∈ rs)(g:rSl cF l u ∈ rs)(I:x4 Tryz.prog ∈ rs){r:aE×(List aF)×(List aI)×(List aJ)×(List aC)}(hm:oY F G s t u=some r) :
    Calls Tryz.prog 39 [pt B 0,l].toArray w (Ret fun v w'=>∃ L M N O P Q R x y z,.agg (bA r.1 L M N O P Q).toArray=v∧Sep w' (Blk B 82 [R,x,m,n,y,z,o,p,q]::Fo) (rSl bE L r.1.Results::rSl aG M r.1.Store.Nodes::rSl aK N r.1.Store.Turns::rSl aU O r.1.Events::rSl bN P r.1.Mounts::rSl (kI .i64) Q r.1.Wounded::rSl aG R r.2.1::rSl aK x r.2.2.1::rSl aY y r.2.2.2.1::rSl aO z r.2.2.2.2::rs)):=by
 unfold oY at hm
 refine ent Tryz.func39 rfl Tryz.ntmps39 rfl rfl fun a E=>sq<|al E H rfl rfl rfl rfl iO fun U w a H E=>nx<|pr 3 E rfl fun a E=>sv E rfl rfl rfl (cD (i:=1) (us:=[C,D]) E H rfl rfl rfl rfl U31 rfl dP) fun a E=>pr 1 E rfl fun a E=>bd hm fun b J hm=>cJ E rfl rfl rfl rfl rfl Vf (P9 (x1:=(⟨F,G⟩:aW)) H c d g I J)<|?_
 rintro _ w ⟨S,T,V,rfl,H⟩ a E
 refine pr 5 E rfl fun a E=>al E H rfl rfl rfl rfl lR fun W w a H E=>bC (i:=0) E H (wn rfl) rfl rfl rfl rfl rfl rfl dP rfl (lN H m0 mm1) fun w H=>pr 3 E rfl fun a E=>nt<|wp_seq<|sq<|pr 2 E rfl fun a E=>nt<|wif E hm rfl (fun hm=>?_) fun hm=>?_
 ·refine sq<|pr 2 E rfl fun a E=>sv E rfl rfl rfl (cN E rfl (E.evs rfl) (v:=.agg #[.int .i64 b.2.2.1,.int .i64 b.2.2.2,.bool false,.int .i64 0,.slice none 0 0,.slice none 0 0,.slice none 0 0,.slice none 0 0,.slice none 0 0,.slice none 0 0]) (by kernel_rfl)) fun a E=>bC (i:=2) E H (wn rfl) rfl rfl rfl rfl rfl rfl bV rfl rfl fun w H=>nt<|wp_ret<|aP<|eC E rfl (dH (i:=2) (us:=[.int .i64 b.2.2.1,.int .i64 b.2.2.2,.bool false,.int .i64 0,.slice none 0 0,.slice none 0 0,.slice none 0 0,.slice none 0 0,.slice none 0 0,.slice none 0 0]) H rfl rfl rfl U36 rfl bV)<|have H:=H.nilSl bE;?_
  refine have H:=H.nilSl aG;have H:=H.nilSl aK;have H:=H.nilSl aU;have H:=H.nilSl bN;have H:=H.nilSl (kI .i64);have H:=H.drs [0,0,0];?_
  cases hm
  exact X10 ⟨rfl,H.reads (aA mm5 (aA mm4 (aA mm3 (aA mm2 (aA mm1 (aA m0 (aA (t8 c) (aA (t8 d) (aA (t8 e) (aA (t8 f) (fun r hr=>(t8 hr))))))))))))⟩
 ·refine wp_skip<|aD<|sq<|pr 1 E rfl fun a E=>sv E rfl rfl rfl (cD (i:=0) (us:=[S,T]) E H rfl rfl rfl rfl U31 rfl dP) fun a E=>pr 2 E rfl fun a E=>bC (i:=3) E H (wn rfl) rfl rfl rfl rfl rfl rfl dP rfl (lN H m0 mm1) fun w H=>nx<|pr 3 E rfl fun a E=>?_
  refine have H:=H.thaw (i:=1) rfl;have H:=H.frs [1,1,2] rfl;bd hm fun X K hm=>cJ E rfl rfl rfl rfl rfl LF (Ar H (t3 e) (t3 f) (t3 g) m0 K)<|?_
  rintro _ w ⟨Y,Z,rfl,H⟩ a E
  refine nx<|pr 1 E rfl fun a E=>?_
  obtain ⟨q44,A,rfl⟩:=H.slform mm2
  refine sv E rfl rfl rfl (cN E rfl (E.evs rfl) (v:=.agg #[.int .i64 0,.int .i64 0,.bool false,.int .i64 0,(.slice q44 b.2.1.length A),.slice none 0 0,.slice none 0 0,.slice none 0 0,.slice none 0 0,.slice none 0 0]) (by kernel_rfl)) fun a E=>bC (i:=2) E H (wn rfl) rfl rfl rfl rfl rfl rfl bV rfl rfl fun w H=>nt<|wp_ret<|eC E rfl (dH (i:=2) (us:=[.int .i64 0,.int .i64 0,.bool false,.int .i64 0,(.slice q44 b.2.1.length A),.slice none 0 0,.slice none 0 0,.slice none 0 0,.slice none 0 0,.slice none 0 0]) H rfl rfl rfl U36 rfl bV)<|have H:=H.nilSl aG;have H:=H.nilSl aK;have H:=H.nilSl aU;have H:=H.nilSl bN;?_
  refine have H:=H.nilSl (kI .i64);have H:=H.drs [1,1];?_
  cases hm
  exact X10 ⟨rfl,H.reads (aA (t1 mm6) (aA mm4 (aA mm3 (aA mm2 (aA mm1 (aA m0 (aA (t2 mm6) (aA (t3 mm6) (aA mm5 (aA mm6 (fun r hr=>(t2 (t8 hr)))))))))))))⟩

end Go.Cb
