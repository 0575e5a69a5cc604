/- Functions of the program, walked: each comes to its plain function. -/
import Derived.Test.YtpbgbliikifjjaaGreatDoorKsd1
import Derived.Test.YtpbgbliikifjjaaGreatDoorExsd
import Derived.Test.YtpbgbliikifjjaaGreatDoorN4sd
set_option linter.unusedVariables false
set_option linter.unusedSimpArgs false
set_option maxRecDepth 20000
set_option maxHeartbeats 1000000
namespace Go.Cb
open Go.Proofs Go.RowKit

def hG (x12:Int):Option Int:=
  some (x12)
theorem lC {w:World} {Fo:List Ob} {rs:List Rp} {p1:Nat} {x12:Int} {v13 v14 v15 v16 v17 v18 v19:Value} (H:Sep w (Blk p1 251 [v13,v14,v15,v16,v17,v18,v19]::Fo) rs) {r:Int} (hm:hG x12=some r) :
    Calls Tryz.prog 257 [pt p1 0,.int .i64 x12].toArray w (Ret fun v w'=>.tuple #[]=v∧Sep w' (Blk p1 251 [v13,v14,.int .i64 r,.string (ByteArray.mk #[]),.string (ByteArray.mk #[]),.int .i64 0,.slice none 0 0]::Fo) (rs)):=by
 unfold hG at hm
 refine ent Tryz.func257 rfl Tryz.ntmps257 rfl rfl fun a E=>wp_region_lit<|pr 2 E rfl fun a E=>sv E rfl rfl rfl (cI E rfl (E.evs rfl) (v:=.agg #[.int .i64 x12,.string (ByteArray.mk #[]),.string (ByteArray.mk #[]),.int .i64 0,.slice none 0 0]) (by kernel_rfl)) fun a E=>pr 2 E rfl fun a E=>aZ (i:=0) E H (wn rfl) rfl rfl rfl rfl rfl rfl zU rfl rfl fun w H=>wpList_nil<|oJ E rfl<|?_
 cases hm
 exact ⟨rfl,H.reads Y0⟩

def pU (x1:aE) (s2:ByteArray):Option Int:=
  (jZ x1.Path s2).bind fun u4=>some (u4)
theorem zK {w:World} {Fo:List Ob} {rs:List Rp} {x1:aE} {s2:ByteArray} (H:Sep w (Fo) rs) {r:Int} (hm:pU x1 s2=some r) :
    Calls Tryz.prog 314 [.agg (iQ x1).toArray,.string s2].toArray w (Ret fun v w'=>.int .i64 r=v∧Sep w' (Fo) (rs)):=by
 unfold pU at hm
 refine ent Tryz.func314 rfl Tryz.ntmps314 rfl rfl fun a E=>sq<|bS E H (wn rfl) rfl rfl rfl rfl rfl fun p3 w a H E=>pr 1 E rfl fun a E=>nx<|pr 1 E rfl fun a E=>lb E H 0 rfl rfl rfl rfl rfl rfl rfl U9 rfl fun a E=>pr 1 E rfl fun a E=>bd hm fun u4 hx5 hm=>?_
 refine xk E rfl rfl rfl rfl rfl Er (oP H hx5) fun w H a E=>pr 1 E rfl fun a E=>nt<|wp_ret<|aY E rfl rfl<|have H:=H.drop 0;?_
 cases hm
 exact ⟨rfl,H.reads Y0⟩

def dB (l2:List aE) (s3:ByteArray):Nat→Int→Int→Option (Int×Bool)
  | 0,_,_=>none
  | k1+1,x4,x5=>
    if (decide (x4 < x5))=true then ((idx l2 (IntKind.i64.wrap (pH .u64 (IntKind.u64.wrap (IntKind.i64.wrap (x4+x5))) 1))).bind fun x8=>(pU x8 s3).bind fun u13=>if (decide (u13 < 0))=true then (dB l2 s3 k1 (IntKind.i64.wrap ((IntKind.i64.wrap (pH .u64 (IntKind.u64.wrap (IntKind.i64.wrap (x4+x5))) 1))+1)) x5) else (dB l2 s3 k1 x4 (IntKind.i64.wrap (pH .u64 (IntKind.u64.wrap (IntKind.i64.wrap (x4+x5))) 1)))) else (if (decide (x4 < (l2.length:Int)))=true then ((idx l2 x4).bind fun x16=>(pU x16 s3).bind fun u21=>some (x4,u21 == 0)) else (some (x4,false)))
def fH (l2:List aE) (s3:ByteArray):Option (Int×Bool):=
  dB l2 s3 (((l2.length:Int) - 0:Int).toNat+1) 0 (l2.length:Int)
theorem oV {w:World} {Fo:List Ob} {rs:List Rp} {v1:Value} {l2:List aE} {s3:ByteArray} (H:Sep w (Row 95 aF v1 l2::Fo) rs) {r:Int×Bool} (hm:fH l2 s3=some r) :
    Calls Tryz.prog 313 [v1,.string s3,.func (.func 314) #[] #[]].toArray w (Ret fun v w'=>.tuple #[.int .i64 r.1,.bool r.2]=v∧Sep w' (Row 95 aF v1 l2::Fo) (rs)):=by
 unfold fH at hm
 refine ent Tryz.func313 rfl Tryz.ntmps313 rfl rfl fun a E=>sq<|pr 2 E rfl fun a E=>nx<|pr 1 E rfl fun a E=>sv E rfl rfl rfl (iZ (i:=0) E H rfl rfl rfl U22) fun a E=>pr 1 E rfl fun a E=>nx<|pr 3 E rfl fun a E=>?_
 refine nt<|wp_seq<|wp_block<|bX (fun k1 a w=>∃ x4 x5 rs6,Env 49 a [(0,v1),(1,.string s3),(2,.func (.func 314) #[] #[]),(8,.int .i64 (l2.length:Int)),(9,.int .i64 x4),(10,.int .i64 x5)]∧Sep w (Row 95 aF v1 l2::Fo) rs6∧(∀ r,r ∈ rs→r ∈ rs6)∧dB l2 s3 k1 x4 x5=some r) (((l2.length:Int) - 0:Int).toNat+1) ?_ ?_
 ·exact X3 ⟨E.to rfl,H,Y0,hm⟩
 ·clear E H hm
  rintro k1 a w ⟨x4,x5,rs6,E,H,hs7,hm⟩
  cases k1 with
  | zero=>exact (bT hm rfl).elim
  | succ k1=>
   unfold dB at hm
   refine wp_seq<|sq<|pr 3 E rfl fun a E=>nt<|wif E hm rfl (fun hm=>?_) fun hm=>?_
   ·refine wp_skip<|aC<|wp_block<|sq<|pr 4 E rfl fun a E=>sv E rfl rfl rfl (F7 E rfl rfl rfl (by decide)) fun a E=>pr 2 E rfl fun a E=>nx<|pr 3 E rfl fun a E=>?_
    refine bd hm fun x8 hx9 hm=>?_
    obtain ⟨p10,x11,hx12⟩:=H.rowformNE (i:=0) rfl hx9
    refine sv E rfl rfl rfl (cY (d:=aF) E hx12 rfl rfl rfl rfl U22 iR hx9) fun a E=>sv E rfl rfl rfl (fZ (i:=0) E H cK hx12 rfl rfl rfl hx9 (us:=[.string x8.Path,.string x8.Data,.int .i64 x8.Version,.int .i64 x8.Turn,.int .i64 x8.Owner]) rfl U95 rfl iR) fun a E=>pr 1 E rfl fun a E=>bd hm fun u13 hx14 hm=>aU E (wn rfl) rfl rfl (bP E rfl rfl rfl (Lw _)) (zK H hx14)<|?_
    rintro _ w ⟨rfl,H⟩ a E
    refine pr 1 E rfl fun a E=>nt<|wif E hm rfl (fun hm=>?_) fun hm=>?_
    ·exact wp_region_lit<|pr 3 E rfl fun a E=>wpList_nil<|bY<|aC<|⟨k1,Nat.lt_succ_self k1,X3 ⟨E.to rfl,H,hs7,hm⟩⟩
    ·exact wp_region_lit<|pr 2 E rfl fun a E=>wpList_nil<|bY<|aC<|⟨k1,Nat.lt_succ_self k1,X3 ⟨E.to rfl,H,hs7,hm⟩⟩
   ·refine wp_exit<|bH<|bH<|dG<|aC<|sq<|pr 5 E rfl fun a E=>cs hm (fun hb15 hm=>?_) fun hb15 hm=>?_
    ·refine pk 3 E (kc 39 rfl hb15) rfl fun a E=>bd hm fun x16 hx17 hm=>?_
     obtain ⟨p18,x19,hx20⟩:=H.rowformNE (i:=0) rfl hx17
     refine aQ E (ws' (d:=39) E rfl rfl rfl rfl hb15) rfl rfl (cY (d:=aF) E hx20 rfl rfl rfl rfl U22 iR hx17) fun a E=>aQ E (ws' (d:=39) E rfl rfl rfl rfl hb15) rfl rfl (fZ (i:=0) E H cK hx20 rfl rfl rfl hx17 (us:=[.string x16.Path,.string x16.Data,.int .i64 x16.Version,.int .i64 x16.Turn,.int .i64 x16.Owner]) rfl U95 rfl iR) fun a E=>pk 1 E (kc 39 rfl hb15) rfl fun a E=>bd hm fun u21 hx22 hm=>aU E (ws' (d:=39) E rfl rfl rfl rfl hb15) rfl rfl (bP E rfl rfl rfl (Lw _)) (zK H hx22)<|?_
     rintro _ w ⟨rfl,H⟩ a E
     refine pk 4 E (kc 39 rfl hb15) rfl fun a E=>nt<|wp_ret<|fX E rfl rfl rfl<|?_
     cases hm
     exact ⟨rfl,H.reads hs7⟩
    ·refine pk 11 E (kc 39 rfl hb15) rfl fun a E=>nt<|wp_ret<|fX E rfl rfl rfl<|?_
     cases hm
     exact ⟨rfl,H.reads hs7⟩

def oQ (l3:List aE) (s12:ByteArray):Option (Int×Bool):=
  (fH l3 s12).bind fun u19=>some (u19.1,u19.2)
theorem wO {w:World} {Fo:List Ob} {rs:List Rp} {p1:Nat} {v2 v13 v14 v15 v16 v17 v18:Value} {l3:List aE} {s12:ByteArray} (H:Sep w (Blk p1 251 [v2,v13,v14,v15,v16,v17,v18]::Row 95 aF v2 l3::Fo) rs) {r:Int×Bool} (hm:oQ l3 s12=some r) :
    Calls Tryz.prog 262 [pt p1 0,.string s12].toArray w (Ret fun v w'=>.tuple #[.int .i64 r.1,.bool r.2]=v∧Sep w' (Blk p1 251 [v2,v13,v14,v15,v16,v17,v18]::Row 95 aF v2 l3::Fo) (rs)):=by
 unfold oQ at hm
 refine ent Tryz.func262 rfl Tryz.ntmps262 rfl rfl fun a E=>sq<|pr 2 E rfl fun a E=>nx<|pr 4 E rfl fun a E=>lb E H 0 rfl rfl rfl rfl rfl rfl rfl U22 rfl fun a E=>pr 1 E rfl fun a E=>have H:=H.frs [0,1] rfl;bd hm fun u19 hx20 hm=>?_
 refine xk E rfl rfl rfl rfl rfl Vo (oV H hx20) fun w H a E=>pr 4 E rfl fun a E=>nt<|wp_ret<|fX E rfl rfl rfl<|have H:=H.frs [0,1] rfl;?_
 cases hm
 exact ⟨rfl,H.reads Y0⟩

def pV (x20:Int):Option (Int×Int×ByteArray×ByteArray×Int×(List ByteArray)):=
  some ((-1),x20,(ByteArray.mk #[]),(ByteArray.mk #[]),0,[])
def mR (l3:List aE) (u15:Int×Bool) (x6:Int) (s7:ByteArray) (s8:ByteArray) (x9:Int) (l11:List ByteArray) (b25:Bool):Option (Int×Int×ByteArray×ByteArray×Int×(List ByteArray)):=
  if b25=true then ((hG 63).bind fun u28=>pV u28) else ((idx l3 u15.1).bind fun x30=>some (u15.1,x6,s7,s8,x9,l11))
def mS (l3:List aE) (u15:Int×Bool) (x6:Int) (s7:ByteArray) (s8:ByteArray) (x9:Int) (l11:List ByteArray) (x12:bJ) (b17:Bool):Option (Int×Int×ByteArray×ByteArray×Int×(List ByteArray)):=
  if (!u15.2)=true then ((hG 62).bind fun u23=>pV u23) else (if b17=true then (if (decide (x12.Version ≥ 0))=true then ((idx l3 u15.1).bind fun x37=>mR l3 u15 x6 s7 s8 x9 l11 (x12.Version != x37.Version)) else (mR l3 u15 x6 s7 s8 x9 l11 false)) else (mR l3 u15 x6 s7 s8 x9 l11 false))
def jH (l3:List aE) (x6:Int) (s7:ByteArray) (s8:ByteArray) (x9:Int) (l11:List ByteArray) (x12:bJ):Option (Int×Int×ByteArray×ByteArray×Int×(List ByteArray)):=
  (oQ l3 x12.Path).bind fun u15=>if (x12.Kind == 3)=true then (mS l3 u15 x6 s7 s8 x9 l11 x12 true) else (if (x12.Kind == 5)=true then (mS l3 u15 x6 s7 s8 x9 l11 x12 true) else (mS l3 u15 x6 s7 s8 x9 l11 x12 (x12.Kind == 6)))
theorem nB {w:World} {Fo:List Ob} {rs:List Rp} {p1:Nat} {v2 v10 v13:Value} {l3:List aE} {x6 x9:Int} {s7 s8:ByteArray} {l11:List ByteArray} {x12:bJ} (H:Sep w (Blk p1 251 [v2,v13,.int .i64 x6,.string s7,.string s8,.int .i64 x9,v10]::Row 95 aF v2 l3::Row 9 kS v10 l11::Fo) rs) {r:Int×Int×ByteArray×ByteArray×Int×(List ByteArray)} (hm:jH l3 x6 s7 s8 x9 l11 x12=some r) :
    Calls Tryz.prog 256 [pt p1 0,.agg (cH x12).toArray].toArray w (Ret fun v w'=>∃ y6,orp v2 r.1 5=v∧Sep w' (Blk p1 251 [v2,v13,.int .i64 r.2.1,.string r.2.2.1,.string r.2.2.2.1,.int .i64 r.2.2.2.2.1,y6]::Row 95 aF v2 l3::Row 9 kS y6 r.2.2.2.2.2::Fo) (rs)):=by
 unfold jH at hm
 refine ent Tryz.func256 rfl Tryz.ntmps256 rfl rfl fun a E=>sq<|bS E H (wn rfl) rfl rfl rfl rfl rfl fun p14 w a H E=>pr 1 E rfl fun a E=>nx<|pr 2 E rfl fun a E=>lb E H 0 rfl rfl rfl rfl rfl rfl rfl U9 rfl fun a E=>have H:=H.frs [3,1,3,3] rfl;bd hm fun u15 hx16 hm=>?_
 refine xk E rfl rfl rfl rfl rfl Hr (wO H hx16) fun w H a E=>pr 5 E rfl fun a E=>nt<|aT (fun a w=>∃ b17 rs18,Env 63 a [(0,pt p1 0),(3,pt p14 0),(5,.int .i64 u15.1),(6,.bool u15.2),(7,.bool b17)]∧Sep w (Blk p1 251 [v2,v13,.int .i64 x6,.string s7,.string s8,.int .i64 x9,v10]::Blk p14 85 (cH x12)::Row 95 aF v2 l3::Row 9 kS v10 l11::Fo) rs18∧(∀ r,r ∈ rs→r ∈ rs18)∧mS l3 u15 x6 s7 s8 x9 l11 x12 b17=some r) ?_ ?_
 ·refine wp_region_lit<|pr 1 E rfl fun a E=>lb E H 2 rfl rfl rfl rfl rfl rfl rfl U3 rfl fun a E=>pr 2 E rfl fun a E=>cs hm (fun hb42 hm=>?_) fun hb42 hm=>?_
  ·exact pk 10 E (kc 18 rfl hb42) rfl fun a E=>nt<|have H:=H.frs [3,2,3,3] rfl;⟨_,_,E.to rfl,H,Y0,hm⟩
  ·refine pk 1 E (kc 18 rfl hb42) rfl fun a E=>aQ E (ws' (d:=18) E rfl rfl rfl rfl hb42) rfl rfl (cD (i:=2) E H rfl rfl rfl rfl U3 rfl) fun a E=>pk 3 E (kc 18 rfl hb42) rfl fun a E=>cs hm (fun hb43 hm=>?_) fun hb43 hm=>?_
   ·exact pk 5 E (kc 23 rfl hb43) rfl fun a E=>nt<|have H:=H.frs [3,2,3,3] rfl;⟨_,_,E.to rfl,H,Y0,hm⟩
   ·exact pk 1 E (kc 23 rfl hb43) rfl fun a E=>aQ E (ws' (d:=23) E rfl rfl rfl rfl hb43) rfl rfl (cD (i:=2) E H rfl rfl rfl rfl U3 rfl) fun a E=>pk 3 E (kc 23 rfl hb43) rfl fun a E=>nt<|have H:=H.frs [3,2,3,3] rfl;⟨_,_,E.to rfl,H,Y0,hm⟩
 ·clear E H hm
  rintro a w ⟨b17,rs18,E,H,hs19,hm⟩
  unfold mS at hm
  refine aT (fun a w=>∃ x20 rs21,Env 63 a []∧Sep w (Blk p1 251 [v2,v13,.int .i64 x20,.string (ByteArray.mk #[]),.string (ByteArray.mk #[]),.int .i64 0,.slice none 0 0]::Row 95 aF v2 l3::Fo) rs21∧(∀ r,r ∈ rs→r ∈ rs21)∧pV x20=some r) ?_ ?_
  ·refine wp_block<|sq<|pr 3 E rfl fun a E=>nt<|wif E hm rfl (fun hm=>?_) fun hm=>?_
   ·exact wp_region_lit<|pr 1 E rfl fun a E=>bd hm fun u23 hx24 hm=>xk E rfl rfl rfl rfl rfl G3 (lC H hx24) fun w H a E=>wpList_nil<|bY<|aC<|have H:=H.drs [1,2];⟨_,_,E.nil,H,hs19,hm⟩
   ·refine aT (fun a w=>∃ b25 rs26,Env 63 a [(0,pt p1 0),(5,.int .i64 u15.1),(40,.bool b25)]∧Sep w (Blk p1 251 [v2,v13,.int .i64 x6,.string s7,.string s8,.int .i64 x9,v10]::Row 95 aF v2 l3::Row 9 kS v10 l11::Fo) rs26∧(∀ r,r ∈ rs→r ∈ rs26)∧mR l3 u15 x6 s7 s8 x9 l11 b25=some r) ?_ ?_
    ·refine dw [(0,0),(1,0),(2,0),(3,0),(4,0),(5,0),(6,0),(7,0),(8,0),(9,0),(10,0),(11,0),(12,0),(13,0),(14,0),(15,0),(16,0),(17,0),(18,0),(19,0),(20,1)] [0,1,2] [] H (by kernel_rfl) (fun _ _ _ h=>False.elim h.2) fun w W0 hI H=>fn 2 E rfl fun a E=>cs hm (fun hb35 hm=>?_) fun hb35 hm=>?_
     ·refine fk 1 E (kc 42 rfl hb35) rfl fun a E=>fb E rfl (ws' (d:=42) E rfl rfl rfl rfl hb35) rfl rfl rfl rfl mm1 rfl U2 rfl fun a E=>fk 3 E (kc 42 rfl hb35) rfl fun a E=>cs hm (fun hb36 hm=>?_) fun hb36 hm=>?_
      ·refine fk 1 E (kc 47 rfl hb36) rfl fun a E=>fb E rfl (ws' (d:=47) E rfl rfl rfl rfl hb36) rfl rfl rfl rfl mm1 rfl U2 rfl fun a E=>fk 4 E (kc 47 rfl hb36) rfl fun a E=>fb E rfl (ws' (d:=47) E rfl rfl rfl rfl hb36) rfl rfl rfl rfl m0 rfl U22 rfl fun a E=>fk 1 E (kc 47 rfl hb36) rfl fun a E=>bd hm fun x37 hx38 hm=>?_
       obtain ⟨p39,x40,hx41⟩:=H.rowformNE (i:=2) rfl hx38
       refine bW E rfl (ws' (d:=47) E rfl rfl rfl rfl hb36) rfl rfl (fun w hW=>cY (d:=aF) E hx41 rfl rfl rfl rfl U22 iR hx38) fun a E=>?_
       refine fk 1 E (kc 47 rfl hb36) rfl fun a E=>bW E rfl (ws' (d:=47) E rfl rfl rfl rfl hb36) rfl rfl (fun w hW=>S7 (d:=aF) (k:=2) E cK hx41 hx38 mm2 rfl rfl rfl U2 rfl hW) fun a E=>?_
       refine fk 2 E (kc 47 rfl hb36) rfl fun a E=>bZ rfl<|pr 1 E rfl fun a E=>nt<|?_
       refine ⟨⟨_,_,H,(aB m0 (aB mm1 (aB mm2 (aL)))),(aM)⟩,?_⟩
       refine bR<|?_
       clear hI
       exact aC<|have H:=H.drop 1;⟨_,_,E.to rfl,H,hs19,hm⟩
      ·refine fk 13 E (kc 47 rfl hb36) rfl fun a E=>bZ rfl<|pr 1 E rfl fun a E=>nt<|?_
       refine ⟨⟨_,_,H,(aB m0 (aB mm1 (aB mm2 (aL)))),(aM)⟩,?_⟩
       refine bR<|?_
       clear hI
       exact aC<|have H:=H.drop 1;⟨_,_,E.to rfl,H,hs19,hm⟩
     ·refine fk 18 E (kc 42 rfl hb35) rfl fun a E=>bZ rfl<|pr 1 E rfl fun a E=>nt<|?_
      refine ⟨⟨_,_,H,(aB m0 (aB mm1 (aB mm2 (aL)))),(aM)⟩,?_⟩
      refine bR<|?_
      clear hI
      exact aC<|have H:=H.drop 1;⟨_,_,E.to rfl,H,hs19,hm⟩
    ·clear E H hm
     rintro a w ⟨b25,rs26,E,H,hs27,hm⟩
     unfold mR at hm
     refine wif E hm rfl (fun hm=>?_) fun hm=>?_
     ·exact wp_region_lit<|pr 1 E rfl fun a E=>bd hm fun u28 hx29 hm=>xk E rfl rfl rfl rfl rfl G3 (lC H hx29) fun w H a E=>wpList_nil<|bY<|aC<|have H:=H.drop 2;⟨_,_,E.nil,H,hs27,hm⟩
     ·refine sq<|pr 4 E rfl fun a E=>lb E H 0 rfl rfl rfl rfl rfl rfl rfl U22 rfl fun a E=>pr 1 E rfl fun a E=>bd hm fun x30 hx31 hm=>?_
      obtain ⟨p32,x33,hx34⟩:=H.rowformNE (i:=1) rfl hx31
      refine sv E rfl rfl rfl (cY (d:=aF) E hx34 rfl rfl rfl rfl U22 iR hx31) fun a E=>pr 1 E rfl fun a E=>nt<|wp_ret<|bV<|aP<|aY E rfl rfl<|?_
      cases hm
      exact ⟨_,L1 _ hx34 hx31,H.reads hs27⟩
  ·clear E H hm
   rintro a w ⟨x20,rs21,E,H,hs22,hm⟩
   unfold pV at hm
   refine sq<|pr 1 E rfl fun a E=>nt<|wp_ret<|aY E rfl rfl<|have H:=H.nilRow 9 kS;have H:=H.frs [0,2,2] rfl;?_
   cases hm
   exact ⟨_,rfl,H.reads hs22⟩

def wP (l3:List aE) (x6:Int) (s7:ByteArray) (s8:ByteArray) (x9:Int) (l11:List ByteArray) (x12:bJ):Option ((List aE)×Int×ByteArray×ByteArray×Int×(List ByteArray)):=
  (jH l3 x6 s7 s8 x9 l11 x12).bind fun u15=>if (decide (u15.1 < 0))=true then (some (l3,u15.2.1,u15.2.2.1,u15.2.2.2.1,u15.2.2.2.2.1,u15.2.2.2.2.2)) else ((idx l3 u15.1).bind fun x18=>if (x18.Version == 281474976710656)=true then ((hG 2).bind fun u23=>some (l3,u23,(ByteArray.mk #[]),(ByteArray.mk #[]),0,[])) else (some ((l3.set u15.1.toNat ({ x18 with Data:=x12.Data }:aE)).set u15.1.toNat ({ ({ x18 with Data:=x12.Data }:aE) with Version:=IntKind.i64.wrap ((({ x18 with Data:=x12.Data }:aE).Version)+1) }:aE),u15.2.1,u15.2.2.1,u15.2.2.2.1,({ ({ x18 with Data:=x12.Data }:aE) with Version:=IntKind.i64.wrap ((({ x18 with Data:=x12.Data }:aE).Version)+1) }:aE).Version,u15.2.2.2.2.2)))
theorem Q1 {w:World} {Fo:List Ob} {rs:List Rp} {p1:Nat} {v2 v10 v13:Value} {l3:List aE} {x6 x9:Int} {s7 s8:ByteArray} {l11:List ByteArray} {x12:bJ} (H:Sep w (Blk p1 251 [v2,v13,.int .i64 x6,.string s7,.string s8,.int .i64 x9,v10]::Row 95 aF v2 l3::Row 9 kS v10 l11::Fo) rs) {r:(List aE)×Int×ByteArray×ByteArray×Int×(List ByteArray)} (hm:wP l3 x6 s7 s8 x9 l11 x12=some r) :
    Calls Tryz.prog 197 [pt p1 0,.agg (cH x12).toArray].toArray w (Ret fun v w'=>∃ y6,.tuple #[]=v∧Sep w' (Blk p1 251 [v2,v13,.int .i64 r.2.1,.string r.2.2.1,.string r.2.2.2.1,.int .i64 r.2.2.2.2.1,y6]::Row 95 aF v2 r.1::Row 9 kS y6 r.2.2.2.2.2::Fo) (rs)):=by
 unfold wP at hm
 refine ent Tryz.func197 rfl Tryz.ntmps197 rfl rfl fun a E=>sq<|bS E H (wn rfl) rfl rfl rfl rfl rfl fun p14 w a H E=>nx<|pr 1 E rfl fun a E=>sv E rfl rfl rfl (cA (i:=0) (us:=(cH x12)) E H rfl rfl rfl rfl U85 rfl hP) fun a E=>have H:=H.frs [0,3,3,3] rfl;bd hm fun u15 hx16 hm=>cG E rfl rfl rfl rfl rfl P1 (nB H hx16)<|?_
 rintro _ w ⟨v17,rfl,H⟩ a E
 refine pr 1 E rfl fun a E=>nt<|wp_block<|sq<|pr 1 E rfl fun a E=>sv E rfl rfl rfl (Ox E Ai Aj rfl rfl rfl) fun a E=>pr 1 E rfl fun a E=>nt<|wif E hm rfl (fun hm=>?_) fun hm=>?_
 ·refine wp_skip<|bY<|oJ E rfl<|have H:=H.drop 3;?_
  cases hm
  exact ⟨_,rfl,H.reads Y0⟩
 ·refine sq<|pr 1 E rfl fun a E=>bd hm fun x18 hx19 hm=>?_
  obtain ⟨p20,x21,hx22⟩:=H.rowformNE (i:=1) rfl hx19
  rw [L1 5 hx22 hx19] at E
  refine pr 2 E rfl fun a E=>sv E rfl rfl rfl (mX (d:=aF) (i:=1) (k:=2) E H cK hx22 rfl rfl rfl hx19 rfl U2 rfl) fun a E=>pr 2 E rfl fun a E=>nt<|wif E hm rfl (fun hm=>?_) fun hm=>?_
  ·refine wp_region_lit<|pr 1 E rfl fun a E=>bd hm fun u23 hx24 hm=>xk E rfl rfl rfl rfl rfl G3 (lC H hx24) fun w H a E=>wpList_nil<|bY<|oJ E rfl<|have H:=H.nilRow 9 kS;have H:=H.drs [3,3];?_
   refine have H:=H.frs [0,2,2] rfl;?_
   cases hm
   exact ⟨_,rfl,H.reads Y0⟩
  ·refine sq<|pr 2 E rfl fun a E=>lb E H 3 rfl rfl rfl rfl rfl rfl rfl U9 rfl fun a E=>pr 2 E rfl fun a E=>h9 (d:=aF) (i:=1) (k:=1) (z':=({ x18 with Data:=x12.Data }:aE)) E H cK (wn rfl) rfl hx22 rfl rfl rfl rfl rfl rfl hx19 rfl rfl sz9 fun w H=>nx<|pr 3 E rfl fun a E=>sv E rfl rfl rfl (mX (d:=aF) (i:=1) (k:=2) E H cK hx22 rfl rfl rfl (sI hx19) rfl U2 rfl) fun a E=>pr 3 E rfl fun a E=>?_
   refine h9 (d:=aF) (i:=1) (k:=2) (z':=({ ({ x18 with Data:=x12.Data }:aE) with Version:=IntKind.i64.wrap ((({ x18 with Data:=x12.Data }:aE).Version)+1) }:aE)) E H cK (wn rfl) rfl hx22 rfl rfl rfl rfl rfl rfl (sI hx19) rfl rfl sz2 fun w H=>nt<|wp_region_lit<|pr 4 E rfl fun a E=>sv E rfl rfl rfl (mX (d:=aF) (i:=1) (k:=2) E H cK hx22 rfl rfl rfl (sI (sI hx19)) rfl U2 rfl) fun a E=>pr 3 E rfl fun a E=>aZ (i:=0) E H (wn rfl) rfl rfl rfl rfl rfl rfl sz2 rfl rfl fun w H=>wpList_nil<|bY<|?_
   refine oJ E rfl<|have H:=H.drop 3;?_
   cases hm
   exact ⟨_,rfl,H.reads Y0⟩

def j0 (x1:bJ):Option (Int×ByteArray×ByteArray×ByteArray×Int×Int×Bool):=
  some (x1.Kind,x1.Dir,x1.Path,x1.Data,x1.Version,x1.Owner,x1.Turns)
theorem M7 {w:World} {Fo:List Ob} {rs:List Rp} {x1:bJ} (H:Sep w (Fo) rs) {r:Int×ByteArray×ByteArray×ByteArray×Int×Int×Bool} (hm:j0 x1=some r) :
    Calls Tryz.prog 266 [.agg (cH x1).toArray].toArray w (Ret fun v w'=>∃ p5001,.func (.func 317) #[] #[pt p5001 0]=v∧Sep w' (Blk p5001 85 [.int .i64 r.1,.string r.2.1,.string r.2.2.1,.string r.2.2.2.1,.int .i64 r.2.2.2.2.1,.int .i64 r.2.2.2.2.2.1,.bool r.2.2.2.2.2.2]::Fo) (rs)):=by
 unfold j0 at hm
 refine ent Tryz.func266 rfl Tryz.ntmps266 rfl rfl fun a E=>sq<|bS E H (wn rfl) rfl rfl rfl rfl rfl fun p2 w a H E=>pr 1 E rfl fun a E=>nx<|sv E rfl rfl rfl (iP E rfl rfl rfl) fun a E=>pr 1 E rfl fun a E=>nt<|wp_ret<|?_
 refine aY E rfl rfl<|?_
 cases hm
 exact ⟨_,rfl,H.reads Y0⟩

def xF (x1:aE) (s5:ByteArray):Option Bool:=
  (qM x1.Path).bind fun u17=>if u17.2=true then (some (sEq u17.1 s5)) else (some (false))
theorem C5 {w:World} {Fo:List Ob} {rs:List Rp} {x1:aE} {p2:Nat} {s5:ByteArray} {v10 v11 v12 v13 v14 v15:Value} (H:Sep w (Blk p2 85 [v10,v11,.string s5,v12,v13,v14,v15]::Fo) rs) {r:Bool} (hm:xF x1 s5=some r) :
    Calls Tryz.prog 317 [.agg (iQ x1).toArray,pt p2 0].toArray w (Ret fun v w'=>.bool r=v∧Sep w' (Blk p2 85 [v10,v11,.string s5,v12,v13,v14,v15]::Fo) (rs)):=by
 unfold xF at hm
 refine ent Tryz.func317 rfl Tryz.ntmps317 rfl rfl fun a E=>sq<|bS E H (wn rfl) rfl rfl rfl rfl rfl fun p16 w a H E=>pr 1 E rfl fun a E=>nx<|pr 1 E rfl fun a E=>lb E H 0 rfl rfl rfl rfl rfl rfl rfl U9 rfl fun a E=>bd hm fun u17 hx18 hm=>xk E rfl rfl rfl rfl rfl Cv (xJ H hx18) fun w H a E=>?_
 refine pr 5 E rfl fun a E=>nx<|pr 2 E rfl fun a E=>cs hm (fun hb19 hm=>?_) fun hb19 hm=>?_
 ·refine pk 2 E (kc 13 rfl hb19) rfl fun a E=>aQ E (ws' (d:=13) E rfl rfl rfl rfl hb19) rfl rfl (cD (i:=1) E H rfl rfl rfl rfl U9 rfl) fun a E=>pk 3 E (kc 13 rfl hb19) rfl fun a E=>nt<|wp_ret<|aY E rfl rfl<|have H:=H.drop 0;?_
  cases hm
  exact ⟨rfl,H.reads Y0⟩
 ·refine pk 6 E (kc 13 rfl hb19) rfl fun a E=>nt<|wp_ret<|aY E rfl rfl<|have H:=H.drop 0;?_
  cases hm
  exact ⟨rfl,H.reads Y0⟩

def xG (s1:ByteArray):Option ByteArray:=
  (n1 s1).bind fun u2=>some (u2.2.1)
theorem C6 {w:World} {Fo:List Ob} {rs:List Rp} {s1:ByteArray} (H:Sep w (Fo) rs) {r:ByteArray} (hm:xG s1=some r) :
    Calls Tryz.prog 261 [.string s1].toArray w (Ret fun v w'=>.string r=v∧Sep w' (Fo) (rs)):=by
 unfold xG at hm
 refine ent Tryz.func261 rfl Tryz.ntmps261 rfl rfl fun a E=>sq<|pr 1 E rfl fun a E=>nx<|pr 1 E rfl fun a E=>bd hm fun u2 hx3 hm=>xk E rfl rfl rfl rfl rfl Lo (An H hx3) fun w H a E=>pr 7 E rfl fun a E=>nx<|?_
 refine pr 2 E rfl fun a E=>nt<|wp_ret<|aY E rfl rfl<|?_
 cases hm
 exact ⟨rfl,H.reads Y0⟩

def nL (b50:Bool) (l54:(List ByteArray)):Option (Bool×(List ByteArray)):=
  some (b50,l54)
def nM (x1:aE) (l30:List ByteArray) (b50:Bool):Option (Bool×(List ByteArray)):=
  if b50=true then ((xG x1.Path).bind fun u57=>(ck (l30.length+([u57]:List ByteArray).length ≤ LIM)).bind fun u61=>nL b50 (l30 ++ ([u57]:List ByteArray))) else (nL b50 l30)
def pW (x1:aE) (x8:Int) (s14:ByteArray) (l30:List ByteArray):Option (Bool×(List ByteArray)):=
  if (x1.Owner == x8)=true then ((xF x1 s14).bind fun u66=>nM x1 l30 u66) else (nM x1 l30 false)
theorem zL {w:World} {Fo:List Ob} {rs:List Rp} {x1:aE} {p2 p10 p11 p19 p20:Nat} {x8:Int} {s14:ByteArray} {v29 v31 v32 v33 v34 v35 v36 v37 v38 v39 v40 v41 v42 v43 v44 v45 v46 v47 v48:Value} {l30:List ByteArray} (H:Sep w (Blk p2 85 [v31,v32,v33,v34,v35,.int .i64 x8,v36]::Blk p10 107 [.func (.func 317) #[] #[pt p11 0]]::Blk p11 85 [v37,v38,.string s14,v39,v40,v41,v42]::Blk p19 248 [pt p20 0]::Blk p20 251 [v43,v44,v45,v46,v47,v48,v29]::Row 9 kS v29 l30::Fo) rs) {r:Bool×(List ByteArray)} (hm:pW x1 x8 s14 l30=some r) :
    Calls Tryz.prog 269 [.agg (iQ x1).toArray,pt p2 0,pt p10 0,pt p19 0].toArray w (Ret fun v w'=>∃ y2,.bool r.1=v∧Sep w' (Blk p2 85 [v31,v32,v33,v34,v35,.int .i64 x8,v36]::Blk p10 107 [.func (.func 317) #[] #[pt p11 0]]::Blk p11 85 [v37,v38,.string s14,v39,v40,v41,v42]::Blk p19 248 [pt p20 0]::Blk p20 251 [v43,v44,v45,v46,v47,v48,y2]::Row 9 kS y2 r.2::Fo) (rs)):=by
 unfold pW at hm
 refine ent Tryz.func269 rfl Tryz.ntmps269 rfl rfl fun a E=>sq<|bS E H (wn rfl) rfl rfl rfl rfl rfl fun p49 w a H E=>pr 1 E rfl fun a E=>nt<|aT (fun a w=>∃ b50 rs51,Env 33 a [(3,pt p19 0),(4,pt p49 0),(6,.bool b50)]∧Sep w (Blk p19 248 [pt p20 0]::Blk p49 95 (iQ x1)::Blk p2 85 [v31,v32,v33,v34,v35,.int .i64 x8,v36]::Blk p10 107 [.func (.func 317) #[] #[pt p11 0]]::Blk p11 85 [v37,v38,.string s14,v39,v40,v41,v42]::Blk p20 251 [v43,v44,v45,v46,v47,v48,v29]::Row 9 kS v29 l30::Fo) rs51∧(∀ r,r ∈ rs→r ∈ rs51)∧nM x1 l30 b50=some r) ?_ ?_
 ·refine wp_region_lit<|pr 1 E rfl fun a E=>lb E H 0 rfl rfl rfl rfl rfl rfl rfl U2 rfl fun a E=>pr 1 E rfl fun a E=>lb E H 1 rfl rfl rfl rfl rfl rfl rfl U2 rfl fun a E=>pr 2 E rfl fun a E=>cs hm (fun hb65 hm=>?_) fun hb65 hm=>?_
  ·refine aQ E (ws' (d:=12) E rfl rfl rfl rfl hb65) rfl rfl (cD (i:=2) E H rfl rfl rfl rfl Yo rfl) fun a E=>aQ E (ws' (d:=12) E rfl rfl rfl rfl hb65) rfl rfl (cA (i:=0) (us:=(iQ x1)) E H rfl rfl rfl rfl U95 rfl iR) fun a E=>have H:=H.frs [6,6,6,5,5,5,6] rfl;bd hm fun u66 hx67 hm=>aU E (ws' (d:=12) E rfl rfl rfl rfl hb65) rfl rfl (bP E rfl rfl rfl (Hp _)) (C5 H hx67)<|?_
   rintro _ w ⟨rfl,H⟩ a E
   exact pk 2 E (kc 12 rfl hb65) rfl fun a E=>nt<|have H:=H.frs [6,6,2,5,5,5,6] rfl;⟨_,_,E.to rfl,H,Y0,hm⟩
  ·exact pk 5 E (kc 12 rfl hb65) rfl fun a E=>nt<|have H:=H.frs [6,6,5,5,5,5,6] rfl;⟨_,_,E.to rfl,H,Y0,hm⟩
 ·clear E H hm
  rintro a w ⟨b50,rs51,E,H,hs52,hm⟩
  unfold nM at hm
  refine aT (fun a w=>∃ v53 l54 rs55,Env 33 a [(6,.bool b50)]∧Sep w (Blk p2 85 [v31,v32,v33,v34,v35,.int .i64 x8,v36]::Blk p10 107 [.func (.func 317) #[] #[pt p11 0]]::Blk p11 85 [v37,v38,.string s14,v39,v40,v41,v42]::Blk p19 248 [pt p20 0]::Blk p20 251 [v43,v44,v45,v46,v47,v48,v53]::Row 9 kS v53 l54::Fo) rs55∧(∀ r,r ∈ rs→r ∈ rs55)∧nL b50 l54=some r) ?_ ?_
  ·refine sq<|pr 1 E rfl fun a E=>nt<|wif E hm rfl (fun hm=>?_) fun hm=>?_
   ·refine dw [(0,0),(1,0),(2,0),(3,0),(4,0),(5,0),(6,0),(7,0),(8,1),(9,1),(10,1),(11,2),(12,2),(13,2),(14,2)] [0,1,5] [] H (by kernel_rfl) (fun _ _ _ h=>False.elim h.2) fun w W0 hI H=>fb E rfl (wn rfl) rfl rfl rfl rfl m0 rfl Hn rfl fun a E=>fb E rfl (wn rfl) rfl rfl rfl rfl m0 rfl Hn rfl fun a E=>fn 3 E rfl fun a E=>fb E rfl (wn rfl) rfl rfl rfl rfl mm2 rfl U33 rfl fun a E=>fn 1 E rfl fun a E=>fb E rfl (wn rfl) rfl rfl rfl rfl mm1 rfl U9 rfl fun a E=>bZ rfl<|bd hm fun u57 hx58 hm=>?_
    refine xk E rfl rfl rfl rfl rfl Hq (C6 H hx58) fun w H a E=>nt<|?_
    refine ⟨⟨_,_,H,(aB m0 (aB mm1 (aB mm5 (aL)))),(aM)⟩,?_⟩
    refine bZ rfl<|pI (e:=9) (d:=kS) (cs:=[.string u57]) (xs:=[u57]) E H (wn rfl) rfl rfl rfl (E.evs rfl) (by kernel_rfl) rfl (fun ok hr=>(Rows.single (d:=kS) (cs:=[.string u57]) (x:=u57) rfl)) fun v59 w a H E=>nt<|?_
    refine ⟨⟨_,_,H,(aB m0 (aB mm1 (aB mm5 (aL)))),(aM)⟩,?_⟩
    refine bZ rfl<|bk hm fun hx62 hm=>dV (i:=6) E H (wn rfl) rfl rfl rfl rfl rfl rfl (jA m0) U33 Gy rfl hx62 rfl fun v60 w a H E=>nt<|?_
    refine ⟨⟨_,_,H,(aB m0 (aB mm1 (aB mm5 (aL)))),(aM)⟩,?_⟩
    refine bQ rfl<|pr 1 E rfl fun a E=>nt<|bQ rfl<|pr 1 E rfl fun a E=>nt<|bQ rfl<|pr 1 E rfl fun a E=>nt<|?_
    refine bQ rfl<|?_
    obtain ⟨q63,x64,rfl⟩:=H.rowform (i:=6) rfl
    refine aZ (i:=5) E H (wn rfl) rfl rfl rfl rfl rfl rfl Rh rfl rfl fun w H=>nt<|bR<|?_
    clear hI
    exact aC<|have H:=H.drop 1;have H:=H.frs [5,5,2,5,5,5] rfl;X3 ⟨E.to rfl,H,(Y1 hs52),hm⟩
   ·exact wp_skip<|aC<|have H:=H.drop 1;have H:=H.frs [5,5,2,5,5,5] rfl;X3 ⟨E.to rfl,H,hs52,hm⟩
  ·clear E H hm
   rintro a w ⟨v53,l54,rs55,E,H,hs56,hm⟩
   unfold nL at hm
   refine sq<|pr 2 E rfl fun a E=>nt<|wp_ret<|aY E rfl rfl<|?_
   cases hm
   exact ⟨_,rfl,H.reads hs56⟩

def eR (l2:List aE) (x9:Int) (s15:ByteArray):Nat→Int→(List ByteArray)→Option (Int×(List ByteArray))
  | 0,_,_=>none
  | k1+1,x47,l49=>
    if (decide (x47 < (l2.length:Int)))=true then ((idx l2 x47).bind fun x52=>(pW x52 x9 s15 l49).bind fun u57=>if u57.1=true then (some (x47,u57.2)) else (eR l2 x9 s15 k1 (IntKind.i64.wrap (x47+1)) u57.2)) else (some ((-1),l49))
def iH (l2:List aE) (x9:Int) (s15:ByteArray) (l29:List ByteArray):Option (Int×(List ByteArray)):=
  eR l2 x9 s15 (((l2.length:Int) - 0:Int).toNat+1) 0 l29
theorem tT {w:World} {Fo:List Ob} {rs:List Rp} {v1 v28 v30 v31 v32 v33 v34 v35 v36 v37 v38 v39 v40 v41 v42 v43 v44 v45 v46:Value} {l2:List aE} {p3 p11 p12 p20 p21:Nat} {x9:Int} {s15:ByteArray} {l29:List ByteArray} (H:Sep w (Row 95 aF v1 l2::Blk p3 85 [v30,v31,v32,v33,v34,.int .i64 x9,v35]::Blk p11 107 [.func (.func 317) #[] #[pt p12 0]]::Blk p12 85 [v36,v37,.string s15,v38,v39,v40,v41]::Blk p20 248 [pt p21 0]::Blk p21 251 [v1,v42,v43,v44,v45,v46,v28]::Row 9 kS v28 l29::Fo) rs) {r:Int×(List ByteArray)} (hm:iH l2 x9 s15 l29=some r) :
    Calls Tryz.prog 105 [v1,.func (.func 269) #[] #[pt p3 0,pt p11 0,pt p20 0]].toArray w (Ret fun v w'=>∃ y2,.int .i64 r.1=v∧Sep w' (Blk p3 85 [v30,v31,v32,v33,v34,.int .i64 x9,v35]::Blk p11 107 [.func (.func 317) #[] #[pt p12 0]]::Blk p12 85 [v36,v37,.string s15,v38,v39,v40,v41]::Blk p20 248 [pt p21 0]::Blk p21 251 [v1,v42,v43,v44,v45,v46,y2]::Row 95 aF v1 l2::Row 9 kS y2 r.2::Fo) (rs)):=by
 unfold iH at hm
 refine ent Tryz.func105 rfl Tryz.ntmps105 rfl rfl fun a E=>sq<|pr 1 E rfl fun a E=>nt<|wp_seq<|sq<|pr 1 E rfl fun a E=>sv E rfl rfl rfl (iZ (i:=0) E H rfl rfl rfl U22) fun a E=>pr 1 E rfl fun a E=>?_
 refine nt<|wp_block<|bX (fun k1 a w=>∃ v48 x47 l49 rs50,Env 19 a [(0,v1),(1,.func (.func 269) #[] #[pt p3 0,pt p11 0,pt p20 0]),(7,.int .i64 (l2.length:Int)),(8,.int .i64 x47)]∧Sep w (Row 95 aF v1 l2::Blk p3 85 [v30,v31,v32,v33,v34,.int .i64 x9,v35]::Blk p11 107 [.func (.func 317) #[] #[pt p12 0]]::Blk p20 248 [pt p21 0]::Blk p12 85 [v36,v37,.string s15,v38,v39,v40,v41]::Blk p21 251 [v1,v42,v43,v44,v45,v46,v48]::Row 9 kS v48 l49::Fo) rs50∧(∀ r,r ∈ rs→r ∈ rs50)∧eR l2 x9 s15 k1 x47 l49=some r) (((l2.length:Int) - 0:Int).toNat+1) ?_ ?_
 ·exact have H:=H.frs [6,6,5,6,6,6,6] rfl;X4 ⟨E.to rfl,H,Y0,hm⟩
 ·clear E H hm
  rintro k1 a w ⟨v48,x47,l49,rs50,E,H,hs51,hm⟩
  cases k1 with
  | zero=>exact (bT hm rfl).elim
  | succ k1=>
   unfold eR at hm
   refine sq<|pr 1 E rfl fun a E=>nt<|wp_seq<|wif E hm rfl (fun hm=>?_) fun hm=>?_
   ·refine wp_skip<|aC<|wp_seq<|wp_block<|sq<|pr 2 E rfl fun a E=>nx<|pr 3 E rfl fun a E=>bd hm fun x52 hx53 hm=>?_
    obtain ⟨p54,x55,hx56⟩:=H.rowformNE (i:=0) rfl hx53
    refine sv E rfl rfl rfl (cY (d:=aF) E hx56 rfl rfl rfl rfl U22 iR hx53) fun a E=>sv E rfl rfl rfl (fZ (i:=0) E H cK hx56 rfl rfl rfl hx53 (us:=[.string x52.Path,.string x52.Data,.int .i64 x52.Version,.int .i64 x52.Turn,.int .i64 x52.Owner]) rfl U95 rfl iR) fun a E=>have H:=H.frs [0,6,6,5,6,6,6] rfl;bd hm fun u57 hx58 hm=>aU E (wn rfl) rfl rfl (bP E rfl rfl rfl (Lv _)) (zL H hx58)<|?_
    rintro _ w ⟨v59,rfl,H⟩ a E
    refine nt<|wif E hm rfl (fun hm=>?_) fun hm=>?_
    ·refine sq<|pr 2 E rfl fun a E=>nt<|wp_ret<|bV<|aP<|aP<|bV<|aP<|?_
     refine aY E rfl rfl<|have H:=H.frs [5,6,6,6,6,6,6] rfl;?_
     cases hm
     exact ⟨_,rfl,H.reads hs51⟩
    ·exact wp_skip<|bY<|aC<|wp_region_lit<|pr 2 E rfl fun a E=>nt<|have H:=H.frs [5,5,4,5,5,5,6] rfl;⟨k1,Nat.lt_succ_self k1,X4 ⟨E.to rfl,H,hs51,hm⟩⟩
   ·refine wp_exit<|bH<|bH<|dG<|aC<|sq<|pr 1 E rfl fun a E=>nt<|wp_ret<|?_
    refine aY E rfl rfl<|have H:=H.frs [6,1,6,5,6,6,6] rfl;?_
    cases hm
    exact ⟨_,rfl,H.reads hs51⟩

def fI (rec_1:(List aE)→Int→Int→(List ByteArray)→Option ((List aE)×(List ByteArray))) (x52:Int) (l57:(List aE)) (x58:Int) (l60:(List ByteArray)):Option ((List aE)×(List ByteArray)):=
  rec_1 l57 x58 (IntKind.i64.wrap (x52+1)) l60
def dR (x9:Int) (s15:ByteArray):Nat→(List aE)→Int→Int→(List ByteArray)→Option ((List aE)×(List ByteArray))
  | 0,_,_,_,_=>none
  | k1+1,l50,x51,x52,l54=>
    if (decide (x52 < (l50.length:Int)))=true then ((idx l50 x52).bind fun x63=>(pW x63 x9 s15 l54).bind fun u69=>if (!u69.1)=true then ((idx l50 x51).bind fun x72=>fI (dR x9 s15 k1) x52 (l50.set x51.toNat x63) (IntKind.i64.wrap (x51+1)) u69.2) else (fI (dR x9 s15 k1) x52 l50 x51 u69.2)) else ((ck (0 ≤ x51∧x51 ≤ l50.length)).bind fun u77=>(ck (0 ≤ x51∧x51 ≤ (l50.take x51.toNat ++ List.replicate (l50.length - x51.toNat) (⟨⟨#[]⟩,⟨#[]⟩,0,0,0⟩:aE)).length)).bind fun u79=>some ((l50.take x51.toNat ++ List.replicate (l50.length - x51.toNat) (⟨⟨#[]⟩,⟨#[]⟩,0,0,0⟩:aE)).take x51.toNat,l54))
def iU (l2:List aE) (x9:Int) (s15:ByteArray) (l29:List ByteArray):Option ((List aE)×(List ByteArray)):=
  (iH l2 x9 s15 l29).bind fun u47=>if (u47.1 == (-1))=true then (some (l2,u47.2)) else (dR x9 s15 (((l2.length:Int) - (IntKind.i64.wrap (u47.1+1)):Int).toNat+1) l2 u47.1 (IntKind.i64.wrap (u47.1+1)) u47.2)
theorem uQ {w:World} {Fo:List Ob} {rs:List Rp} {v1 v28 v30 v31 v32 v33 v34 v35 v36 v37 v38 v39 v40 v41 v42 v43 v44 v45 v46:Value} {l2:List aE} {p3 p11 p12 p20 p21:Nat} {x9:Int} {s15:ByteArray} {l29:List ByteArray} (H:Sep w (Row 95 aF v1 l2::Blk p3 85 [v30,v31,v32,v33,v34,.int .i64 x9,v35]::Blk p11 107 [.func (.func 317) #[] #[pt p12 0]]::Blk p12 85 [v36,v37,.string s15,v38,v39,v40,v41]::Blk p20 248 [pt p21 0]::Blk p21 251 [v1,v42,v43,v44,v45,v46,v28]::Row 9 kS v28 l29::Fo) rs) {r:(List aE)×(List ByteArray)} (hm:iU l2 x9 s15 l29=some r) :
    Calls Tryz.prog 268 [v1,.func (.func 269) #[] #[pt p3 0,pt p11 0,pt p20 0]].toArray w (Ret fun v w'=>∃ y1 y3,y1=v∧Sep w' (Row 95 aF y1 r.1::Blk p3 85 [v30,v31,v32,v33,v34,.int .i64 x9,v35]::Blk p11 107 [.func (.func 317) #[] #[pt p12 0]]::Blk p12 85 [v36,v37,.string s15,v38,v39,v40,v41]::Blk p20 248 [pt p21 0]::Blk p21 251 [v1,v42,v43,v44,v45,v46,y3]::Row 9 kS y3 r.2::Fo) (rs)):=by
 unfold iU at hm
 refine ent Tryz.func268 rfl Tryz.ntmps268 rfl rfl fun a E=>sq<|pr 1 E rfl fun a E=>nx<|pr 2 E rfl fun a E=>bd hm fun u47 hx48 hm=>cG E rfl rfl rfl rfl rfl Gv (tT H hx48)<|?_
 rintro _ w ⟨v49,rfl,H⟩ a E
 refine pr 1 E rfl fun a E=>nt<|wp_seq<|sq<|pr 2 E rfl fun a E=>nt<|wif E hm rfl (fun hm=>?_) fun hm=>?_
 ·refine sq<|pr 2 E rfl fun a E=>nt<|wp_ret<|aP<|aY E rfl rfl<|have H:=H.frs [6,5,5,5,5,5,6] rfl;?_
  cases hm
  exact ⟨_,_,rfl,H.reads Y0⟩
 ·refine wp_skip<|aC<|wp_seq<|sq<|pr 3 E rfl fun a E=>nt<|wp_block<|bX (fun k1 a w=>∃ v53 l50 x51 x52 l54 rs55,Env 42 a [(0,v1),(1,.func (.func 269) #[] #[pt p3 0,pt p11 0,pt p20 0]),(5,.int .i64 x51),(6,.int .i64 x52)]∧Sep w (Row 95 aF v1 l50::Blk p3 85 [v30,v31,v32,v33,v34,.int .i64 x9,v35]::Blk p11 107 [.func (.func 317) #[] #[pt p12 0]]::Blk p20 248 [pt p21 0]::Blk p12 85 [v36,v37,.string s15,v38,v39,v40,v41]::Blk p21 251 [v1,v42,v43,v44,v45,v46,v53]::Row 9 kS v53 l54::Fo) rs55∧(∀ r,r ∈ rs→r ∈ rs55)∧dR x9 s15 k1 l50 x51 x52 l54=some r) (((l2.length:Int) - (IntKind.i64.wrap (u47.1+1)):Int).toNat+1) ?_ ?_
  ·exact have H:=H.frs [6,5,4,5,5,5,6] rfl;X6 ⟨E.to rfl,H,Y0,hm⟩
  ·clear E H hm
   rintro k1 a w ⟨v53,l50,x51,x52,l54,rs55,E,H,hs56,hm⟩
   cases k1 with
   | zero=>exact (bT hm rfl).elim
   | succ k1=>
    unfold dR at hm
    refine wp_seq<|sq<|pr 2 E rfl fun a E=>sv E rfl rfl rfl (iZ (i:=0) E H rfl rfl rfl U22) fun a E=>pr 1 E rfl fun a E=>nt<|wif E hm rfl (fun hm=>?_) fun hm=>?_
    ·refine wp_skip<|aC<|aT (fun a w=>∃ v59 l57 x58 l60 rs61,Env 42 a [(0,v1),(1,.func (.func 269) #[] #[pt p3 0,pt p11 0,pt p20 0]),(5,.int .i64 x58),(6,.int .i64 x52)]∧Sep w (Row 95 aF v1 l57::Blk p3 85 [v30,v31,v32,v33,v34,.int .i64 x9,v35]::Blk p11 107 [.func (.func 317) #[] #[pt p12 0]]::Blk p20 248 [pt p21 0]::Blk p12 85 [v36,v37,.string s15,v38,v39,v40,v41]::Blk p21 251 [v1,v42,v43,v44,v45,v46,v59]::Row 9 kS v59 l60::Fo) rs61∧(∀ r,r ∈ rs→r ∈ rs61)∧fI (dR x9 s15 k1) x52 l57 x58 l60=some r) ?_ ?_
     ·refine wp_block<|sq<|pr 2 E rfl fun a E=>bd hm fun x63 hx64 hm=>?_
      obtain ⟨p65,x66,hx67⟩:=H.rowformNE (i:=0) rfl hx64
      refine sv E rfl rfl rfl (cY (d:=aF) E hx67 rfl rfl rfl rfl U22 iR hx64) fun a E=>sv E rfl rfl rfl (fZ (i:=0) E H cK hx67 rfl rfl rfl hx64 (us:=[.string x63.Path,.string x63.Data,.int .i64 x63.Version,.int .i64 x63.Turn,.int .i64 x63.Owner]) rfl U95 rfl iR) fun a E=>al E H rfl rfl rfl rfl Ks fun p68 w a H E=>aZ (i:=0) E H (wn rfl) rfl rfl rfl rfl rfl rfl iR rfl rfl fun w H=>nx<|pr 1 E rfl fun a E=>sv E rfl rfl rfl (cA (i:=0) (us:=(iQ x63)) E H rfl rfl rfl rfl U95 rfl iR) fun a E=>have H:=H.frs [1,1,7,7,6,7,7,7] rfl;bd hm fun u69 hx70 hm=>?_
      refine aU E (wn rfl) rfl rfl (bP E rfl rfl rfl (Lv _)) (zL H hx70)<|?_
      rintro _ w ⟨v71,rfl,H⟩ a E
      refine pr 1 E rfl fun a E=>nt<|wif E hm rfl (fun hm=>?_) fun hm=>?_
      ·refine sq<|pr 2 E rfl fun a E=>sv E rfl rfl rfl (cA (i:=6) (us:=(iQ x63)) E H rfl rfl rfl rfl U95 rfl iR) fun a E=>bd hm fun x72 hx73 hm=>?_
       obtain ⟨p74,x75,hx76⟩:=H.rowformNE (i:=7) rfl hx73
       refine sv E rfl rfl rfl (cY (d:=aF) E hx76 rfl rfl rfl rfl U22 iR hx73) fun a E=>yO (d:=aF) (i:=7) (us:=[.string x63.Path,.string x63.Data,.int .i64 x63.Version,.int .i64 x63.Turn,.int .i64 x63.Owner]) (z':=x63) E H cK (wn rfl) rfl hx76 rfl rfl rfl rfl rfl rfl rfl hx73 iR fun w H=>nt<|wp_region_lit<|pr 3 E rfl fun a E=>wpList_nil<|bY<|aC<|have H:=H.drop 6;?_
       exact have H:=H.frs [5,5,4,5,5,5,6] rfl;X5 ⟨E.to rfl,H,hs56,hm⟩
      ·exact wp_skip<|bY<|aC<|have H:=H.drop 6;have H:=H.frs [5,5,4,5,5,5,6] rfl;X5 ⟨E.to rfl,H,hs56,hm⟩
     ·clear E H hm
      rintro a w ⟨v59,l57,x58,l60,rs61,E,H,hs62,hm⟩
      unfold fI at hm
      exact wp_region_lit<|pr 3 E rfl fun a E=>nt<|⟨k1,Nat.lt_succ_self k1,X6 ⟨E.to rfl,H,hs62,hm⟩⟩
    ·refine wp_exit<|bH<|bH<|dG<|aC<|sq<|pr 2 E rfl fun a E=>bk hm fun hx78 hm=>sv E rfl rfl rfl (F9 (d:=aF) (i:=0) E H rfl rfl rfl rfl U22 iR hx78) fun a E=>?_
     refine c9 (i:=0) (z0:=(⟨⟨#[]⟩,⟨#[]⟩,0,0,0⟩:aE)) E H cK (wn rfl) rfl rfl rfl U22 Vl rfl rfl rfl hx78 fun w H=>nx<|pr 2 E rfl fun a E=>bk hm fun hx80 hm=>w9 (i:=0) E H cK (wn rfl) rfl rfl rfl rfl rfl rfl U22 iR hx80 fun v81 a H E=>pr 1 E rfl fun a E=>nt<|wp_ret<|aY E rfl rfl<|?_
     refine have H:=H.frs [6,6,5,6,6,6,6] rfl;?_
     cases hm
     exact ⟨_,_,rfl,H.reads hs56⟩

def wQ (l3:List aE) (l11:List ByteArray) (x12:bJ):Option ((List aE)×(List ByteArray)):=
  (j0 x12).bind fun u20=>(iU l3 x12.Owner u20.2.2.1 l11).bind fun u24=>some (u24.1,u24.2)
theorem Q2 {w:World} {Fo:List Ob} {rs:List Rp} {p1:Nat} {v2 v10 v13 v14 v15 v16 v17:Value} {l3:List aE} {l11:List ByteArray} {x12:bJ} (H:Sep w (Blk p1 251 [v2,v13,v14,v15,v16,v17,v10]::Row 95 aF v2 l3::Row 9 kS v10 l11::Fo) rs) {r:(List aE)×(List ByteArray)} (hm:wQ l3 l11 x12=some r) :
    Calls Tryz.prog 202 [pt p1 0,.agg (cH x12).toArray].toArray w (Ret fun v w'=>∃ y1 y3,.tuple #[]=v∧Sep w' (Blk p1 251 [y1,v13,v14,v15,v16,v17,y3]::Row 95 aF y1 r.1::Row 9 kS y3 r.2::Fo) (rs)):=by
 unfold wQ at hm
 refine ent Tryz.func202 rfl Tryz.ntmps202 rfl rfl fun a E=>sq<|bS E H (wn rfl) rfl rfl rfl rfl rfl fun p18 w a H E=>bS E H (wn rfl) rfl rfl rfl rfl rfl fun p19 w a H E=>nx<|sv E rfl rfl rfl (cA (i:=0) (us:=(cH x12)) E H rfl rfl rfl rfl U85 rfl hP) fun a E=>bd hm fun u20 hx21 hm=>cG E rfl rfl rfl rfl rfl Hm (M7 H hx21)<|?_
 rintro _ w ⟨p22,rfl,H⟩ a E
 refine al1 E H rfl rfl rfl rfl Vi rfl fun p23 w a H E=>aZ (i:=0) E H (wn rfl) rfl rfl rfl rfl rfl rfl Vj rfl rfl fun w H=>nt<|dw [(6,0),(0,0),(1,1),(2,0),(3,0),(4,0),(5,1),(7,1),(8,2),(9,2),(10,2),(11,2)] [3] [] H (by kernel_rfl) (fun _ _ _ h=>False.elim h.2) fun w W0 hI H=>bW E rfl (wn rfl) rfl rfl (fun w hW=>(iP E rfl rfl rfl)) fun a E=>?_
 refine fb E rfl (wn rfl) rfl rfl rfl rfl m0 rfl Hn rfl fun a E=>bZ rfl<|lb E H 3 rfl rfl rfl rfl rfl rfl rfl Hn rfl fun a E=>nt<|?_
 refine ⟨⟨_,_,H,(aB mm3 (aL)),(aM)⟩,?_⟩
 refine fn 3 E rfl fun a E=>bZ rfl<|lb E H 4 rfl rfl rfl rfl rfl rfl rfl U22 rfl fun a E=>nt<|?_
 refine ⟨⟨_,_,H,(aB mm3 (aL)),(aM)⟩,?_⟩
 refine bZ rfl<|have H:=H.frs [6,5,5,4,4,5,6] rfl;bd hm fun u24 hx25 hm=>cG E rfl rfl rfl rfl rfl Vk (uQ H hx25)<|?_
 rintro _ w ⟨v26,v27,rfl,H⟩ a E
 refine nt<|?_
 refine ⟨⟨_,_,H,(aB mm4 (aL)),(aM)⟩,?_⟩
 refine bQ rfl<|pr 1 E rfl fun a E=>nt<|bQ rfl<|pr 1 E rfl fun a E=>nt<|bQ rfl<|pr 1 E rfl fun a E=>nt<|?_
 refine bQ rfl<|?_
 obtain ⟨q28,x29,rfl⟩:=H.rowform (i:=0) rfl
 refine aZ (i:=5) E H (wn rfl) rfl rfl rfl rfl rfl rfl Bg rfl rfl fun w H=>nt<|bR<|?_
 clear hI
 refine oJ E rfl<|have H:=H.drs [1,1,1,1];have H:=H.frs [2,1,2] rfl;?_
 cases hm
 exact ⟨_,_,rfl,H.reads Y0⟩

def zM:Option Unit:=
  some ()
theorem J8 {w:World} {Fo:List Ob} {rs:List Rp} {v2:Value} (H:Sep w (Fo) rs) {r:Unit} (hm:zM=some r) :
    Calls Tryz.prog 267 [v2].toArray w (Ret fun v w'=>.int .i64 0=v∧Sep w' (Fo) (rs)):=by
 unfold zM at hm
 refine ent Tryz.func267 rfl Tryz.ntmps267 rfl rfl fun a E=>sq<|pr 1 E rfl fun a E=>nx<|pr 1 E rfl fun a E=>nt<|wp_ret<|aY E rfl rfl<|?_
 cases hm
 exact ⟨rfl,H.reads Y0⟩

def qS (x1:aI) (s2:ByteArray):Option Int:=
  (jZ x1.Dir s2).bind fun u4=>some (u4)
theorem j1 {w:World} {Fo:List Ob} {rs:List Rp} {x1:aI} {s2:ByteArray} (H:Sep w (Fo) rs) {r:Int} (hm:qS x1 s2=some r) :
    Calls Tryz.prog 309 [.agg #[.string x1.Dir,.int .i64 x1.Next],.string s2].toArray w (Ret fun v w'=>.int .i64 r=v∧Sep w' (Fo) (rs)):=by
 unfold qS at hm
 refine ent Tryz.func309 rfl Tryz.ntmps309 rfl rfl fun a E=>sq<|bS E H (wn rfl) rfl rfl rfl rfl rfl fun p3 w a H E=>pr 1 E rfl fun a E=>nx<|pr 1 E rfl fun a E=>lb E H 0 rfl rfl rfl rfl rfl rfl rfl U9 rfl fun a E=>pr 1 E rfl fun a E=>bd hm fun u4 hx5 hm=>?_
 refine xk E rfl rfl rfl rfl rfl Er (oP H hx5) fun w H a E=>pr 1 E rfl fun a E=>nt<|wp_ret<|aY E rfl rfl<|have H:=H.drop 0;?_
 cases hm
 exact ⟨rfl,H.reads Y0⟩

def dC (l2:List aI) (s3:ByteArray):Nat→Int→Int→Option (Int×Bool)
  | 0,_,_=>none
  | k1+1,x4,x5=>
    if (decide (x4 < x5))=true then ((idx l2 (IntKind.i64.wrap (pH .u64 (IntKind.u64.wrap (IntKind.i64.wrap (x4+x5))) 1))).bind fun x8=>(qS x8 s3).bind fun u13=>if (decide (u13 < 0))=true then (dC l2 s3 k1 (IntKind.i64.wrap ((IntKind.i64.wrap (pH .u64 (IntKind.u64.wrap (IntKind.i64.wrap (x4+x5))) 1))+1)) x5) else (dC l2 s3 k1 x4 (IntKind.i64.wrap (pH .u64 (IntKind.u64.wrap (IntKind.i64.wrap (x4+x5))) 1)))) else (if (decide (x4 < (l2.length:Int)))=true then ((idx l2 x4).bind fun x16=>(qS x16 s3).bind fun u21=>some (x4,u21 == 0)) else (some (x4,false)))
def dJ (l2:List aI) (s3:ByteArray):Option (Int×Bool):=
  dC l2 s3 (((l2.length:Int) - 0:Int).toNat+1) 0 (l2.length:Int)
theorem fJ {w:World} {Fo:List Ob} {rs:List Rp} {v1:Value} {l2:List aI} {s3:ByteArray} (H:Sep w (Row 77 aJ v1 l2::Fo) rs) {r:Int×Bool} (hm:dJ l2 s3=some r) :
    Calls Tryz.prog 308 [v1,.string s3,.func (.func 309) #[] #[]].toArray w (Ret fun v w'=>.tuple #[.int .i64 r.1,.bool r.2]=v∧Sep w' (Row 77 aJ v1 l2::Fo) (rs)):=by
 unfold dJ at hm
 refine ent Tryz.func308 rfl Tryz.ntmps308 rfl rfl fun a E=>sq<|pr 2 E rfl fun a E=>nx<|pr 1 E rfl fun a E=>sv E rfl rfl rfl (iZ (i:=0) E H rfl rfl rfl U23) fun a E=>pr 1 E rfl fun a E=>nx<|pr 3 E rfl fun a E=>?_
 refine nt<|wp_seq<|wp_block<|bX (fun k1 a w=>∃ x4 x5 rs6,Env 49 a [(0,v1),(1,.string s3),(2,.func (.func 309) #[] #[]),(8,.int .i64 (l2.length:Int)),(9,.int .i64 x4),(10,.int .i64 x5)]∧Sep w (Row 77 aJ v1 l2::Fo) rs6∧(∀ r,r ∈ rs→r ∈ rs6)∧dC l2 s3 k1 x4 x5=some r) (((l2.length:Int) - 0:Int).toNat+1) ?_ ?_
 ·exact X3 ⟨E.to rfl,H,Y0,hm⟩
 ·clear E H hm
  rintro k1 a w ⟨x4,x5,rs6,E,H,hs7,hm⟩
  cases k1 with
  | zero=>exact (bT hm rfl).elim
  | succ k1=>
   unfold dC at hm
   refine wp_seq<|sq<|pr 3 E rfl fun a E=>nt<|wif E hm rfl (fun hm=>?_) fun hm=>?_
   ·refine wp_skip<|aC<|wp_block<|sq<|pr 4 E rfl fun a E=>sv E rfl rfl rfl (F7 E rfl rfl rfl (by decide)) fun a E=>pr 2 E rfl fun a E=>nx<|pr 3 E rfl fun a E=>?_
    refine bd hm fun x8 hx9 hm=>?_
    obtain ⟨p10,x11,hx12⟩:=H.rowformNE (i:=0) rfl hx9
    refine sv E rfl rfl rfl (cY (d:=aJ) E hx12 rfl rfl rfl rfl U23 oK hx9) fun a E=>sv E rfl rfl rfl (fZ (i:=0) E H dI hx12 rfl rfl rfl hx9 (us:=[.string x8.Dir,.int .i64 x8.Next]) rfl U77 rfl oK) fun a E=>pr 1 E rfl fun a E=>bd hm fun u13 hx14 hm=>aU E (wn rfl) rfl rfl (bP E rfl rfl rfl (Lx _)) (j1 H hx14)<|?_
    rintro _ w ⟨rfl,H⟩ a E
    refine pr 1 E rfl fun a E=>nt<|wif E hm rfl (fun hm=>?_) fun hm=>?_
    ·exact wp_region_lit<|pr 3 E rfl fun a E=>wpList_nil<|bY<|aC<|⟨k1,Nat.lt_succ_self k1,X3 ⟨E.to rfl,H,hs7,hm⟩⟩
    ·exact wp_region_lit<|pr 2 E rfl fun a E=>wpList_nil<|bY<|aC<|⟨k1,Nat.lt_succ_self k1,X3 ⟨E.to rfl,H,hs7,hm⟩⟩
   ·refine wp_exit<|bH<|bH<|dG<|aC<|sq<|pr 5 E rfl fun a E=>cs hm (fun hb15 hm=>?_) fun hb15 hm=>?_
    ·refine pk 3 E (kc 39 rfl hb15) rfl fun a E=>bd hm fun x16 hx17 hm=>?_
     obtain ⟨p18,x19,hx20⟩:=H.rowformNE (i:=0) rfl hx17
     refine aQ E (ws' (d:=39) E rfl rfl rfl rfl hb15) rfl rfl (cY (d:=aJ) E hx20 rfl rfl rfl rfl U23 oK hx17) fun a E=>aQ E (ws' (d:=39) E rfl rfl rfl rfl hb15) rfl rfl (fZ (i:=0) E H dI hx20 rfl rfl rfl hx17 (us:=[.string x16.Dir,.int .i64 x16.Next]) rfl U77 rfl oK) fun a E=>pk 1 E (kc 39 rfl hb15) rfl fun a E=>bd hm fun u21 hx22 hm=>aU E (ws' (d:=39) E rfl rfl rfl rfl hb15) rfl rfl (bP E rfl rfl rfl (Lx _)) (j1 H hx22)<|?_
     rintro _ w ⟨rfl,H⟩ a E
     refine pk 4 E (kc 39 rfl hb15) rfl fun a E=>nt<|wp_ret<|fX E rfl rfl rfl<|?_
     cases hm
     exact ⟨rfl,H.reads hs7⟩
    ·refine pk 11 E (kc 39 rfl hb15) rfl fun a E=>nt<|wp_ret<|fX E rfl rfl rfl<|?_
     cases hm
     exact ⟨rfl,H.reads hs7⟩

def pX (x25:aI) (l31:(List aI)):Option (Int×(List aI)):=
  some (x25.Next,l31)
def pY (u19:Int×Bool) (l22:(List aI)):Option (Int×(List aI)):=
  (idx l22 u19.1).bind fun x25=>zM.bind fun u34=>(idx l22 u19.1).bind fun x36=>(idx (l22.set u19.1.toNat ({ x36 with Next:=0 }:aI)) u19.1).bind fun x41=>if (x41.Next == 0)=true then ((ck (0 ≤ u19.1∧u19.1 < (l22.set u19.1.toNat ({ x36 with Next:=0 }:aI)).length∧IntKind.i64.wrap (u19.1+1)=u19.1+1)).bind fun u46=>pX x25 ((l22.set u19.1.toNat ({ x36 with Next:=0 }:aI)).eraseIdx u19.1.toNat)) else (pX x25 (l22.set u19.1.toNat ({ x36 with Next:=0 }:aI)))
def yB (l5:List aI) (s12:ByteArray):Option (Int×(List aI)):=
  (dJ l5 s12).bind fun u19=>if (!u19.2)=true then ((ck (0 ≤ u19.1∧u19.1 ≤ l5.length∧l5.length ≤ 1000000)).bind fun u52=>pY u19 (l5.take u19.1.toNat ++ (⟨s12,0⟩:aI)::l5.drop u19.1.toNat)) else (pY u19 l5)
theorem W1 {w:World} {Fo:List Ob} {rs:List Rp} {p1:Nat} {v4 v13 v14 v15 v16 v17 v18:Value} {l5:List aI} {s12:ByteArray} (H:Sep w (Blk p1 251 [v13,v4,v14,v15,v16,v17,v18]::Row 77 aJ v4 l5::Fo) rs) {r:Int×(List aI)} (hm:yB l5 s12=some r) :
    Calls Tryz.prog 258 [pt p1 0,.string s12,.func (.func 267) #[] #[]].toArray w (Ret fun v w'=>∃ y2,.int .i64 r.1=v∧Sep w' (Blk p1 251 [v13,y2,v14,v15,v16,v17,v18]::Row 77 aJ y2 r.2::Fo) (rs)):=by
 unfold yB at hm
 refine ent Tryz.func258 rfl Tryz.ntmps258 rfl rfl fun a E=>sq<|pr 1 E rfl fun a E=>nx<|pr 4 E rfl fun a E=>lb E H 0 rfl rfl rfl rfl rfl rfl rfl U23 rfl fun a E=>pr 1 E rfl fun a E=>have H:=H.frs [0,1] rfl;bd hm fun u19 hx20 hm=>?_
 refine xk E rfl rfl rfl rfl rfl Ht (fJ H hx20) fun w H a E=>pr 5 E rfl fun a E=>nt<|aT (fun a w=>∃ v21 l22 rs23,Env 80 a [(0,pt p1 0),(2,.func (.func 267) #[] #[]),(7,.int .i64 u19.1)]∧Sep w (Blk p1 251 [v13,v21,v14,v15,v16,v17,v18]::Row 77 aJ v21 l22::Fo) rs23∧(∀ r,r ∈ rs→r ∈ rs23)∧pY u19 l22=some r) ?_ ?_
 ·refine sq<|pr 2 E rfl fun a E=>nt<|wif E hm rfl (fun hm=>?_) fun hm=>?_
  ·refine wp_region_lit<|pr 5 E rfl fun a E=>lb E H 1 rfl rfl rfl rfl rfl rfl rfl U23 rfl fun a E=>pr 2 E rfl fun a E=>sv E rfl rfl rfl (cI E rfl (E.evs rfl) (v:=.agg #[.string s12,.int .i64 0]) (by kernel_rfl)) fun a E=>fY (e:=77) (d:=aJ) (cs:=[.string s12,.int .i64 0]) (xs:=[(⟨s12,0⟩:aI)]) E H (wn rfl) rfl rfl rfl (E.evs rfl) (by kernel_rfl) rfl rfl (fun ok hr=>(Rows.single (d:=aJ) (cs:=[.string s12,.int .i64 0]) (x:=(⟨s12,0⟩:aI)) qL)) fun v51 w a H E=>bk hm fun hx53 hm=>aU E (wn rfl) rfl rfl (cC E rfl rfl (Hu _)) (Tn.insert_a (ix:=1) (iu:=0) H rfl rfl (by decide) hx53) fun v54 w H a E=>pr 3 E rfl fun a E=>?_
   obtain ⟨q55,x56,rfl⟩:=H.rowform (i:=1) rfl
   exact aZ (i:=2) E H (wn rfl) rfl rfl rfl rfl rfl rfl G4 rfl rfl fun w H=>nt<|have H:=H.drop 0;have H:=H.frs [0,1] rfl;X3 ⟨E.to rfl,H,Y0,hm⟩
  ·exact wp_skip<|aC<|have H:=H.frs [0,1] rfl;X3 ⟨E.to rfl,H,Y0,hm⟩
 ·clear E H hm
  rintro a w ⟨v21,l22,rs23,E,H,hs24,hm⟩
  unfold pY at hm
  refine sq<|pr 4 E rfl fun a E=>lb E H 0 rfl rfl rfl rfl rfl rfl rfl U23 rfl fun a E=>pr 1 E rfl fun a E=>bd hm fun x25 hx26 hm=>?_
  obtain ⟨p27,x28,hx29⟩:=H.rowformNE (i:=1) rfl hx26
  refine sv E rfl rfl rfl (cY (d:=aJ) E hx29 rfl rfl rfl rfl U23 oK hx26) fun a E=>pr 1 E rfl fun a E=>sv E rfl rfl rfl (mX (d:=aJ) (i:=1) (k:=1) E H dI hx29 rfl rfl rfl hx26 rfl U2 rfl) fun a E=>pr 1 E rfl fun a E=>nt<|aT (fun a w=>∃ v30 l31 rs32,Env 80 a [(9,.int .i64 x25.Next)]∧Sep w (Blk p1 251 [v13,v30,v14,v15,v16,v17,v18]::Row 77 aJ v30 l31::Fo) rs32∧(∀ r,r ∈ rs→r ∈ rs32)∧pX x25 l31=some r) ?_ ?_
  ·refine wp_seq<|dw [(0,0),(1,0),(2,0),(3,0),(4,0),(5,0),(6,0),(7,0),(8,1),(9,2),(10,2),(11,2)] [0] [] H (by kernel_rfl) (fun _ _ _ h=>False.elim h.2) fun w W0 hI H=>fn 4 E rfl fun a E=>fb E rfl (wn rfl) rfl rfl rfl rfl m0 rfl U23 rfl fun a E=>fn 3 E rfl fun a E=>bZ rfl<|bd hm fun u34 hx35 hm=>aU E (wn rfl) rfl rfl (bP E rfl rfl rfl (Vu _)) (J8 H hx35)<|?_
   rintro _ w ⟨rfl,H⟩ a E
   refine nt<|?_
   refine ⟨⟨_,_,H,(aB m0 (aL)),(aM)⟩,?_⟩
   refine bQ rfl<|bd hm fun x36 hx37 hm=>?_
   obtain ⟨p38,x39,hx40⟩:=H.rowformNE (i:=1) rfl hx37
   refine sv E rfl rfl rfl (cY (d:=aJ) E hx40 rfl rfl rfl rfl U23 oK hx37) fun a E=>nt<|bQ rfl<|pr 1 E rfl fun a E=>nt<|bQ rfl<|h9 (d:=aJ) (i:=1) (k:=1) (z':=({ x36 with Next:=0 }:aI)) E H dI (wn rfl) rfl hx40 rfl rfl rfl rfl rfl rfl hx37 rfl rfl sz2 fun w H=>nt<|bR<|?_
   clear hI
   refine aC<|sq<|pr 4 E rfl fun a E=>lb E H 0 rfl rfl rfl rfl rfl rfl rfl U23 rfl fun a E=>pr 1 E rfl fun a E=>bd hm fun x41 hx42 hm=>?_
   obtain ⟨p43,x44,hx45⟩:=H.rowformNE (i:=1) rfl hx42
   refine sv E rfl rfl rfl (cY (d:=aJ) E hx45 rfl rfl rfl rfl U23 oK hx42) fun a E=>pr 1 E rfl fun a E=>sv E rfl rfl rfl (mX (d:=aJ) (i:=1) (k:=1) E H dI hx45 rfl rfl rfl hx42 rfl U2 rfl) fun a E=>pr 1 E rfl fun a E=>nt<|wif E hm rfl (fun hm=>?_) fun hm=>?_
   ·refine wp_region_lit<|pr 5 E rfl fun a E=>lb E H 0 rfl rfl rfl rfl rfl rfl rfl U23 rfl fun a E=>pr 3 E rfl fun a E=>bk hm fun hx47 hm=>aU E (wn rfl) rfl rfl (cC E rfl rfl (Hv _)) (Tn.delete_c (ix:=1) H rfl hx47) fun v48 w H a E=>pr 3 E rfl fun a E=>?_
    obtain ⟨q49,x50,rfl⟩:=H.rowform (i:=1) rfl
    exact aZ (i:=0) E H (wn rfl) rfl rfl rfl rfl rfl rfl G4 rfl rfl fun w H=>nt<|X3 ⟨E.to rfl,H,hs24,hm⟩
   ·exact wp_skip<|aC<|X3 ⟨E.to rfl,H,hs24,hm⟩
  ·clear E H hm
   rintro a w ⟨v30,l31,rs32,E,H,hs33,hm⟩
   unfold pX at hm
   refine sq<|pr 2 E rfl fun a E=>nt<|wp_ret<|aY E rfl rfl<|?_
   cases hm
   exact ⟨_,rfl,H.reads hs33⟩

def eS (l2:List aE) (s6:ByteArray):Nat→Int→Option Int
  | 0,_=>none
  | k1+1,x17=>
    if (decide (x17 < (l2.length:Int)))=true then ((idx l2 x17).bind fun x20=>(xF x20 s6).bind fun u25=>if u25=true then (some (x17)) else (eS l2 s6 k1 (IntKind.i64.wrap (x17+1)))) else (some ((-1)))
def iI (l2:List aE) (s6:ByteArray):Option Int:=
  eS l2 s6 (((l2.length:Int) - 0:Int).toNat+1) 0
theorem tU {w:World} {Fo:List Ob} {rs:List Rp} {v1 v11 v12 v13 v14 v15 v16:Value} {l2:List aE} {p3:Nat} {s6:ByteArray} (H:Sep w (Row 95 aF v1 l2::Blk p3 85 [v11,v12,.string s6,v13,v14,v15,v16]::Fo) rs) {r:Int} (hm:iI l2 s6=some r) :
    Calls Tryz.prog 105 [v1,.func (.func 317) #[] #[pt p3 0]].toArray w (Ret fun v w'=>.int .i64 r=v∧Sep w' (Blk p3 85 [v11,v12,.string s6,v13,v14,v15,v16]::Row 95 aF v1 l2::Fo) (rs)):=by
 unfold iI at hm
 refine ent Tryz.func105 rfl Tryz.ntmps105 rfl rfl fun a E=>sq<|pr 1 E rfl fun a E=>nt<|wp_seq<|sq<|pr 1 E rfl fun a E=>sv E rfl rfl rfl (iZ (i:=0) E H rfl rfl rfl U22) fun a E=>pr 1 E rfl fun a E=>?_
 refine nt<|wp_block<|bX (fun k1 a w=>∃ x17 rs18,Env 19 a [(0,v1),(1,.func (.func 317) #[] #[pt p3 0]),(7,.int .i64 (l2.length:Int)),(8,.int .i64 x17)]∧Sep w (Row 95 aF v1 l2::Blk p3 85 [v11,v12,.string s6,v13,v14,v15,v16]::Fo) rs18∧(∀ r,r ∈ rs→r ∈ rs18)∧eS l2 s6 k1 x17=some r) (((l2.length:Int) - 0:Int).toNat+1) ?_ ?_
 ·exact ⟨_,_,E.to rfl,H,Y0,hm⟩
 ·clear E H hm
  rintro k1 a w ⟨x17,rs18,E,H,hs19,hm⟩
  cases k1 with
  | zero=>exact (bT hm rfl).elim
  | succ k1=>
   unfold eS at hm
   refine sq<|pr 1 E rfl fun a E=>nt<|wp_seq<|wif E hm rfl (fun hm=>?_) fun hm=>?_
   ·refine wp_skip<|aC<|wp_seq<|wp_block<|sq<|pr 2 E rfl fun a E=>nx<|pr 3 E rfl fun a E=>bd hm fun x20 hx21 hm=>?_
    obtain ⟨p22,x23,hx24⟩:=H.rowformNE (i:=0) rfl hx21
    refine sv E rfl rfl rfl (cY (d:=aF) E hx24 rfl rfl rfl rfl U22 iR hx21) fun a E=>sv E rfl rfl rfl (fZ (i:=0) E H cK hx24 rfl rfl rfl hx21 (us:=[.string x20.Path,.string x20.Data,.int .i64 x20.Version,.int .i64 x20.Turn,.int .i64 x20.Owner]) rfl U95 rfl iR) fun a E=>have H:=H.frs [0,1] rfl;bd hm fun u25 hx26 hm=>aU E (wn rfl) rfl rfl (bP E rfl rfl rfl (Hp _)) (C5 H hx26)<|?_
    rintro _ w ⟨rfl,H⟩ a E
    refine nt<|wif E hm rfl (fun hm=>?_) fun hm=>?_
    ·refine sq<|pr 2 E rfl fun a E=>nt<|wp_ret<|bV<|aP<|aP<|bV<|aP<|?_
     refine aY E rfl rfl<|?_
     cases hm
     exact ⟨rfl,H.reads hs19⟩
    ·exact wp_skip<|bY<|aC<|wp_region_lit<|pr 2 E rfl fun a E=>nt<|have H:=H.frs [0,1] rfl;⟨k1,Nat.lt_succ_self k1,_,_,E.to rfl,H,hs19,hm⟩
   ·refine wp_exit<|bH<|bH<|dG<|aC<|sq<|pr 1 E rfl fun a E=>nt<|wp_ret<|?_
    refine aY E rfl rfl<|have H:=H.frs [0,1] rfl;?_
    cases hm
    exact ⟨rfl,H.reads hs19⟩

def gS (l2:List aE) (s6:ByteArray):Option Bool:=
  (iI l2 s6).bind fun u17=>some (decide (u17 ≥ 0))
theorem sB {w:World} {Fo:List Ob} {rs:List Rp} {v1 v11 v12 v13 v14 v15 v16:Value} {l2:List aE} {p3:Nat} {s6:ByteArray} (H:Sep w (Row 95 aF v1 l2::Blk p3 85 [v11,v12,.string s6,v13,v14,v15,v16]::Fo) rs) {r:Bool} (hm:gS l2 s6=some r) :
    Calls Tryz.prog 46 [v1,.func (.func 317) #[] #[pt p3 0]].toArray w (Ret fun v w'=>.bool r=v∧Sep w' (Blk p3 85 [v11,v12,.string s6,v13,v14,v15,v16]::Row 95 aF v1 l2::Fo) (rs)):=by
 unfold gS at hm
 refine ent Tryz.func46 rfl Tryz.ntmps46 rfl rfl fun a E=>sq<|pr 1 E rfl fun a E=>nx<|pr 2 E rfl fun a E=>bd hm fun u17 hx18 hm=>xk E rfl rfl rfl rfl rfl Gv (tU H hx18) fun w H a E=>pr 2 E rfl fun a E=>nt<|?_
 refine wp_ret<|aY E rfl rfl<|?_
 cases hm
 exact ⟨rfl,H.reads Y0⟩

def wR (l3:List aE) (l5:List aI) (x6:Int) (s7:ByteArray) (s8:ByteArray) (x9:Int) (l11:List ByteArray) (x12:bJ):Option ((List aI)×Int×ByteArray×ByteArray×Int×(List ByteArray)):=
  (j0 x12).bind fun u14=>(gS l3 u14.2.2.1).bind fun u17=>if u17=true then ((hG 64).bind fun u19=>some (l5,u19,(ByteArray.mk #[]),(ByteArray.mk #[]),0,[])) else ((yB l5 x12.Path).bind fun u21=>some (u21.2,x6,s7,s8,x9,l11))
theorem Q3 {w:World} {Fo:List Ob} {rs:List Rp} {p1:Nat} {v2 v4 v10:Value} {l3:List aE} {l5:List aI} {x6 x9:Int} {s7 s8:ByteArray} {l11:List ByteArray} {x12:bJ} (H:Sep w (Blk p1 251 [v2,v4,.int .i64 x6,.string s7,.string s8,.int .i64 x9,v10]::Row 95 aF v2 l3::Row 77 aJ v4 l5::Row 9 kS v10 l11::Fo) rs) {r:(List aI)×Int×ByteArray×ByteArray×Int×(List ByteArray)} (hm:wR l3 l5 x6 s7 s8 x9 l11 x12=some r) :
    Calls Tryz.prog 196 [pt p1 0,.agg (cH x12).toArray].toArray w (Ret fun v w'=>∃ y1 y7,.tuple #[]=v∧Sep w' (Blk p1 251 [v2,y1,.int .i64 r.2.1,.string r.2.2.1,.string r.2.2.2.1,.int .i64 r.2.2.2.2.1,y7]::Row 95 aF v2 l3::Row 77 aJ y1 r.1::Row 9 kS y7 r.2.2.2.2.2::Fo) (rs)):=by
 unfold wR at hm
 refine ent Tryz.func196 rfl Tryz.ntmps196 rfl rfl fun a E=>sq<|bS E H (wn rfl) rfl rfl rfl rfl rfl fun p13 w a H E=>nt<|wp_seq<|wp_seq<|dw [(0,0),(1,0),(2,0),(3,0),(4,0),(5,0),(6,1),(7,1)] [0,1] [] H (by kernel_rfl) (fun _ _ _ h=>False.elim h.2) fun w W0 hI H=>fn 4 E rfl fun a E=>fb E rfl (wn rfl) rfl rfl rfl rfl mm1 rfl U22 rfl fun a E=>?_
 refine fbn E (cH x12) rfl (wn rfl) rfl rfl rfl rfl m0 rfl U85 rfl hP fun a E=>bZ rfl<|bd hm fun u14 hx15 hm=>cG E rfl rfl rfl rfl rfl Hm (M7 H hx15)<|?_
 rintro _ w ⟨p16,rfl,H⟩ a E
 refine nt<|?_
 refine ⟨⟨_,_,H,(aB mm1 (aB mm2 (aL))),(aM)⟩,?_⟩
 refine bZ rfl<|have H:=H.frs [5,5,4,4,4,5] rfl;bd hm fun u17 hx18 hm=>xk E rfl rfl rfl rfl rfl Pc (sB H hx18) fun w H a E=>nt<|?_
 refine ⟨⟨_,_,H,(aB mm2 (aB mm3 (aL))),(aM)⟩,?_⟩
 refine bR<|?_
 clear hI
 refine aC<|wif E hm rfl (fun hm=>?_) fun hm=>?_
 ·refine sq<|pr 1 E rfl fun a E=>have H:=H.frs [5,5,4,4,4,5] rfl;bd hm fun u19 hx20 hm=>xk E rfl rfl rfl rfl rfl G3 (lC H hx20) fun w H a E=>nt<|wp_ret<|aP<|W5 E rfl<|?_
  refine have H:=H.nilRow 9 kS;have H:=H.drs [2,3,4];have H:=H.frs [0,3,3,3] rfl;?_
  cases hm
  exact ⟨_,_,rfl,H.reads Y0⟩
 ·refine wp_skip<|aC<|wp_region_lit<|pr 2 E rfl fun a E=>lb E H 2 rfl rfl rfl rfl rfl rfl rfl U9 rfl fun a E=>have H:=H.frs [5,3,3,3,5,5] rfl;bd hm fun u21 hx22 hm=>cG E rfl rfl rfl rfl rfl Hs (W1 H hx22)<|?_
  rintro _ w ⟨v23,rfl,H⟩ a E
  refine wpList_nil<|oJ E rfl<|have H:=H.drs [2,3];have H:=H.frs [3,2,3,3] rfl;?_
  cases hm
  exact ⟨_,_,rfl,H.reads Y0⟩

def oW (u15:Int×Int×ByteArray×ByteArray×Int×(List ByteArray)) (b18:Bool):Option (Int×ByteArray×ByteArray×Int×(List ByteArray)):=
  if b18=true then ((hG 65).bind fun u21=>some (u21,(ByteArray.mk #[]),(ByteArray.mk #[]),0,[])) else (some (u15.2.1,u15.2.2.1,u15.2.2.2.1,u15.2.2.2.2.1,u15.2.2.2.2.2))
def wS (l3:List aE) (x6:Int) (s7:ByteArray) (s8:ByteArray) (x9:Int) (l11:List ByteArray) (x12:bJ):Option (Int×ByteArray×ByteArray×Int×(List ByteArray)):=
  (jH l3 x6 s7 s8 x9 l11 x12).bind fun u15=>if (decide (0 ≤ u15.1))=true then ((idx l3 u15.1).bind fun x24=>oW u15 (x24.Owner != 0)) else (oW u15 false)
theorem Q4 {w:World} {Fo:List Ob} {rs:List Rp} {p1:Nat} {v2 v10 v13:Value} {l3:List aE} {x6 x9:Int} {s7 s8:ByteArray} {l11:List ByteArray} {x12:bJ} (H:Sep w (Blk p1 251 [v2,v13,.int .i64 x6,.string s7,.string s8,.int .i64 x9,v10]::Row 95 aF v2 l3::Row 9 kS v10 l11::Fo) rs) {r:Int×ByteArray×ByteArray×Int×(List ByteArray)} (hm:wS l3 x6 s7 s8 x9 l11 x12=some r) :
    Calls Tryz.prog 193 [pt p1 0,.agg (cH x12).toArray].toArray w (Ret fun v w'=>∃ y5,.tuple #[]=v∧Sep w' (Blk p1 251 [v2,v13,.int .i64 r.1,.string r.2.1,.string r.2.2.1,.int .i64 r.2.2.2.1,y5]::Row 95 aF v2 l3::Row 9 kS y5 r.2.2.2.2::Fo) (rs)):=by
 unfold wS at hm
 refine ent Tryz.func193 rfl Tryz.ntmps193 rfl rfl fun a E=>sq<|bS E H (wn rfl) rfl rfl rfl rfl rfl fun p14 w a H E=>nx<|pr 1 E rfl fun a E=>sv E rfl rfl rfl (cA (i:=0) (us:=(cH x12)) E H rfl rfl rfl rfl U85 rfl hP) fun a E=>have H:=H.frs [0,3,3,3] rfl;bd hm fun u15 hx16 hm=>cG E rfl rfl rfl rfl rfl P1 (nB H hx16)<|?_
 rintro _ w ⟨v17,rfl,H⟩ a E
 refine pr 1 E rfl fun a E=>nt<|aT (fun a w=>∃ b18 rs19,Env 19 a [(0,pt p1 0),(16,.bool b18)]∧Sep w (Blk p1 251 [v2,v13,.int .i64 u15.2.1,.string u15.2.2.1,.string u15.2.2.2.1,.int .i64 u15.2.2.2.2.1,v17]::Row 95 aF v2 l3::Row 9 kS v17 u15.2.2.2.2.2::Fo) rs19∧(∀ r,r ∈ rs→r ∈ rs19)∧oW u15 b18=some r) ?_ ?_
 ·refine wp_region_lit<|pr 1 E rfl fun a E=>sv E rfl rfl rfl (Y9 E Ai Aj rfl rfl rfl) fun a E=>pr 1 E rfl fun a E=>cs hm (fun hb23 hm=>?_) fun hb23 hm=>?_
  ·refine pk 1 E (kc 10 rfl hb23) rfl fun a E=>bd hm fun x24 hx25 hm=>?_
   obtain ⟨p26,x27,hx28⟩:=H.rowformNE (i:=1) rfl hx25
   rw [L1 5 hx28 hx25] at E
   exact pk 2 E (kc 10 rfl hb23) rfl fun a E=>aQ E (ws' (d:=10) E rfl rfl rfl rfl hb23) rfl rfl (mX (d:=aF) (i:=1) (k:=4) E H cK hx28 rfl rfl rfl hx25 rfl U2 rfl) fun a E=>pk 2 E (kc 10 rfl hb23) rfl fun a E=>nt<|have H:=H.drop 3;⟨_,_,E.to rfl,H,Y0,hm⟩
  ·exact pk 6 E (kc 10 rfl hb23) rfl fun a E=>nt<|have H:=H.drop 3;⟨_,_,E.to rfl,H,Y0,hm⟩
 ·clear E H hm
  rintro a w ⟨b18,rs19,E,H,hs20,hm⟩
  unfold oW at hm
  refine wif E hm rfl (fun hm=>?_) fun hm=>?_
  ·refine wp_region_lit<|pr 1 E rfl fun a E=>bd hm fun u21 hx22 hm=>xk E rfl rfl rfl rfl rfl G3 (lC H hx22) fun w H a E=>wpList_nil<|oJ E rfl<|have H:=H.nilRow 9 kS;have H:=H.drop 3;have H:=H.frs [0,2,2] rfl;?_
   cases hm
   exact ⟨_,rfl,H.reads hs20⟩
  ·refine wp_skip<|oJ E rfl<|?_
   cases hm
   exact ⟨_,rfl,H.reads hs20⟩

def zA (l3:List aE) (x6:Int) (s7:ByteArray) (s8:ByteArray) (x9:Int) (l11:List ByteArray) (x12:bJ):Option (Int×ByteArray×ByteArray×Int×(List ByteArray)):=
  (jH l3 x6 s7 s8 x9 l11 x12).bind fun u15=>some (u15.2.1,u15.2.2.1,u15.2.2.2.1,u15.2.2.2.2.1,u15.2.2.2.2.2)
theorem Aq {w:World} {Fo:List Ob} {rs:List Rp} {p1:Nat} {v2 v10 v13:Value} {l3:List aE} {x6 x9:Int} {s7 s8:ByteArray} {l11:List ByteArray} {x12:bJ} (H:Sep w (Blk p1 251 [v2,v13,.int .i64 x6,.string s7,.string s8,.int .i64 x9,v10]::Row 95 aF v2 l3::Row 9 kS v10 l11::Fo) rs) {r:Int×ByteArray×ByteArray×Int×(List ByteArray)} (hm:zA l3 x6 s7 s8 x9 l11 x12=some r) :
    Calls Tryz.prog 200 [pt p1 0,.agg (cH x12).toArray].toArray w (Ret fun v w'=>∃ y5,.tuple #[]=v∧Sep w' (Blk p1 251 [v2,v13,.int .i64 r.1,.string r.2.1,.string r.2.2.1,.int .i64 r.2.2.2.1,y5]::Row 95 aF v2 l3::Row 9 kS y5 r.2.2.2.2::Fo) (rs)):=by
 unfold zA at hm
 refine ent Tryz.func200 rfl Tryz.ntmps200 rfl rfl fun a E=>sq<|bS E H (wn rfl) rfl rfl rfl rfl rfl fun p14 w a H E=>nt<|wp_region_lit<|pr 1 E rfl fun a E=>sv E rfl rfl rfl (cA (i:=0) (us:=(cH x12)) E H rfl rfl rfl rfl U85 rfl hP) fun a E=>have H:=H.frs [0,3,3,3] rfl;bd hm fun u15 hx16 hm=>?_
 refine cG E rfl rfl rfl rfl rfl P1 (nB H hx16)<|?_
 rintro _ w ⟨v17,rfl,H⟩ a E
 refine wpList_nil<|oJ E rfl<|have H:=H.drop 3;?_
 cases hm
 exact ⟨_,rfl,H.reads Y0⟩

def yC (l3:List aE) (x6:Int) (s7:ByteArray) (s8:ByteArray) (x9:Int) (l11:List ByteArray) (x12:bJ):Option (Int×ByteArray×ByteArray×Int×(List ByteArray)):=
  (jH l3 x6 s7 s8 x9 l11 x12).bind fun u15=>if (decide (0 ≤ u15.1))=true then ((idx l3 u15.1).bind fun x18=>some (u15.2.1,u15.2.2.1,u15.2.2.2.1,x18.Version,u15.2.2.2.2.2)) else (some (u15.2.1,u15.2.2.1,u15.2.2.2.1,u15.2.2.2.2.1,u15.2.2.2.2.2))
theorem W2 {w:World} {Fo:List Ob} {rs:List Rp} {p1:Nat} {v2 v10 v13:Value} {l3:List aE} {x6 x9:Int} {s7 s8:ByteArray} {l11:List ByteArray} {x12:bJ} (H:Sep w (Blk p1 251 [v2,v13,.int .i64 x6,.string s7,.string s8,.int .i64 x9,v10]::Row 95 aF v2 l3::Row 9 kS v10 l11::Fo) rs) {r:Int×ByteArray×ByteArray×Int×(List ByteArray)} (hm:yC l3 x6 s7 s8 x9 l11 x12=some r) :
    Calls Tryz.prog 198 [pt p1 0,.agg (cH x12).toArray].toArray w (Ret fun v w'=>∃ y5,.tuple #[]=v∧Sep w' (Blk p1 251 [v2,v13,.int .i64 r.1,.string r.2.1,.string r.2.2.1,.int .i64 r.2.2.2.1,y5]::Row 95 aF v2 l3::Row 9 kS y5 r.2.2.2.2::Fo) (rs)):=by
 unfold yC at hm
 refine ent Tryz.func198 rfl Tryz.ntmps198 rfl rfl fun a E=>sq<|bS E H (wn rfl) rfl rfl rfl rfl rfl fun p14 w a H E=>nx<|pr 1 E rfl fun a E=>sv E rfl rfl rfl (cA (i:=0) (us:=(cH x12)) E H rfl rfl rfl rfl U85 rfl hP) fun a E=>have H:=H.frs [0,3,3,3] rfl;bd hm fun u15 hx16 hm=>cG E rfl rfl rfl rfl rfl P1 (nB H hx16)<|?_
 rintro _ w ⟨v17,rfl,H⟩ a E
 refine pr 1 E rfl fun a E=>nx<|pr 1 E rfl fun a E=>sv E rfl rfl rfl (Y9 E Ai Aj rfl rfl rfl) fun a E=>nt<|wif E hm rfl (fun hm=>?_) fun hm=>?_
 ·refine wp_region_lit<|pr 2 E rfl fun a E=>bd hm fun x18 hx19 hm=>?_
  obtain ⟨p20,x21,hx22⟩:=H.rowformNE (i:=1) rfl hx19
  rw [L1 5 hx22 hx19] at E
  refine pr 2 E rfl fun a E=>sv E rfl rfl rfl (mX (d:=aF) (i:=1) (k:=2) E H cK hx22 rfl rfl rfl hx19 rfl U2 rfl) fun a E=>pr 3 E rfl fun a E=>aZ (i:=0) E H (wn rfl) rfl rfl rfl rfl rfl rfl sz2 rfl rfl fun w H=>wpList_nil<|oJ E rfl<|have H:=H.drop 3;?_
  cases hm
  exact ⟨_,rfl,H.reads Y0⟩
 ·refine wp_skip<|oJ E rfl<|have H:=H.drop 3;?_
  cases hm
  exact ⟨_,rfl,H.reads Y0⟩

def oX (rec_1:Int→(List ByteArray)→Option (List ByteArray)) (x22:Int) (l28:(List ByteArray)):Option (List ByteArray):=
  rec_1 (IntKind.i64.wrap (x22+1)) l28
def jP (l3:List aE) (u19:Int×ByteArray×ByteArray×ByteArray×Int×Int×Bool):Nat→Int→(List ByteArray)→Option (List ByteArray)
  | 0,_,_=>none
  | k1+1,x22,l24=>
    if (decide (x22 < (l3.length:Int)))=true then ((idx l3 x22).bind fun x31=>(xF x31 u19.2.2.1).bind fun u37=>if u37=true then ((xG x31.Path).bind fun u39=>(ck (l24.length+([u39]:List ByteArray).length ≤ LIM)).bind fun u43=>oX (jP l3 u19 k1) x22 (l24 ++ ([u39]:List ByteArray))) else (oX (jP l3 u19 k1) x22 l24)) else (some (l24))
def wT (l3:List aE) (l11:List ByteArray) (x12:bJ):Option (List ByteArray):=
  (j0 x12).bind fun u19=>jP l3 u19 (((l3.length:Int) - 0:Int).toNat+1) 0 l11
theorem Q5 {w:World} {Fo:List Ob} {rs:List Rp} {p1:Nat} {v2 v10 v13 v14 v15 v16 v17:Value} {l3:List aE} {l11:List ByteArray} {x12:bJ} (H:Sep w (Blk p1 251 [v2,v13,v14,v15,v16,v17,v10]::Row 95 aF v2 l3::Row 9 kS v10 l11::Fo) rs) {r:(List ByteArray)} (hm:wT l3 l11 x12=some r) :
    Calls Tryz.prog 201 [pt p1 0,.agg (cH x12).toArray].toArray w (Ret fun v w'=>∃ y1,.tuple #[]=v∧Sep w' (Blk p1 251 [v2,v13,v14,v15,v16,v17,y1]::Row 95 aF v2 l3::Row 9 kS y1 r::Fo) (rs)):=by
 unfold wT at hm
 refine ent Tryz.func201 rfl Tryz.ntmps201 rfl rfl fun a E=>sq<|bS E H (wn rfl) rfl rfl rfl rfl rfl fun p18 w a H E=>nx<|sv E rfl rfl rfl (cA (i:=0) (us:=(cH x12)) E H rfl rfl rfl rfl U85 rfl hP) fun a E=>bd hm fun u19 hx20 hm=>cG E rfl rfl rfl rfl rfl Hm (M7 H hx20)<|?_
 rintro _ w ⟨p21,rfl,H⟩ a E
 refine pr 1 E rfl fun a E=>nx<|pr 4 E rfl fun a E=>lb E H 2 rfl rfl rfl rfl rfl rfl rfl U22 rfl fun a E=>sv E rfl rfl rfl (iZ (i:=3) E H rfl rfl rfl U22) fun a E=>pr 1 E rfl fun a E=>nt<|wp_block<|bX (fun k1 a w=>∃ v23 x22 l24 rs25,Env 37 a [(0,pt p1 0),(4,.func (.func 317) #[] #[pt p21 0]),(13,v2),(14,.int .i64 (l3.length:Int)),(15,.int .i64 x22)]∧Sep w (Blk p1 251 [v2,v13,v14,v15,v16,v17,v23]::Blk p21 85 [.int .i64 u19.1,.string u19.2.1,.string u19.2.2.1,.string u19.2.2.2.1,.int .i64 u19.2.2.2.2.1,.int .i64 u19.2.2.2.2.2.1,.bool u19.2.2.2.2.2.2]::Row 95 aF v2 l3::Row 9 kS v23 l24::Fo) rs25∧(∀ r,r ∈ rs→r ∈ rs25)∧jP l3 u19 k1 x22 l24=some r) (((l3.length:Int) - 0:Int).toNat+1) ?_ ?_
 ·exact have H:=H.drop 1;have H:=H.frs [3,3,2,3] rfl;X4 ⟨E.to rfl,H,Y0,hm⟩
 ·clear E H hm
  rintro k1 a w ⟨v23,x22,l24,rs25,E,H,hs26,hm⟩
  cases k1 with
  | zero=>exact (bT hm rfl).elim
  | succ k1=>
   unfold jP at hm
   refine sq<|pr 1 E rfl fun a E=>nt<|wp_seq<|wif E hm rfl (fun hm=>?_) fun hm=>?_
   ·refine wp_skip<|aC<|aT (fun a w=>∃ v27 l28 rs29,Env 37 a [(0,pt p1 0),(4,.func (.func 317) #[] #[pt p21 0]),(13,v2),(14,.int .i64 (l3.length:Int)),(15,.int .i64 x22)]∧Sep w (Blk p1 251 [v2,v13,v14,v15,v16,v17,v27]::Blk p21 85 [.int .i64 u19.1,.string u19.2.1,.string u19.2.2.1,.string u19.2.2.2.1,.int .i64 u19.2.2.2.2.1,.int .i64 u19.2.2.2.2.2.1,.bool u19.2.2.2.2.2.2]::Row 95 aF v2 l3::Row 9 kS v27 l28::Fo) rs29∧(∀ r,r ∈ rs→r ∈ rs29)∧oX (jP l3 u19 k1) x22 l28=some r) ?_ ?_
    ·refine wp_block<|sq<|bd hm fun x31 hx32 hm=>?_
     obtain ⟨p33,x34,hx35⟩:=H.rowformNE (i:=2) rfl hx32
     refine sv E rfl rfl rfl (cY (d:=aF) E hx35 rfl rfl rfl rfl U22 iR hx32) fun a E=>sv E rfl rfl rfl (fZ (i:=2) E H cK hx35 rfl rfl rfl hx32 (us:=[.string x31.Path,.string x31.Data,.int .i64 x31.Version,.int .i64 x31.Turn,.int .i64 x31.Owner]) rfl U95 rfl iR) fun a E=>al E H rfl rfl rfl rfl Ks fun p36 w a H E=>aZ (i:=0) E H (wn rfl) rfl rfl rfl rfl rfl rfl iR rfl rfl fun w H=>nx<|pr 1 E rfl fun a E=>sv E rfl rfl rfl (cA (i:=0) (us:=(iQ x31)) E H rfl rfl rfl rfl U95 rfl iR) fun a E=>have H:=H.frs [4,4,3,3,4] rfl;bd hm fun u37 hx38 hm=>?_
     refine aU E (wn rfl) rfl rfl (bP E rfl rfl rfl (Hp _)) (C5 H hx38)<|?_
     rintro _ w ⟨rfl,H⟩ a E
     refine nt<|wif E hm rfl (fun hm=>?_) fun hm=>?_
     ·refine dw [(0,0),(1,0),(2,0),(3,0),(4,0),(5,0),(6,0),(7,0),(8,1),(9,1),(10,1),(11,2),(12,2),(13,2),(14,2)] [1,2] [] H (by kernel_rfl) (fun _ _ _ h=>False.elim h.2) fun w W0 hI H=>fn 5 E rfl fun a E=>fb E rfl (wn rfl) rfl rfl rfl rfl mm1 rfl U33 rfl fun a E=>fn 1 E rfl fun a E=>fb E rfl (wn rfl) rfl rfl rfl rfl m0 rfl U9 rfl fun a E=>bZ rfl<|bd hm fun u39 hx40 hm=>xk E rfl rfl rfl rfl rfl Hq (C6 H hx40) fun w H a E=>nt<|?_
      refine ⟨⟨_,_,H,(aB mm1 (aB mm2 (aL))),(aM)⟩,?_⟩
      refine bZ rfl<|pI (e:=9) (d:=kS) (cs:=[.string u39]) (xs:=[u39]) E H (wn rfl) rfl rfl rfl (E.evs rfl) (by kernel_rfl) rfl (fun ok hr=>(Rows.single (d:=kS) (cs:=[.string u39]) (x:=u39) rfl)) fun v41 w a H E=>nt<|?_
      refine ⟨⟨_,_,H,(aB mm1 (aB mm2 (aL))),(aM)⟩,?_⟩
      refine bZ rfl<|bk hm fun hx44 hm=>dV (i:=4) E H (wn rfl) rfl rfl rfl rfl rfl rfl (jA m0) U33 Gy rfl hx44 rfl fun v42 w a H E=>nt<|?_
      refine ⟨⟨_,_,H,(aB mm1 (aB mm2 (aL))),(aM)⟩,?_⟩
      refine bQ rfl<|pr 1 E rfl fun a E=>nt<|bQ rfl<|pr 1 E rfl fun a E=>nt<|bQ rfl<|pr 1 E rfl fun a E=>nt<|?_
      refine bQ rfl<|?_
      obtain ⟨q45,x46,rfl⟩:=H.rowform (i:=4) rfl
      refine aZ (i:=2) E H (wn rfl) rfl rfl rfl rfl rfl rfl Rh rfl rfl fun w H=>nt<|bR<|?_
      clear hI
      exact bY<|aC<|have H:=H.drop 1;have H:=H.frs [3,3,2,3] rfl;X3 ⟨E.to rfl,H,(Y1 hs26),hm⟩
     ·exact wp_skip<|bY<|aC<|have H:=H.drop 1;have H:=H.frs [3,3,2,3] rfl;X3 ⟨E.to rfl,H,hs26,hm⟩
    ·clear E H hm
     rintro a w ⟨v27,l28,rs29,E,H,hs30,hm⟩
     unfold oX at hm
     exact wp_region_lit<|pr 2 E rfl fun a E=>nt<|⟨k1,Nat.lt_succ_self k1,X4 ⟨E.to rfl,H,hs30,hm⟩⟩
   ·refine wp_exit<|bH<|bH<|dG<|oJ E rfl<|have H:=H.drop 1;?_
    cases hm
    exact ⟨_,rfl,H.reads hs26⟩

def wU (x1:Int):Option Int:=
  some (x1)
theorem Q6 {w:World} {Fo:List Ob} {rs:List Rp} {x1:Int} (H:Sep w (Fo) rs) {r:Int} (hm:wU x1=some r) :
    Calls Tryz.prog 259 [.int .i64 x1].toArray w (Ret fun v w'=>.int .i64 r=v∧Sep w' (Fo) (rs)):=by
 unfold wU at hm
 refine ent Tryz.func259 rfl Tryz.ntmps259 rfl rfl fun a E=>sq<|pr 1 E rfl fun a E=>nx<|pr 2 E rfl fun a E=>nt<|wp_ret<|aY E rfl rfl<|?_
 cases hm
 exact ⟨rfl,H.reads Y0⟩

def nY (x25:aI) (l31:(List aI)):Option (Int×(List aI)):=
  some (x25.Next,l31)
def nZ (u19:Int×Bool) (l22:(List aI)):Option (Int×(List aI)):=
  (idx l22 u19.1).bind fun x25=>(wU x25.Next).bind fun u34=>(idx l22 u19.1).bind fun x36=>(idx (l22.set u19.1.toNat ({ x36 with Next:=u34 }:aI)) u19.1).bind fun x41=>if (x41.Next == 0)=true then ((ck (0 ≤ u19.1∧u19.1 < (l22.set u19.1.toNat ({ x36 with Next:=u34 }:aI)).length∧IntKind.i64.wrap (u19.1+1)=u19.1+1)).bind fun u46=>nY x25 ((l22.set u19.1.toNat ({ x36 with Next:=u34 }:aI)).eraseIdx u19.1.toNat)) else (nY x25 (l22.set u19.1.toNat ({ x36 with Next:=u34 }:aI)))
def vA (l5:List aI) (s12:ByteArray):Option (Int×(List aI)):=
  (dJ l5 s12).bind fun u19=>if (!u19.2)=true then ((ck (0 ≤ u19.1∧u19.1 ≤ l5.length∧l5.length ≤ 1000000)).bind fun u52=>nZ u19 (l5.take u19.1.toNat ++ (⟨s12,0⟩:aI)::l5.drop u19.1.toNat)) else (nZ u19 l5)
theorem M8 {w:World} {Fo:List Ob} {rs:List Rp} {p1:Nat} {v4 v13 v14 v15 v16 v17 v18:Value} {l5:List aI} {s12:ByteArray} (H:Sep w (Blk p1 251 [v13,v4,v14,v15,v16,v17,v18]::Row 77 aJ v4 l5::Fo) rs) {r:Int×(List aI)} (hm:vA l5 s12=some r) :
    Calls Tryz.prog 258 [pt p1 0,.string s12,.func (.func 259) #[] #[]].toArray w (Ret fun v w'=>∃ y2,.int .i64 r.1=v∧Sep w' (Blk p1 251 [v13,y2,v14,v15,v16,v17,v18]::Row 77 aJ y2 r.2::Fo) (rs)):=by
 unfold vA at hm
 refine ent Tryz.func258 rfl Tryz.ntmps258 rfl rfl fun a E=>sq<|pr 1 E rfl fun a E=>nx<|pr 4 E rfl fun a E=>lb E H 0 rfl rfl rfl rfl rfl rfl rfl U23 rfl fun a E=>pr 1 E rfl fun a E=>have H:=H.frs [0,1] rfl;bd hm fun u19 hx20 hm=>?_
 refine xk E rfl rfl rfl rfl rfl Ht (fJ H hx20) fun w H a E=>pr 5 E rfl fun a E=>nt<|aT (fun a w=>∃ v21 l22 rs23,Env 80 a [(0,pt p1 0),(2,.func (.func 259) #[] #[]),(7,.int .i64 u19.1)]∧Sep w (Blk p1 251 [v13,v21,v14,v15,v16,v17,v18]::Row 77 aJ v21 l22::Fo) rs23∧(∀ r,r ∈ rs→r ∈ rs23)∧nZ u19 l22=some r) ?_ ?_
 ·refine sq<|pr 2 E rfl fun a E=>nt<|wif E hm rfl (fun hm=>?_) fun hm=>?_
  ·refine wp_region_lit<|pr 5 E rfl fun a E=>lb E H 1 rfl rfl rfl rfl rfl rfl rfl U23 rfl fun a E=>pr 2 E rfl fun a E=>sv E rfl rfl rfl (cI E rfl (E.evs rfl) (v:=.agg #[.string s12,.int .i64 0]) (by kernel_rfl)) fun a E=>fY (e:=77) (d:=aJ) (cs:=[.string s12,.int .i64 0]) (xs:=[(⟨s12,0⟩:aI)]) E H (wn rfl) rfl rfl rfl (E.evs rfl) (by kernel_rfl) rfl rfl (fun ok hr=>(Rows.single (d:=aJ) (cs:=[.string s12,.int .i64 0]) (x:=(⟨s12,0⟩:aI)) qL)) fun v51 w a H E=>bk hm fun hx53 hm=>aU E (wn rfl) rfl rfl (cC E rfl rfl (Hu _)) (Tn.insert_a (ix:=1) (iu:=0) H rfl rfl (by decide) hx53) fun v54 w H a E=>pr 3 E rfl fun a E=>?_
   obtain ⟨q55,x56,rfl⟩:=H.rowform (i:=1) rfl
   exact aZ (i:=2) E H (wn rfl) rfl rfl rfl rfl rfl rfl G4 rfl rfl fun w H=>nt<|have H:=H.drop 0;have H:=H.frs [0,1] rfl;X3 ⟨E.to rfl,H,Y0,hm⟩
  ·exact wp_skip<|aC<|have H:=H.frs [0,1] rfl;X3 ⟨E.to rfl,H,Y0,hm⟩
 ·clear E H hm
  rintro a w ⟨v21,l22,rs23,E,H,hs24,hm⟩
  unfold nZ at hm
  refine sq<|pr 4 E rfl fun a E=>lb E H 0 rfl rfl rfl rfl rfl rfl rfl U23 rfl fun a E=>pr 1 E rfl fun a E=>bd hm fun x25 hx26 hm=>?_
  obtain ⟨p27,x28,hx29⟩:=H.rowformNE (i:=1) rfl hx26
  refine sv E rfl rfl rfl (cY (d:=aJ) E hx29 rfl rfl rfl rfl U23 oK hx26) fun a E=>pr 1 E rfl fun a E=>sv E rfl rfl rfl (mX (d:=aJ) (i:=1) (k:=1) E H dI hx29 rfl rfl rfl hx26 rfl U2 rfl) fun a E=>pr 1 E rfl fun a E=>nt<|aT (fun a w=>∃ v30 l31 rs32,Env 80 a [(9,.int .i64 x25.Next)]∧Sep w (Blk p1 251 [v13,v30,v14,v15,v16,v17,v18]::Row 77 aJ v30 l31::Fo) rs32∧(∀ r,r ∈ rs→r ∈ rs32)∧nY x25 l31=some r) ?_ ?_
  ·refine wp_seq<|dw [(0,0),(1,0),(2,0),(3,0),(4,0),(5,0),(6,0),(7,0),(8,1),(9,2),(10,2),(11,2)] [0] [] H (by kernel_rfl) (fun _ _ _ h=>False.elim h.2) fun w W0 hI H=>fn 4 E rfl fun a E=>fb E rfl (wn rfl) rfl rfl rfl rfl m0 rfl U23 rfl fun a E=>fn 3 E rfl fun a E=>bZ rfl<|bd hm fun u34 hx35 hm=>aU E (wn rfl) rfl rfl (bP E rfl rfl rfl (Vy _)) (Q6 H hx35)<|?_
   rintro _ w ⟨rfl,H⟩ a E
   refine nt<|?_
   refine ⟨⟨_,_,H,(aB m0 (aL)),(aM)⟩,?_⟩
   refine bQ rfl<|bd hm fun x36 hx37 hm=>?_
   obtain ⟨p38,x39,hx40⟩:=H.rowformNE (i:=1) rfl hx37
   refine sv E rfl rfl rfl (cY (d:=aJ) E hx40 rfl rfl rfl rfl U23 oK hx37) fun a E=>nt<|bQ rfl<|pr 1 E rfl fun a E=>nt<|bQ rfl<|h9 (d:=aJ) (i:=1) (k:=1) (z':=({ x36 with Next:=u34 }:aI)) E H dI (wn rfl) rfl hx40 rfl rfl rfl rfl rfl rfl hx37 rfl rfl sz2 fun w H=>nt<|bR<|?_
   clear hI
   refine aC<|sq<|pr 4 E rfl fun a E=>lb E H 0 rfl rfl rfl rfl rfl rfl rfl U23 rfl fun a E=>pr 1 E rfl fun a E=>bd hm fun x41 hx42 hm=>?_
   obtain ⟨p43,x44,hx45⟩:=H.rowformNE (i:=1) rfl hx42
   refine sv E rfl rfl rfl (cY (d:=aJ) E hx45 rfl rfl rfl rfl U23 oK hx42) fun a E=>pr 1 E rfl fun a E=>sv E rfl rfl rfl (mX (d:=aJ) (i:=1) (k:=1) E H dI hx45 rfl rfl rfl hx42 rfl U2 rfl) fun a E=>pr 1 E rfl fun a E=>nt<|wif E hm rfl (fun hm=>?_) fun hm=>?_
   ·refine wp_region_lit<|pr 5 E rfl fun a E=>lb E H 0 rfl rfl rfl rfl rfl rfl rfl U23 rfl fun a E=>pr 3 E rfl fun a E=>bk hm fun hx47 hm=>aU E (wn rfl) rfl rfl (cC E rfl rfl (Hv _)) (Tn.delete_c (ix:=1) H rfl hx47) fun v48 w H a E=>pr 3 E rfl fun a E=>?_
    obtain ⟨q49,x50,rfl⟩:=H.rowform (i:=1) rfl
    exact aZ (i:=0) E H (wn rfl) rfl rfl rfl rfl rfl rfl G4 rfl rfl fun w H=>nt<|X3 ⟨E.to rfl,H,hs24,hm⟩
   ·exact wp_skip<|aC<|X3 ⟨E.to rfl,H,hs24,hm⟩
  ·clear E H hm
   rintro a w ⟨v30,l31,rs32,E,H,hs33,hm⟩
   unfold nY at hm
   refine sq<|pr 2 E rfl fun a E=>nt<|wp_ret<|aY E rfl rfl<|?_
   cases hm
   exact ⟨_,rfl,H.reads hs33⟩

def wV (x1:Int):Option Int:=
  some (IntKind.i64.wrap (x1+1))
theorem Q7 {w:World} {Fo:List Ob} {rs:List Rp} {x1:Int} (H:Sep w (Fo) rs) {r:Int} (hm:wV x1=some r) :
    Calls Tryz.prog 263 [.int .i64 x1].toArray w (Ret fun v w'=>.int .i64 r=v∧Sep w' (Fo) (rs)):=by
 unfold wV at hm
 refine ent Tryz.func263 rfl Tryz.ntmps263 rfl rfl fun a E=>sq<|pr 1 E rfl fun a E=>nx<|pr 3 E rfl fun a E=>nt<|wp_ret<|aY E rfl rfl<|?_
 cases hm
 exact ⟨rfl,H.reads Y0⟩

def oA (x25:aI) (l31:(List aI)):Option (Int×(List aI)):=
  some (x25.Next,l31)
def oB (u19:Int×Bool) (l22:(List aI)):Option (Int×(List aI)):=
  (idx l22 u19.1).bind fun x25=>(wV x25.Next).bind fun u34=>(idx l22 u19.1).bind fun x36=>(idx (l22.set u19.1.toNat ({ x36 with Next:=u34 }:aI)) u19.1).bind fun x41=>if (x41.Next == 0)=true then ((ck (0 ≤ u19.1∧u19.1 < (l22.set u19.1.toNat ({ x36 with Next:=u34 }:aI)).length∧IntKind.i64.wrap (u19.1+1)=u19.1+1)).bind fun u46=>oA x25 ((l22.set u19.1.toNat ({ x36 with Next:=u34 }:aI)).eraseIdx u19.1.toNat)) else (oA x25 (l22.set u19.1.toNat ({ x36 with Next:=u34 }:aI)))
def vB (l5:List aI) (s12:ByteArray):Option (Int×(List aI)):=
  (dJ l5 s12).bind fun u19=>if (!u19.2)=true then ((ck (0 ≤ u19.1∧u19.1 ≤ l5.length∧l5.length ≤ 1000000)).bind fun u52=>oB u19 (l5.take u19.1.toNat ++ (⟨s12,0⟩:aI)::l5.drop u19.1.toNat)) else (oB u19 l5)
theorem M9 {w:World} {Fo:List Ob} {rs:List Rp} {p1:Nat} {v4 v13 v14 v15 v16 v17 v18:Value} {l5:List aI} {s12:ByteArray} (H:Sep w (Blk p1 251 [v13,v4,v14,v15,v16,v17,v18]::Row 77 aJ v4 l5::Fo) rs) {r:Int×(List aI)} (hm:vB l5 s12=some r) :
    Calls Tryz.prog 258 [pt p1 0,.string s12,.func (.func 263) #[] #[]].toArray w (Ret fun v w'=>∃ y2,.int .i64 r.1=v∧Sep w' (Blk p1 251 [v13,y2,v14,v15,v16,v17,v18]::Row 77 aJ y2 r.2::Fo) (rs)):=by
 unfold vB at hm
 refine ent Tryz.func258 rfl Tryz.ntmps258 rfl rfl fun a E=>sq<|pr 1 E rfl fun a E=>nx<|pr 4 E rfl fun a E=>lb E H 0 rfl rfl rfl rfl rfl rfl rfl U23 rfl fun a E=>pr 1 E rfl fun a E=>have H:=H.frs [0,1] rfl;bd hm fun u19 hx20 hm=>?_
 refine xk E rfl rfl rfl rfl rfl Ht (fJ H hx20) fun w H a E=>pr 5 E rfl fun a E=>nt<|aT (fun a w=>∃ v21 l22 rs23,Env 80 a [(0,pt p1 0),(2,.func (.func 263) #[] #[]),(7,.int .i64 u19.1)]∧Sep w (Blk p1 251 [v13,v21,v14,v15,v16,v17,v18]::Row 77 aJ v21 l22::Fo) rs23∧(∀ r,r ∈ rs→r ∈ rs23)∧oB u19 l22=some r) ?_ ?_
 ·refine sq<|pr 2 E rfl fun a E=>nt<|wif E hm rfl (fun hm=>?_) fun hm=>?_
  ·refine wp_region_lit<|pr 5 E rfl fun a E=>lb E H 1 rfl rfl rfl rfl rfl rfl rfl U23 rfl fun a E=>pr 2 E rfl fun a E=>sv E rfl rfl rfl (cI E rfl (E.evs rfl) (v:=.agg #[.string s12,.int .i64 0]) (by kernel_rfl)) fun a E=>fY (e:=77) (d:=aJ) (cs:=[.string s12,.int .i64 0]) (xs:=[(⟨s12,0⟩:aI)]) E H (wn rfl) rfl rfl rfl (E.evs rfl) (by kernel_rfl) rfl rfl (fun ok hr=>(Rows.single (d:=aJ) (cs:=[.string s12,.int .i64 0]) (x:=(⟨s12,0⟩:aI)) qL)) fun v51 w a H E=>bk hm fun hx53 hm=>aU E (wn rfl) rfl rfl (cC E rfl rfl (Hu _)) (Tn.insert_a (ix:=1) (iu:=0) H rfl rfl (by decide) hx53) fun v54 w H a E=>pr 3 E rfl fun a E=>?_
   obtain ⟨q55,x56,rfl⟩:=H.rowform (i:=1) rfl
   exact aZ (i:=2) E H (wn rfl) rfl rfl rfl rfl rfl rfl G4 rfl rfl fun w H=>nt<|have H:=H.drop 0;have H:=H.frs [0,1] rfl;X3 ⟨E.to rfl,H,Y0,hm⟩
  ·exact wp_skip<|aC<|have H:=H.frs [0,1] rfl;X3 ⟨E.to rfl,H,Y0,hm⟩
 ·clear E H hm
  rintro a w ⟨v21,l22,rs23,E,H,hs24,hm⟩
  unfold oB at hm
  refine sq<|pr 4 E rfl fun a E=>lb E H 0 rfl rfl rfl rfl rfl rfl rfl U23 rfl fun a E=>pr 1 E rfl fun a E=>bd hm fun x25 hx26 hm=>?_
  obtain ⟨p27,x28,hx29⟩:=H.rowformNE (i:=1) rfl hx26
  refine sv E rfl rfl rfl (cY (d:=aJ) E hx29 rfl rfl rfl rfl U23 oK hx26) fun a E=>pr 1 E rfl fun a E=>sv E rfl rfl rfl (mX (d:=aJ) (i:=1) (k:=1) E H dI hx29 rfl rfl rfl hx26 rfl U2 rfl) fun a E=>pr 1 E rfl fun a E=>nt<|aT (fun a w=>∃ v30 l31 rs32,Env 80 a [(9,.int .i64 x25.Next)]∧Sep w (Blk p1 251 [v13,v30,v14,v15,v16,v17,v18]::Row 77 aJ v30 l31::Fo) rs32∧(∀ r,r ∈ rs→r ∈ rs32)∧oA x25 l31=some r) ?_ ?_
  ·refine wp_seq<|dw [(0,0),(1,0),(2,0),(3,0),(4,0),(5,0),(6,0),(7,0),(8,1),(9,2),(10,2),(11,2)] [0] [] H (by kernel_rfl) (fun _ _ _ h=>False.elim h.2) fun w W0 hI H=>fn 4 E rfl fun a E=>fb E rfl (wn rfl) rfl rfl rfl rfl m0 rfl U23 rfl fun a E=>fn 3 E rfl fun a E=>bZ rfl<|bd hm fun u34 hx35 hm=>aU E (wn rfl) rfl rfl (bP E rfl rfl rfl (Wc _)) (Q7 H hx35)<|?_
   rintro _ w ⟨rfl,H⟩ a E
   refine nt<|?_
   refine ⟨⟨_,_,H,(aB m0 (aL)),(aM)⟩,?_⟩
   refine bQ rfl<|bd hm fun x36 hx37 hm=>?_
   obtain ⟨p38,x39,hx40⟩:=H.rowformNE (i:=1) rfl hx37
   refine sv E rfl rfl rfl (cY (d:=aJ) E hx40 rfl rfl rfl rfl U23 oK hx37) fun a E=>nt<|bQ rfl<|pr 1 E rfl fun a E=>nt<|bQ rfl<|h9 (d:=aJ) (i:=1) (k:=1) (z':=({ x36 with Next:=u34 }:aI)) E H dI (wn rfl) rfl hx40 rfl rfl rfl rfl rfl rfl hx37 rfl rfl sz2 fun w H=>nt<|bR<|?_
   clear hI
   refine aC<|sq<|pr 4 E rfl fun a E=>lb E H 0 rfl rfl rfl rfl rfl rfl rfl U23 rfl fun a E=>pr 1 E rfl fun a E=>bd hm fun x41 hx42 hm=>?_
   obtain ⟨p43,x44,hx45⟩:=H.rowformNE (i:=1) rfl hx42
   refine sv E rfl rfl rfl (cY (d:=aJ) E hx45 rfl rfl rfl rfl U23 oK hx42) fun a E=>pr 1 E rfl fun a E=>sv E rfl rfl rfl (mX (d:=aJ) (i:=1) (k:=1) E H dI hx45 rfl rfl rfl hx42 rfl U2 rfl) fun a E=>pr 1 E rfl fun a E=>nt<|wif E hm rfl (fun hm=>?_) fun hm=>?_
   ·refine wp_region_lit<|pr 5 E rfl fun a E=>lb E H 0 rfl rfl rfl rfl rfl rfl rfl U23 rfl fun a E=>pr 3 E rfl fun a E=>bk hm fun hx47 hm=>aU E (wn rfl) rfl rfl (cC E rfl rfl (Hv _)) (Tn.delete_c (ix:=1) H rfl hx47) fun v48 w H a E=>pr 3 E rfl fun a E=>?_
    obtain ⟨q49,x50,rfl⟩:=H.rowform (i:=1) rfl
    exact aZ (i:=0) E H (wn rfl) rfl rfl rfl rfl rfl rfl G4 rfl rfl fun w H=>nt<|X3 ⟨E.to rfl,H,hs24,hm⟩
   ·exact wp_skip<|aC<|X3 ⟨E.to rfl,H,hs24,hm⟩
  ·clear E H hm
   rintro a w ⟨v30,l31,rs32,E,H,hs33,hm⟩
   unfold oA at hm
   refine sq<|pr 2 E rfl fun a E=>nt<|wp_ret<|aY E rfl rfl<|?_
   cases hm
   exact ⟨_,rfl,H.reads hs33⟩

def rS (s1:ByteArray) (s2:ByteArray) (b6:Bool):Option (ByteArray×Bool):=
  if b6=true then (some ((ByteArray.mk #[]),false)) else ((oT s1 (ByteArray.mk #[47])).bind fun u9=>(ck (u9.size+(ByteArray.mk #[47]).size ≤ 4611686018427387904)).bind fun u12=>(ck ((u9 ++ (ByteArray.mk #[47])).size+s2.size ≤ 4611686018427387904)).bind fun u14=>some ((u9 ++ (ByteArray.mk #[47])) ++ s2,true))
def g8 (s1:ByteArray) (s2:ByteArray):Option (ByteArray×Bool):=
  (yW s1).bind fun u3=>if (!u3.2)=true then (rS s1 s2 true) else ((wZ s2).bind fun u16=>if (!u16)=true then (rS s1 s2 true) else (rS s1 s2 ((u3.1.length:Int) == 6)))
theorem S3 {w:World} {Fo:List Ob} {rs:List Rp} {s1 s2:ByteArray} (H:Sep w (Fo) rs) {r:ByteArray×Bool} (hm:g8 s1 s2=some r) :
    Calls Tryz.prog 185 [.string s1,.string s2].toArray w (Ret fun v w'=>.tuple #[.string r.1,.bool r.2]=v∧Sep w' (Fo) (rs)):=by
 unfold g8 at hm
 refine ent Tryz.func185 rfl Tryz.ntmps185 rfl rfl fun a E=>sq<|pr 2 E rfl fun a E=>nx<|pr 1 E rfl fun a E=>bd hm fun u3 hx4 hm=>cG E rfl rfl rfl rfl rfl Ll (M2 H hx4)<|?_
 rintro _ w ⟨v5,rfl,H⟩ a E
 refine pr 5 E rfl fun a E=>nt<|wp_seq<|aT (fun a w=>∃ b6 rs7,Env 30 a [(0,.string s1),(1,.string s2),(24,.bool b6)]∧Sep w (Fo) rs7∧(∀ r,r ∈ rs→r ∈ rs7)∧rS s1 s2 b6=some r) ?_ ?_
 ·refine wp_region_lit<|pr 3 E rfl fun a E=>cs hm (fun hb15 hm=>?_) fun hb15 hm=>?_
  ·exact pk 9 E (kc 15 rfl hb15) rfl fun a E=>nt<|have H:=H.drop 0;⟨_,_,E.to rfl,H,Y0,hm⟩
  ·refine pk 1 E (kc 15 rfl hb15) rfl fun a E=>bd hm fun u16 hx17 hm=>aU E (ws' (d:=15) E rfl rfl rfl rfl hb15) rfl rfl (cC E rfl rfl (Gx _)) (B6 H hx17)<|?_
   rintro _ w ⟨rfl,H⟩ a E
   refine pk 3 E (kc 15 rfl hb15) rfl fun a E=>cs hm (fun hb18 hm=>?_) fun hb18 hm=>?_
   ·exact pk 4 E (kc 20 rfl hb18) rfl fun a E=>nt<|have H:=H.drop 0;⟨_,_,E.to rfl,H,Y0,hm⟩
   ·exact pk 1 E (kc 20 rfl hb18) rfl fun a E=>aQ E (ws' (d:=20) E rfl rfl rfl rfl hb18) rfl rfl (iZ (i:=0) E H rfl rfl rfl U33) fun a E=>pk 2 E (kc 20 rfl hb18) rfl fun a E=>nt<|have H:=H.drop 0;⟨_,_,E.to rfl,H,Y0,hm⟩
 ·clear E H hm
  rintro a w ⟨b6,rs7,E,H,hs8,hm⟩
  unfold rS at hm
  refine wif E hm rfl (fun hm=>?_) fun hm=>?_
  ·refine sq<|pr 2 E rfl fun a E=>nt<|wp_ret<|aP<|fX E rfl rfl rfl<|?_
   cases hm
   exact ⟨rfl,H.reads hs8⟩
  ·refine wp_skip<|aC<|sq<|pr 1 E rfl fun a E=>bd hm fun u9 hx10 hm=>xk E rfl rfl rfl rfl rfl Lp (yY H hx10) fun w H a E=>bk hm fun hx11 hm=>sv E rfl rfl rfl (Gh E rfl rfl rfl hx11) fun a E=>pr 1 E rfl fun a E=>?_
   refine bk hm fun hx13 hm=>sv E rfl rfl rfl (Gh E rfl rfl rfl hx13) fun a E=>pr 2 E rfl fun a E=>nt<|wp_ret<|fX E rfl rfl rfl<|?_
   cases hm
   exact ⟨rfl,H.reads hs8⟩

def qT (x2:Int) (s1:ByteArray) (b4:Bool):Option (ByteArray×Bool):=
  if b4=true then (some ((ByteArray.mk #[]),false)) else ((ck (-9223372036854775808 ≤ IntKind.i64.wrap (10000+x2)∧IntKind.i64.wrap (10000+x2) ≤ 9223372036854775807)).bind fun u7=>(ck (0 ≤ (1:Int)∧(1:Int) ≤ (ByteArray.mk (Lib.itoa (IntKind.i64.wrap (10000+x2))).toArray).size)).bind fun u9=>(ck (s1.size+((ByteArray.mk (Lib.itoa (IntKind.i64.wrap (10000+x2))).toArray).extract (1:Int).toNat (ByteArray.mk (Lib.itoa (IntKind.i64.wrap (10000+x2))).toArray).size).size ≤ 4611686018427387904)).bind fun u12=>(wZ (s1 ++ ((ByteArray.mk (Lib.itoa (IntKind.i64.wrap (10000+x2))).toArray).extract (1:Int).toNat (ByteArray.mk (Lib.itoa (IntKind.i64.wrap (10000+x2))).toArray).size))).bind fun u13=>if (!u13)=true then (some ((ByteArray.mk #[]),false)) else (some (s1 ++ ((ByteArray.mk (Lib.itoa (IntKind.i64.wrap (10000+x2))).toArray).extract (1:Int).toNat (ByteArray.mk (Lib.itoa (IntKind.i64.wrap (10000+x2))).toArray).size),true)))
def zB (s1:ByteArray) (x2:Int):Option (ByteArray×Bool):=
  if (decide (x2 < 0))=true then (qT x2 s1 true) else (qT x2 s1 (decide (x2 > 9999)))
theorem Ar {w:World} {Fo:List Ob} {rs:List Rp} {s1:ByteArray} {x2:Int} (H:Sep w (Fo) rs) (hr3:xU Tryz.prog ∈ rs) {r:ByteArray×Bool} (hm:zB s1 x2=some r) :
    Calls Tryz.prog 260 [.string s1,.int .i64 x2].toArray w (Ret fun v w'=>.tuple #[.string r.1,.bool r.2]=v∧Sep w' (Fo) (rs)):=by
 unfold zB at hm
 refine ent Tryz.func260 rfl Tryz.ntmps260 rfl rfl fun a E=>sq<|pr 2 E rfl fun a E=>nt<|wp_seq<|aT (fun a w=>∃ b4 rs5,Env 23 a [(0,.string s1),(1,.int .i64 x2),(12,.bool b4)]∧Sep w (Fo) rs5∧(∀ r,r ∈ rs→r ∈ rs5)∧qT x2 s1 b4=some r) ?_ ?_
 ·refine wp_region_lit<|pr 3 E rfl fun a E=>cs hm (fun hb15 hm=>?_) fun hb15 hm=>?_
  ·exact pk 3 E (kc 9 rfl hb15) rfl fun a E=>nt<|⟨_,_,E.to rfl,H,Y0,hm⟩
  ·exact pk 3 E (kc 9 rfl hb15) rfl fun a E=>nt<|⟨_,_,E.to rfl,H,Y0,hm⟩
 ·clear E H hm
  rintro a w ⟨b4,rs5,E,H,hs6,hm⟩
  unfold qT at hm
  refine wif E hm rfl (fun hm=>?_) fun hm=>?_
  ·refine sq<|pr 2 E rfl fun a E=>nt<|wp_ret<|aP<|fX E rfl rfl rfl<|?_
   cases hm
   exact ⟨rfl,H.reads hs6⟩
  ·refine wp_skip<|aC<|sq<|pr 3 E rfl fun a E=>bk hm fun hx8 hm=>cG E rfl rfl rfl rfl rfl Wb (Sd H (hs6 _ hr3) (IntKind.i64.wrap (10000+x2)) hx8)<|?_
   rintro _ w ⟨rfl,H⟩ a E
   refine bk hm fun hx10 hm=>sv E rfl rfl rfl (D4 E rfl rfl rfl U9 hx10) fun a E=>bk hm fun hx11 hm=>sv E rfl rfl rfl (Gh E rfl rfl rfl hx11) fun a E=>pr 1 E rfl fun a E=>nt<|wp_seq<|sq<|pr 1 E rfl fun a E=>?_
   refine bd hm fun u13 hx14 hm=>xk E rfl rfl rfl rfl rfl Gx (B6 H hx14) fun w H a E=>pr 1 E rfl fun a E=>nt<|wif E hm rfl (fun hm=>?_) fun hm=>?_
   ·refine sq<|pr 2 E rfl fun a E=>nt<|wp_ret<|aP<|fX E rfl rfl rfl<|?_
    cases hm
    exact ⟨rfl,H.reads hs6⟩
   ·refine wp_skip<|aC<|sq<|pr 3 E rfl fun a E=>nt<|wp_ret<|fX E rfl rfl rfl<|?_
    cases hm
    exact ⟨rfl,H.reads hs6⟩

def qU (u23:Int×Bool) (l3:List aE) (s18:ByteArray) (x12:bJ) (x6:Int) (s8:ByteArray) (x9:Int) (l11:List ByteArray) (l28:(List aI)):Option ((List aE)×(List aI)×Int×ByteArray×ByteArray×Int×(List ByteArray)):=
  (ck (0 ≤ u23.1∧u23.1 ≤ l3.length∧l3.length ≤ 1000000)).bind fun u32=>some (l3.take u23.1.toNat ++ (⟨s18,x12.Data,0,0,x12.Owner⟩:aE)::l3.drop u23.1.toNat,l28,x6,s18,s8,x9,l11)
def qV (l3:List aE) (x12:bJ) (x6:Int) (s8:ByteArray) (x9:Int) (l11:List ByteArray) (u16:ByteArray×Bool) (s18:ByteArray) (l20:(List aI)):Option ((List aE)×(List aI)×Int×ByteArray×ByteArray×Int×(List ByteArray)):=
  (oQ l3 s18).bind fun u23=>if u23.2=true then ((hG 61).bind fun u25=>some (l3,l20,u25,(ByteArray.mk #[]),(ByteArray.mk #[]),0,[])) else (if x12.Turns=true then ((vB l20 u16.1).bind fun u37=>qU u23 l3 s18 x12 x6 s8 x9 l11 u37.2) else (qU u23 l3 s18 x12 x6 s8 x9 l11 l20))
def zC (l3:List aE) (l5:List aI) (x6:Int) (s8:ByteArray) (x9:Int) (l11:List ByteArray) (x12:bJ):Option ((List aE)×(List aI)×Int×ByteArray×ByteArray×Int×(List ByteArray)):=
  (qM x12.Path).bind fun u16=>if x12.Turns=true then ((vA l5 u16.1).bind fun u40=>(xG x12.Path).bind fun u43=>(zB u43 u40.1).bind fun u45=>(g8 u16.1 u45.1).bind fun u47=>if (!u45.2)=true then ((hG 66).bind fun u49=>some (l3,u40.2,u49,(ByteArray.mk #[]),(ByteArray.mk #[]),0,[])) else (qV l3 x12 x6 s8 x9 l11 u16 u47.1 u40.2)) else (qV l3 x12 x6 s8 x9 l11 u16 x12.Path l5)
theorem As {w:World} {Fo:List Ob} {rs:List Rp} {p1:Nat} {v2 v4 v10 v13:Value} {l3:List aE} {l5:List aI} {x6 x9:Int} {s8:ByteArray} {l11:List ByteArray} {x12:bJ} (H:Sep w (Blk p1 251 [v2,v4,.int .i64 x6,v13,.string s8,.int .i64 x9,v10]::Row 95 aF v2 l3::Row 77 aJ v4 l5::Row 9 kS v10 l11::Fo) rs) (hr14:xU Tryz.prog ∈ rs) {r:(List aE)×(List aI)×Int×ByteArray×ByteArray×Int×(List ByteArray)} (hm:zC l3 l5 x6 s8 x9 l11 x12=some r) :
    Calls Tryz.prog 194 [pt p1 0,.agg (cH x12).toArray].toArray w (Ret fun v w'=>∃ y1 y3 y9,.tuple #[]=v∧Sep w' (Blk p1 251 [y1,y3,.int .i64 r.2.2.1,.string r.2.2.2.1,.string r.2.2.2.2.1,.int .i64 r.2.2.2.2.2.1,y9]::Row 95 aF y1 r.1::Row 77 aJ y3 r.2.1::Row 9 kS y9 r.2.2.2.2.2.2::Fo) (rs)):=by
 unfold zC at hm
 refine ent Tryz.func194 rfl Tryz.ntmps194 rfl rfl fun a E=>sq<|bS E H (wn rfl) rfl rfl rfl rfl rfl fun p15 w a H E=>nx<|pr 1 E rfl fun a E=>lb E H 0 rfl rfl rfl rfl rfl rfl rfl U9 rfl fun a E=>pr 1 E rfl fun a E=>nx<|pr 1 E rfl fun a E=>?_
 refine lb E H 0 rfl rfl rfl rfl rfl rfl rfl U9 rfl fun a E=>bd hm fun u16 hx17 hm=>xk E rfl rfl rfl rfl rfl Cv (xJ H hx17) fun w H a E=>pr 5 E rfl fun a E=>nt<|aT (fun a w=>∃ v19 s18 l20 rs21,Env 80 a [(0,pt p1 0),(3,pt p15 0),(4,.string s18),(5,.string u16.1)]∧Sep w (Blk p1 251 [v2,v19,.int .i64 x6,v13,.string s8,.int .i64 x9,v10]::Blk p15 85 (cH x12)::Row 95 aF v2 l3::Row 77 aJ v19 l20::Row 9 kS v10 l11::Fo) rs21∧(∀ r,r ∈ rs→r ∈ rs21)∧qV l3 x12 x6 s8 x9 l11 u16 s18 l20=some r) ?_ ?_
 ·refine sq<|pr 1 E rfl fun a E=>lb E H 0 rfl rfl rfl rfl rfl rfl rfl U4 rfl fun a E=>nt<|wif E hm rfl (fun hm=>?_) fun hm=>?_
  ·refine sq<|pr 2 E rfl fun a E=>have H:=H.frs [4,3,2,4,4] rfl;bd hm fun u40 hx41 hm=>cG E rfl rfl rfl rfl rfl Hs (M8 H hx41)<|?_
   rintro _ w ⟨v42,rfl,H⟩ a E
   refine pr 1 E rfl fun a E=>nx<|pr 1 E rfl fun a E=>lb E H 2 rfl rfl rfl rfl rfl rfl rfl U9 rfl fun a E=>bd hm fun u43 hx44 hm=>xk E rfl rfl rfl rfl rfl Hq (C6 H hx44) fun w H a E=>pr 1 E rfl fun a E=>bd hm fun u45 hx46 hm=>xk E rfl rfl rfl rfl rfl Vz (Ar H hr14 hx46) fun w H a E=>?_
   refine pr 5 E rfl fun a E=>nx<|pr 2 E rfl fun a E=>bd hm fun u47 hx48 hm=>xk E rfl rfl rfl rfl rfl Ly (S3 H hx48) fun w H a E=>pr 4 E rfl fun a E=>nx<|pr 2 E rfl fun a E=>nt<|wif E hm rfl (fun hm=>?_) fun hm=>?_
   ·refine sq<|pr 1 E rfl fun a E=>bd hm fun u49 hx50 hm=>xk E rfl rfl rfl rfl rfl G3 (lC H hx50) fun w H a E=>nt<|wp_ret<|aP<|W5 E rfl<|have H:=H.nilRow 9 kS;?_
    refine have H:=H.drs [3,4];have H:=H.frs [0,2,3,3] rfl;?_
    cases hm
    exact X3 ⟨rfl,H.reads Y0⟩
   ·exact wp_skip<|aC<|have H:=H.frs [4,2,4,4,4] rfl;X4 ⟨E.to rfl,H,Y0,hm⟩
  ·exact wp_skip<|aC<|have H:=H.frs [4,4,4,3,4] rfl;X4 ⟨E.to rfl,H,Y0,hm⟩
 ·clear E H hm
  rintro a w ⟨v19,s18,l20,rs21,E,H,hs22,hm⟩
  unfold qV at hm
  refine sq<|pr 2 E rfl fun a E=>have H:=H.frs [4,4,3,4,4] rfl;bd hm fun u23 hx24 hm=>xk E rfl rfl rfl rfl rfl Hr (wO H hx24) fun w H a E=>pr 5 E rfl fun a E=>nt<|wp_seq<|sq<|?_
  refine pr 1 E rfl fun a E=>nt<|wif E hm rfl (fun hm=>?_) fun hm=>?_
  ·refine sq<|pr 1 E rfl fun a E=>bd hm fun u25 hx26 hm=>xk E rfl rfl rfl rfl rfl G3 (lC H hx26) fun w H a E=>nt<|wp_ret<|aP<|W5 E rfl<|have H:=H.nilRow 9 kS;?_
   refine have H:=H.drs [3,4];have H:=H.frs [0,3,3,3] rfl;?_
   cases hm
   exact X3 ⟨rfl,H.reads hs22⟩
  ·refine wp_skip<|aC<|aT (fun a w=>∃ v27 l28 rs29,Env 80 a [(0,pt p1 0),(3,pt p15 0),(4,.string s18),(10,.int .i64 u23.1)]∧Sep w (Blk p1 251 [v2,v27,.int .i64 x6,v13,.string s8,.int .i64 x9,v10]::Blk p15 85 (cH x12)::Row 95 aF v2 l3::Row 77 aJ v27 l28::Row 9 kS v10 l11::Fo) rs29∧(∀ r,r ∈ rs→r ∈ rs29)∧qU u23 l3 s18 x12 x6 s8 x9 l11 l28=some r) ?_ ?_
   ·refine sq<|pr 1 E rfl fun a E=>lb E H 2 rfl rfl rfl rfl rfl rfl rfl U4 rfl fun a E=>nt<|wif E hm rfl (fun hm=>?_) fun hm=>?_
    ·refine wp_region_lit<|pr 2 E rfl fun a E=>have H:=H.frs [4,3,3,4,4] rfl;bd hm fun u37 hx38 hm=>cG E rfl rfl rfl rfl rfl Hs (M9 H hx38)<|?_
     rintro _ w ⟨v39,rfl,H⟩ a E
     exact nt<|have H:=H.frs [4,2,3,4,4] rfl;X3 ⟨E.to rfl,H,hs22,hm⟩
    ·exact wp_skip<|aC<|have H:=H.frs [4,4,3,4,4] rfl;X3 ⟨E.to rfl,H,hs22,hm⟩
   ·clear E H hm
    rintro a w ⟨v27,l28,rs29,E,H,hs30,hm⟩
    unfold qU at hm
    refine wp_seq<|dw [(0,0),(1,0),(2,0),(3,0),(4,0),(5,0),(6,0),(7,0),(8,0),(9,0),(10,0),(11,0),(12,0),(13,1),(14,1),(15,2),(16,2),(17,2),(18,2)] [0,1] [] H (by kernel_rfl) (fun _ _ _ h=>False.elim h.2) fun w W0 hI H=>fn 5 E rfl fun a E=>fb E rfl (wn rfl) rfl rfl rfl rfl m0 rfl U22 rfl fun a E=>fn 3 E rfl fun a E=>fb E rfl (wn rfl) rfl rfl rfl rfl mm1 rfl U9 rfl fun a E=>fn 1 E rfl fun a E=>fb E rfl (wn rfl) rfl rfl rfl rfl mm1 rfl U2 rfl fun a E=>bW E rfl (wn rfl) rfl rfl (fun w hW=>(cI E rfl (E.evs rfl) (v:=.agg #[.string s18,.string x12.Data,.int .i64 0,.int .i64 0,.int .i64 x12.Owner]) (by kernel_rfl))) fun a E=>?_
    refine bZ rfl<|fY (e:=95) (d:=aF) (cs:=[.string s18,.string x12.Data,.int .i64 0,.int .i64 0,.int .i64 x12.Owner]) (xs:=[(⟨s18,x12.Data,0,0,x12.Owner⟩:aE)]) E H (wn rfl) rfl rfl rfl (E.evs rfl) (by kernel_rfl) rfl rfl (fun ok hr=>(Rows.single (d:=aF) (cs:=[.string s18,.string x12.Data,.int .i64 0,.int .i64 0,.int .i64 x12.Owner]) (x:=(⟨s18,x12.Data,0,0,x12.Owner⟩:aE)) sZ)) fun v31 w a H E=>nt<|?_
    refine ⟨⟨_,_,H,(aB mm1 (aB mm2 (aL))),(aM)⟩,?_⟩
    refine bZ rfl<|bk hm fun hx33 hm=>aU E (wn rfl) rfl rfl (cC E rfl rfl (Wd _)) (insert_a (ix:=3) (iu:=0) H rfl rfl (by decide) hx33) fun v34 w H a E=>nt<|?_
    refine ⟨⟨_,_,H,(aB mm1 (aB mm2 (aL))),(aM)⟩,?_⟩
    refine bQ rfl<|pr 1 E rfl fun a E=>nt<|bQ rfl<|pr 1 E rfl fun a E=>nt<|bQ rfl<|pr 1 E rfl fun a E=>nt<|?_
    refine bQ rfl<|?_
    obtain ⟨q35,x36,rfl⟩:=H.rowform (i:=3) rfl
    refine aZ (i:=1) E H (wn rfl) rfl rfl rfl rfl rfl rfl Bg rfl rfl fun w H=>nt<|bR<|?_
    clear hI
    refine aC<|wp_region_lit<|pr 5 E rfl fun a E=>aZ (i:=1) E H (wn rfl) rfl rfl rfl rfl rfl rfl sz9 rfl rfl fun w H=>wpList_nil<|oJ E rfl<|have H:=H.drs [0,1];?_
    cases hm
    exact X3 ⟨rfl,H.reads hs30⟩

def yD (l3:List aE) (x6:Int) (s7:ByteArray) (s8:ByteArray) (x9:Int) (l11:List ByteArray) (x12:bJ):Option (Int×ByteArray×ByteArray×Int×(List ByteArray)):=
  (jH l3 x6 s7 s8 x9 l11 x12).bind fun u15=>if (decide (0 ≤ u15.1))=true then ((idx l3 u15.1).bind fun x18=>some (u15.2.1,u15.2.2.1,x18.Data,x18.Version,u15.2.2.2.2.2)) else (some (u15.2.1,u15.2.2.1,u15.2.2.2.1,u15.2.2.2.2.1,u15.2.2.2.2.2))
theorem W3 {w:World} {Fo:List Ob} {rs:List Rp} {p1:Nat} {v2 v10 v13:Value} {l3:List aE} {x6 x9:Int} {s7 s8:ByteArray} {l11:List ByteArray} {x12:bJ} (H:Sep w (Blk p1 251 [v2,v13,.int .i64 x6,.string s7,.string s8,.int .i64 x9,v10]::Row 95 aF v2 l3::Row 9 kS v10 l11::Fo) rs) {r:Int×ByteArray×ByteArray×Int×(List ByteArray)} (hm:yD l3 x6 s7 s8 x9 l11 x12=some r) :
    Calls Tryz.prog 199 [pt p1 0,.agg (cH x12).toArray].toArray w (Ret fun v w'=>∃ y5,.tuple #[]=v∧Sep w' (Blk p1 251 [v2,v13,.int .i64 r.1,.string r.2.1,.string r.2.2.1,.int .i64 r.2.2.2.1,y5]::Row 95 aF v2 l3::Row 9 kS y5 r.2.2.2.2::Fo) (rs)):=by
 unfold yD at hm
 refine ent Tryz.func199 rfl Tryz.ntmps199 rfl rfl fun a E=>sq<|bS E H (wn rfl) rfl rfl rfl rfl rfl fun p14 w a H E=>nx<|pr 1 E rfl fun a E=>sv E rfl rfl rfl (cA (i:=0) (us:=(cH x12)) E H rfl rfl rfl rfl U85 rfl hP) fun a E=>have H:=H.frs [0,3,3,3] rfl;bd hm fun u15 hx16 hm=>cG E rfl rfl rfl rfl rfl P1 (nB H hx16)<|?_
 rintro _ w ⟨v17,rfl,H⟩ a E
 refine pr 1 E rfl fun a E=>nx<|pr 1 E rfl fun a E=>sv E rfl rfl rfl (Y9 E Ai Aj rfl rfl rfl) fun a E=>nt<|wif E hm rfl (fun hm=>?_) fun hm=>?_
 ·refine dw [(0,0),(1,0),(2,0),(3,0),(4,0),(5,0),(6,0),(7,0),(8,0),(9,0),(10,0),(11,0),(12,0),(13,1),(14,2),(15,2),(16,2),(17,2)] [1] [] H (by kernel_rfl) (fun _ _ _ h=>False.elim h.2) fun w W0 hI H=>fn 3 E rfl fun a E=>bd hm fun x18 hx19 hm=>?_
  obtain ⟨p20,x21,hx22⟩:=H.rowformNE (i:=1) rfl hx19
  rw [L1 5 hx22 hx19] at E
  refine fn 2 E rfl fun a E=>bW E rfl (wn rfl) rfl rfl (fun w hW=>S7 (d:=aF) (k:=1) E cK hx22 hx19 m0 rfl rfl rfl U9 rfl hW) fun a E=>?_
  refine fn 3 E rfl fun a E=>bW E rfl (wn rfl) rfl rfl (fun w hW=>S7 (d:=aF) (k:=2) E cK hx22 hx19 m0 rfl rfl rfl U2 rfl hW) fun a E=>?_
  refine fn 3 E rfl fun a E=>bZ rfl<|aZ (i:=0) E H (wn rfl) rfl rfl rfl rfl rfl rfl sz9 rfl rfl fun w H=>nt<|?_
  refine ⟨⟨_,_,H,(aB mm1 (aL)),(aM)⟩,?_⟩
  refine bQ rfl<|pr 1 E rfl fun a E=>nt<|bQ rfl<|pr 1 E rfl fun a E=>nt<|bQ rfl<|pr 1 E rfl fun a E=>nt<|?_
  refine bQ rfl<|aZ (i:=0) E H (wn rfl) rfl rfl rfl rfl rfl rfl sz2 rfl rfl fun w H=>nt<|bR<|?_
  clear hI
  refine oJ E rfl<|have H:=H.drop 3;?_
  cases hm
  exact ⟨_,rfl,H.reads Y0⟩
 ·refine wp_skip<|oJ E rfl<|have H:=H.drop 3;?_
  cases hm
  exact ⟨_,rfl,H.reads Y0⟩

def vC (l3:List aE) (x6:Int) (s7:ByteArray) (s8:ByteArray) (x9:Int) (l11:List ByteArray) (x12:bJ):Option ((List aE)×Int×ByteArray×ByteArray×Int×(List ByteArray)):=
  (jH l3 x6 s7 s8 x9 l11 x12).bind fun u15=>if (decide (0 ≤ u15.1))=true then ((oQ l3 x12.Path).bind fun u18=>(ck (0 ≤ u18.1∧u18.1 < l3.length∧IntKind.i64.wrap (u18.1+1)=u18.1+1)).bind fun u20=>some (l3.eraseIdx u18.1.toNat,u15.2.1,u15.2.2.1,u15.2.2.2.1,u15.2.2.2.2.1,u15.2.2.2.2.2)) else (some (l3,u15.2.1,u15.2.2.1,u15.2.2.2.1,u15.2.2.2.2.1,u15.2.2.2.2.2))
theorem N1 {w:World} {Fo:List Ob} {rs:List Rp} {p1:Nat} {v2 v10 v13:Value} {l3:List aE} {x6 x9:Int} {s7 s8:ByteArray} {l11:List ByteArray} {x12:bJ} (H:Sep w (Blk p1 251 [v2,v13,.int .i64 x6,.string s7,.string s8,.int .i64 x9,v10]::Row 95 aF v2 l3::Row 9 kS v10 l11::Fo) rs) {r:(List aE)×Int×ByteArray×ByteArray×Int×(List ByteArray)} (hm:vC l3 x6 s7 s8 x9 l11 x12=some r) :
    Calls Tryz.prog 195 [pt p1 0,.agg (cH x12).toArray].toArray w (Ret fun v w'=>∃ y1 y7,.tuple #[]=v∧Sep w' (Blk p1 251 [y1,v13,.int .i64 r.2.1,.string r.2.2.1,.string r.2.2.2.1,.int .i64 r.2.2.2.2.1,y7]::Row 95 aF y1 r.1::Row 9 kS y7 r.2.2.2.2.2::Fo) (rs)):=by
 unfold vC at hm
 refine ent Tryz.func195 rfl Tryz.ntmps195 rfl rfl fun a E=>sq<|bS E H (wn rfl) rfl rfl rfl rfl rfl fun p14 w a H E=>nx<|pr 1 E rfl fun a E=>sv E rfl rfl rfl (cA (i:=0) (us:=(cH x12)) E H rfl rfl rfl rfl U85 rfl hP) fun a E=>have H:=H.frs [0,3,3,3] rfl;bd hm fun u15 hx16 hm=>cG E rfl rfl rfl rfl rfl P1 (nB H hx16)<|?_
 rintro _ w ⟨v17,rfl,H⟩ a E
 refine sv E rfl rfl rfl (Y9 E Ai Aj rfl rfl rfl) fun a E=>nt<|wif E hm rfl (fun hm=>?_) fun hm=>?_
 ·refine sq<|pr 2 E rfl fun a E=>lb E H 3 rfl rfl rfl rfl rfl rfl rfl U9 rfl fun a E=>bd hm fun u18 hx19 hm=>xk E rfl rfl rfl rfl rfl Hr (wO H hx19) fun w H a E=>pr 5 E rfl fun a E=>nt<|wp_region_lit<|pr 5 E rfl fun a E=>?_
  refine lb E H 0 rfl rfl rfl rfl rfl rfl rfl U22 rfl fun a E=>pr 3 E rfl fun a E=>bk hm fun hx21 hm=>aU E (wn rfl) rfl rfl (cC E rfl rfl (Vw _)) (delete_c (ix:=1) H rfl hx21) fun v22 w H a E=>pr 3 E rfl fun a E=>?_
  obtain ⟨q23,x24,rfl⟩:=H.rowform (i:=1) rfl
  refine aZ (i:=0) E H (wn rfl) rfl rfl rfl rfl rfl rfl Bg rfl rfl fun w H=>wpList_nil<|oJ E rfl<|have H:=H.drop 3;?_
  cases hm
  exact ⟨_,_,rfl,H.reads Y0⟩
 ·refine wp_skip<|oJ E rfl<|have H:=H.drop 3;?_
  cases hm
  exact ⟨_,_,rfl,H.reads Y0⟩

def hY (x1:bB) (l28:(List aE)) (l30:(List aI)) (x31:Int) (s32:ByteArray) (s33:ByteArray) (x34:Int) (l36:(List ByteArray)):Option (bB×cL):=
  if (x31 != 0)=true then (some (x1,(⟨x31,s32,s33,x34,l36⟩:cL))) else (some ((⟨l28,l30⟩:bB),(⟨x31,s32,s33,x34,l36⟩:cL)))
def zD (x1:bB) (x4:bJ) (b13:Bool):Option (bB×cL):=
  if b13=true then (some ((⟨[],[]⟩:bB),(⟨1,(ByteArray.mk #[]),(ByteArray.mk #[]),0,[]⟩:cL))) else ((ck (x1.Nodes.length ≤ LIM)).bind fun u17=>(ck (x1.Turns.length ≤ LIM)).bind fun u20=>if (x4.Kind == 1)=true then ((wS x1.Nodes 0 (ByteArray.mk #[]) (ByteArray.mk #[]) 0 [] x4).bind fun u89=>hY x1 x1.Nodes x1.Turns u89.1 u89.2.1 u89.2.2.1 u89.2.2.2.1 u89.2.2.2.2) else (if (x4.Kind == 2)=true then ((zC x1.Nodes x1.Turns 0 (ByteArray.mk #[]) 0 [] x4).bind fun u83=>hY x1 u83.1 u83.2.1 u83.2.2.1 u83.2.2.2.1 u83.2.2.2.2.1 u83.2.2.2.2.2.1 u83.2.2.2.2.2.2) else (if (x4.Kind == 3)=true then ((vC x1.Nodes 0 (ByteArray.mk #[]) (ByteArray.mk #[]) 0 [] x4).bind fun u78=>hY x1 u78.1 x1.Turns u78.2.1 u78.2.2.1 u78.2.2.2.1 u78.2.2.2.2.1 u78.2.2.2.2.2) else (if (x4.Kind == 4)=true then ((wR x1.Nodes x1.Turns 0 (ByteArray.mk #[]) (ByteArray.mk #[]) 0 [] x4).bind fun u73=>hY x1 x1.Nodes u73.1 u73.2.1 u73.2.2.1 u73.2.2.2.1 u73.2.2.2.2.1 u73.2.2.2.2.2) else (if (x4.Kind == 5)=true then ((wP x1.Nodes 0 (ByteArray.mk #[]) (ByteArray.mk #[]) 0 [] x4).bind fun u69=>hY x1 u69.1 x1.Turns u69.2.1 u69.2.2.1 u69.2.2.2.1 u69.2.2.2.2.1 u69.2.2.2.2.2) else (if (x4.Kind == 6)=true then ((yC x1.Nodes 0 (ByteArray.mk #[]) (ByteArray.mk #[]) 0 [] x4).bind fun u65=>hY x1 x1.Nodes x1.Turns u65.1 u65.2.1 u65.2.2.1 u65.2.2.2.1 u65.2.2.2.2) else (if (x4.Kind == 7)=true then ((yD x1.Nodes 0 (ByteArray.mk #[]) (ByteArray.mk #[]) 0 [] x4).bind fun u61=>hY x1 x1.Nodes x1.Turns u61.1 u61.2.1 u61.2.2.1 u61.2.2.2.1 u61.2.2.2.2) else (if (x4.Kind == 8)=true then ((zA x1.Nodes 0 (ByteArray.mk #[]) (ByteArray.mk #[]) 0 [] x4).bind fun u57=>hY x1 x1.Nodes x1.Turns u57.1 u57.2.1 u57.2.2.1 u57.2.2.2.1 u57.2.2.2.2) else (if (x4.Kind == 9)=true then ((wT x1.Nodes [] x4).bind fun u53=>hY x1 x1.Nodes x1.Turns 0 (ByteArray.mk #[]) (ByteArray.mk #[]) 0 u53) else (if (x4.Kind == 10)=true then ((wQ x1.Nodes [] x4).bind fun u48=>hY x1 u48.1 x1.Turns 0 (ByteArray.mk #[]) (ByteArray.mk #[]) 0 u48.2) else none))))))))))
def N2 (x1:bB) (x4:bJ):Option (bB×cL):=
  (pM x1).bind fun u92=>if (!u92)=true then (zD x1 x4 true) else ((n2 x4).bind fun u95=>zD x1 x4 (!u95))
theorem Jq {w:World} {Fo:List Ob} {rs:List Rp} {x1:bB} {v2 v3:Value} {x4:bJ} (H:Sep w (Fo) rs) (hr5:rSl aF v2 x1.Nodes ∈ rs) (hr6:rSl aJ v3 x1.Turns ∈ rs) (hr7:xU Tryz.prog ∈ rs) {r:bB×cL} (hm:N2 x1 x4=some r) :
    Calls Tryz.prog 138 [.agg #[v2,v3],.agg (cH x4).toArray].toArray w (Ret fun v w'=>∃ y2 y3 y5,.tuple #[.agg #[y2,y3],.agg (L2 r.2 y5).toArray]=v∧Sep w' (Fo) (rSl aF y2 r.1.Nodes::rSl aJ y3 r.1.Turns::rSl kS y5 r.2.Names::rs)):=by
 unfold N2 at hm
 refine ent Tryz.func138 rfl Tryz.ntmps138 rfl rfl fun a E=>sq<|bS E H (wn rfl) rfl rfl rfl rfl rfl fun p8 w a H E=>bS E H (wn rfl) rfl rfl rfl rfl rfl fun p9 w a H E=>al E H rfl rfl rfl rfl jN fun p10 w a H E=>al E H rfl rfl rfl rfl Rd fun p11 w a H E=>nx<|sv E rfl rfl rfl (cI E rfl (E.evs rfl) (v:=.agg #[.nilFunc,.func (.func 193) #[] #[],.func (.func 194) #[] #[],.func (.func 195) #[] #[],.func (.func 196) #[] #[],.func (.func 197) #[] #[],.func (.func 198) #[] #[],.func (.func 199) #[] #[],.func (.func 200) #[] #[],.func (.func 201) #[] #[],.func (.func 202) #[] #[]]) (by kernel_rfl)) fun a E=>al E H rfl rfl rfl rfl Vf fun p12 w a H E=>?_
 refine aZ (i:=0) E H (wn rfl) rfl rfl rfl rfl rfl rfl Vg rfl rfl fun w H=>nt<|wp_seq<|aT (fun a w=>∃ b13 rs14,Env 54 a [(2,pt p8 0),(3,pt p9 0),(4,pt p10 0),(5,pt p11 0),(6,pt p12 0),(16,.bool b13)]∧Sep w (Blk p8 25 [v2,v3]::Blk p9 85 (cH x4)::Blk p10 25 [.slice none 0 0,.slice none 0 0]::Blk p11 81 L3::Blk p12 249 [.nilFunc,.func (.func 193) #[] #[],.func (.func 194) #[] #[],.func (.func 195) #[] #[],.func (.func 196) #[] #[],.func (.func 197) #[] #[],.func (.func 198) #[] #[],.func (.func 199) #[] #[],.func (.func 200) #[] #[],.func (.func 201) #[] #[],.func (.func 202) #[] #[]]::Fo) rs14∧(∀ r,r ∈ rs→r ∈ rs14)∧zD x1 x4 b13=some r) ?_ ?_
 ·refine wp_region_lit<|sv E rfl rfl rfl (cA (i:=4) (us:=[v2,v3]) E H rfl rfl rfl rfl U25 rfl dA) fun a E=>bd hm fun u92 hx93 hm=>xk E rfl rfl rfl rfl rfl Gu (yX H hr5 hr6 hx93) fun w H a E=>pr 2 E rfl fun a E=>cs hm (fun hb94 hm=>?_) fun hb94 hm=>?_
  ·exact pk 4 E (kc 12 rfl hb94) rfl fun a E=>nt<|have H:=H.frs [0,1,2,3,4] rfl;⟨_,_,E.to rfl,H,Y0,hm⟩
  ·refine aQ E (ws' (d:=12) E rfl rfl rfl rfl hb94) rfl rfl (cA (i:=3) (us:=(cH x4)) E H rfl rfl rfl rfl U85 rfl hP) fun a E=>bd hm fun u95 hx96 hm=>aU E (ws' (d:=12) E rfl rfl rfl rfl hb94) rfl rfl (cC E rfl rfl (Qh _)) (Ao H hx96)<|?_
   rintro _ w ⟨rfl,H⟩ a E
   exact pk 2 E (kc 12 rfl hb94) rfl fun a E=>nt<|have H:=H.frs [0,1,2,3,4] rfl;⟨_,_,E.to rfl,H,Y0,hm⟩
 ·clear E H hm
  rintro a w ⟨b13,rs14,E,H,hs15,hm⟩
  unfold zD at hm
  refine wif E hm rfl (fun hm=>?_) fun hm=>?_
  ·refine sq<|sv E rfl rfl rfl (cI E rfl (E.evs rfl) (v:=.agg #[.slice none 0 0,.slice none 0 0]) (by kernel_rfl)) fun a E=>sv E rfl rfl rfl (cI E rfl (E.evs rfl) (v:=.agg #[.int .i64 1,.string (ByteArray.mk #[]),.string (ByteArray.mk #[]),.int .i64 0,.slice none 0 0]) (by kernel_rfl)) fun a E=>aZ (i:=2) E H (wn rfl) rfl rfl rfl rfl rfl rfl dA rfl rfl fun w H=>aZ (i:=3) E H (wn rfl) rfl rfl rfl rfl rfl rfl zU rfl rfl fun w H=>nt<|wp_ret<|aP<|rJ E rfl (cV (i:=2) (us:=[.slice none 0 0,.slice none 0 0]) H rfl rfl rfl U25 rfl dA) (cV (i:=3) (us:=[.int .i64 1,.string (ByteArray.mk #[]),.string (ByteArray.mk #[]),.int .i64 0,.slice none 0 0]) H rfl rfl rfl U81 rfl zU)<|?_
   refine have H:=H.nilSl aF;have H:=H.nilSl aJ;have H:=H.nilSl kS;have H:=H.drs [0,0,0,0,0];?_
   cases hm
   exact X3 ⟨rfl,H.reads (aA mm2 (aA mm1 (aA m0 (fun r hr=>(t3 (hs15 r hr))))))⟩
  ·refine wp_skip<|aC<|wp_seq<|dw [(0,0),(1,0),(3,0),(4,0),(2,1),(5,1),(6,0),(7,0),(8,1),(9,2)] [0] [] H (by kernel_rfl) (fun _ _ _ h=>False.elim h.2) fun w W0 hI H=>fn 1 E rfl fun a E=>fb E rfl (wn rfl) rfl rfl rfl rfl m0 rfl U22 rfl fun a E=>fn 1 E rfl fun a E=>fb E rfl (wn rfl) rfl rfl rfl rfl m0 rfl U23 rfl fun a E=>bZ rfl<|?_
   refine bk hm fun hx18 hm=>aU E (wn rfl) rfl rfl (cC E rfl rfl (Re _)) (nE H (hs15 _ hr5) hx18) fun v16 w H a E=>nt<|?_
   refine ⟨⟨_,_,H,(aB mm1 (aL)),(aM)⟩,?_⟩
   refine bZ rfl<|bk hm fun hx21 hm=>aU E (wn rfl) rfl rfl (cC E rfl rfl (Rf _)) (nF H (hs15 _ hr6) hx21) fun v19 w H a E=>nt<|?_
   refine ⟨⟨_,_,H,(aB mm2 (aL)),(aM)⟩,?_⟩
   obtain ⟨q22,x23,rfl⟩:=H.rowform (i:=1) rfl
   obtain ⟨q24,x25,rfl⟩:=H.rowform (i:=0) rfl
   refine bW E rfl (wn rfl) rfl rfl (fun w hW=>(cI E rfl (E.evs rfl) (v:=.agg #[(.slice q22 x1.Nodes.length x23),(.slice q24 x1.Turns.length x25)]) (by kernel_rfl))) fun a E=>?_
   refine bW E rfl (wn rfl) rfl rfl (fun w hW=>(cI E rfl (E.evs rfl) (v:=.agg #[(.slice q22 x1.Nodes.length x23),(.slice q24 x1.Turns.length x25),.int .i64 0,.string (ByteArray.mk #[]),.string (ByteArray.mk #[]),.int .i64 0,.slice none 0 0]) (by kernel_rfl))) fun a E=>?_
   refine bZ rfl<|bS E H (wn rfl) rfl rfl rfl rfl rfl fun p26 w a H E=>nt<|?_
   refine ⟨⟨_,_,H,(aB mm3 (aL)),(aM)⟩,?_⟩
   refine bQ rfl<|pr 1 E rfl fun a E=>nt<|bR<|?_
   clear hI
   refine aC<|wp_seq<|aT (fun a w=>∃ v27 v29 v35 l28 l30 x31 s32 s33 x34 l36 rs37,Env 54 a [(2,pt p8 0),(4,pt p10 0),(5,pt p11 0),(7,pt p26 0)]∧Sep w (Blk p8 25 [v2,v3]::Blk p10 25 [.slice none 0 0,.slice none 0 0]::Blk p11 81 L3::Blk p26 251 [v27,v29,.int .i64 x31,.string s32,.string s33,.int .i64 x34,v35]::Row 95 aF v27 l28::Row 77 aJ v29 l30::Row 9 kS v35 l36::Fo) rs37∧(∀ r,r ∈ rs→r ∈ rs37)∧hY x1 l28 l30 x31 s32 s33 x34 l36=some r) ?_ ?_
   ·refine dw [(0,0),(1,0),(2,0),(3,0),(4,0),(5,0),(6,1)] [4,7] [] H (by kernel_rfl) (fun _ _ _ h=>False.elim h.2) fun w W0 hI H=>fn 1 E rfl fun a E=>fb E rfl (wn rfl) rfl rfl rfl rfl m0 rfl U3 rfl fun a E=>cs hm (fun hb88 hm=>?_) fun hb88 hm=>?_
    ·refine bW E rfl (wn rfl) rfl rfl (fun w hW=>nU (j:=1) E rfl rfl rfl hb88 rfl B2 d9) fun a E=>?_
     refine fb E rfl (wn rfl) rfl rfl rfl rfl mm1 rfl B3 rfl fun a E=>fn 1 E rfl fun a E=>fbn E (cH x4) rfl (wn rfl) rfl rfl rfl rfl m0 rfl U85 rfl hP fun a E=>bZ rfl<|have H:=H.nilRow 9 kS;have H:=H.frs [8,8,8,8,8,7,6,8,8] rfl;bd hm fun u89 hx90 hm=>aU E (wn rfl) rfl rfl (bP E rfl rfl rfl (We _)) (Q4 H hx90)<|?_
     rintro _ w ⟨v91,rfl,H⟩ a E
     refine nt<|?_
     refine ⟨⟨_,_,H,(aB mm5 (aB (t2 mm6) (aL))),(aM)⟩,?_⟩
     refine bR<|?_
     clear hI
     exact aC<|have H:=H.drs [5,7];have H:=H.frs [2,3,3,3,6,6,6] rfl;X11 ⟨E.to rfl,H,hs15,hm⟩
    ·refine cs hm (fun hb82 hm=>?_) fun hb82 hm=>?_
     ·refine bW E rfl (wn rfl) rfl rfl (fun w hW=>nU (j:=2) E rfl rfl rfl hb82 rfl B2 d9) fun a E=>?_
      refine fb E rfl (wn rfl) rfl rfl rfl rfl mm1 rfl B3 rfl fun a E=>fn 1 E rfl fun a E=>fbn E (cH x4) rfl (wn rfl) rfl rfl rfl rfl m0 rfl U85 rfl hP fun a E=>bZ rfl<|have H:=H.nilRow 9 kS;have H:=H.frs [8,8,8,8,8,5,7,8,8] rfl;bd hm fun u83 hx84 hm=>aU E (wn rfl) rfl rfl (bP E rfl rfl rfl (Vx _)) (As H (hs15 _ hr7) hx84)<|?_
      rintro _ w ⟨v85,v86,v87,rfl,H⟩ a E
      refine nt<|?_
      refine ⟨⟨_,_,H,(aB mm5 (aB (t2 mm6) (aL))),(aM)⟩,?_⟩
      refine bR<|?_
      clear hI
      exact aC<|have H:=H.drs [5,7];have H:=H.frs [3,3,3,3,6,6,6] rfl;X11 ⟨E.to rfl,H,hs15,hm⟩
     ·refine cs hm (fun hb77 hm=>?_) fun hb77 hm=>?_
      ·refine bW E rfl (wn rfl) rfl rfl (fun w hW=>nU (j:=3) E rfl rfl rfl hb77 rfl B2 d9) fun a E=>?_
       refine fb E rfl (wn rfl) rfl rfl rfl rfl mm1 rfl B3 rfl fun a E=>fn 1 E rfl fun a E=>fbn E (cH x4) rfl (wn rfl) rfl rfl rfl rfl m0 rfl U85 rfl hP fun a E=>bZ rfl<|have H:=H.nilRow 9 kS;have H:=H.frs [8,8,8,8,8,7,6,8,8] rfl;bd hm fun u78 hx79 hm=>aU E (wn rfl) rfl rfl (bP E rfl rfl rfl (Vv _)) (N1 H hx79)<|?_
       rintro _ w ⟨v80,v81,rfl,H⟩ a E
       refine nt<|?_
       refine ⟨⟨_,_,H,(aB mm5 (aB (t2 mm6) (aL))),(aM)⟩,?_⟩
       refine bR<|?_
       clear hI
       exact aC<|have H:=H.drs [5,7];have H:=H.frs [2,3,3,3,6,6,6] rfl;X11 ⟨E.to rfl,H,hs15,hm⟩
      ·refine cs hm (fun hb72 hm=>?_) fun hb72 hm=>?_
       ·refine bW E rfl (wn rfl) rfl rfl (fun w hW=>nU (j:=4) E rfl rfl rfl hb72 rfl B2 d9) fun a E=>?_
        refine fb E rfl (wn rfl) rfl rfl rfl rfl mm1 rfl B3 rfl fun a E=>fn 1 E rfl fun a E=>fbn E (cH x4) rfl (wn rfl) rfl rfl rfl rfl m0 rfl U85 rfl hP fun a E=>bZ rfl<|have H:=H.nilRow 9 kS;have H:=H.frs [8,8,8,8,8,5,7,8,8] rfl;bd hm fun u73 hx74 hm=>aU E (wn rfl) rfl rfl (bP E rfl rfl rfl (Vt _)) (Q3 H hx74)<|?_
        rintro _ w ⟨v75,v76,rfl,H⟩ a E
        refine nt<|?_
        refine ⟨⟨_,_,H,(aB mm5 (aB (t2 mm6) (aL))),(aM)⟩,?_⟩
        refine bR<|?_
        clear hI
        exact aC<|have H:=H.drs [5,7];have H:=H.frs [3,3,3,3,6,6,6] rfl;X11 ⟨E.to rfl,H,hs15,hm⟩
       ·refine cs hm (fun hb68 hm=>?_) fun hb68 hm=>?_
        ·refine bW E rfl (wn rfl) rfl rfl (fun w hW=>nU (j:=5) E rfl rfl rfl hb68 rfl B2 d9) fun a E=>?_
         refine fb E rfl (wn rfl) rfl rfl rfl rfl mm1 rfl B3 rfl fun a E=>fn 1 E rfl fun a E=>fbn E (cH x4) rfl (wn rfl) rfl rfl rfl rfl m0 rfl U85 rfl hP fun a E=>bZ rfl<|have H:=H.nilRow 9 kS;have H:=H.frs [8,8,8,8,8,7,6,8,8] rfl;bd hm fun u69 hx70 hm=>aU E (wn rfl) rfl rfl (bP E rfl rfl rfl (Vs _)) (Q1 H hx70)<|?_
         rintro _ w ⟨v71,rfl,H⟩ a E
         refine nt<|?_
         refine ⟨⟨_,_,H,(aB mm5 (aB (t2 mm6) (aL))),(aM)⟩,?_⟩
         refine bR<|?_
         clear hI
         exact aC<|have H:=H.drs [5,7];have H:=H.frs [2,3,3,3,6,6,6] rfl;X11 ⟨E.to rfl,H,hs15,hm⟩
        ·refine cs hm (fun hb64 hm=>?_) fun hb64 hm=>?_
         ·refine bW E rfl (wn rfl) rfl rfl (fun w hW=>nU (j:=6) E rfl rfl rfl hb64 rfl B2 d9) fun a E=>?_
          refine fb E rfl (wn rfl) rfl rfl rfl rfl mm1 rfl B3 rfl fun a E=>fn 1 E rfl fun a E=>fbn E (cH x4) rfl (wn rfl) rfl rfl rfl rfl m0 rfl U85 rfl hP fun a E=>bZ rfl<|have H:=H.nilRow 9 kS;have H:=H.frs [8,8,8,8,8,7,6,8,8] rfl;bd hm fun u65 hx66 hm=>aU E (wn rfl) rfl rfl (bP E rfl rfl rfl (Vr _)) (W2 H hx66)<|?_
          rintro _ w ⟨v67,rfl,H⟩ a E
          refine nt<|?_
          refine ⟨⟨_,_,H,(aB mm5 (aB (t2 mm6) (aL))),(aM)⟩,?_⟩
          refine bR<|?_
          clear hI
          exact aC<|have H:=H.drs [5,7];have H:=H.frs [2,3,3,3,6,6,6] rfl;X11 ⟨E.to rfl,H,hs15,hm⟩
         ·refine cs hm (fun hb60 hm=>?_) fun hb60 hm=>?_
          ·refine bW E rfl (wn rfl) rfl rfl (fun w hW=>nU (j:=7) E rfl rfl rfl hb60 rfl B2 d9) fun a E=>?_
           refine fb E rfl (wn rfl) rfl rfl rfl rfl mm1 rfl B3 rfl fun a E=>fn 1 E rfl fun a E=>fbn E (cH x4) rfl (wn rfl) rfl rfl rfl rfl m0 rfl U85 rfl hP fun a E=>bZ rfl<|have H:=H.nilRow 9 kS;have H:=H.frs [8,8,8,8,8,7,6,8,8] rfl;bd hm fun u61 hx62 hm=>aU E (wn rfl) rfl rfl (bP E rfl rfl rfl (Vq _)) (W3 H hx62)<|?_
           rintro _ w ⟨v63,rfl,H⟩ a E
           refine nt<|?_
           refine ⟨⟨_,_,H,(aB mm5 (aB (t2 mm6) (aL))),(aM)⟩,?_⟩
           refine bR<|?_
           clear hI
           exact aC<|have H:=H.drs [5,7];have H:=H.frs [2,3,3,3,6,6,6] rfl;X11 ⟨E.to rfl,H,hs15,hm⟩
          ·refine cs hm (fun hb56 hm=>?_) fun hb56 hm=>?_
           ·refine bW E rfl (wn rfl) rfl rfl (fun w hW=>nU (j:=8) E rfl rfl rfl hb56 rfl B2 d9) fun a E=>?_
            refine fb E rfl (wn rfl) rfl rfl rfl rfl mm1 rfl B3 rfl fun a E=>fn 1 E rfl fun a E=>fbn E (cH x4) rfl (wn rfl) rfl rfl rfl rfl m0 rfl U85 rfl hP fun a E=>bZ rfl<|have H:=H.nilRow 9 kS;have H:=H.frs [8,8,8,8,8,7,6,8,8] rfl;bd hm fun u57 hx58 hm=>aU E (wn rfl) rfl rfl (bP E rfl rfl rfl (Vn _)) (Aq H hx58)<|?_
            rintro _ w ⟨v59,rfl,H⟩ a E
            refine nt<|?_
            refine ⟨⟨_,_,H,(aB mm5 (aB (t2 mm6) (aL))),(aM)⟩,?_⟩
            refine bR<|?_
            clear hI
            exact aC<|have H:=H.drs [5,7];have H:=H.frs [2,3,3,3,6,6,6] rfl;X11 ⟨E.to rfl,H,hs15,hm⟩
           ·refine cs hm (fun hb52 hm=>?_) fun hb52 hm=>?_
            ·refine bW E rfl (wn rfl) rfl rfl (fun w hW=>nU (j:=9) E rfl rfl rfl hb52 rfl B2 d9) fun a E=>?_
             refine fb E rfl (wn rfl) rfl rfl rfl rfl mm1 rfl B3 rfl fun a E=>fn 1 E rfl fun a E=>fbn E (cH x4) rfl (wn rfl) rfl rfl rfl rfl m0 rfl U85 rfl hP fun a E=>bZ rfl<|have H:=H.nilRow 9 kS;have H:=H.frs [8,8,8,8,8,7,6,8,8] rfl;bd hm fun u53 hx54 hm=>aU E (wn rfl) rfl rfl (bP E rfl rfl rfl (Vm _)) (Q5 H hx54)<|?_
             rintro _ w ⟨v55,rfl,H⟩ a E
             refine nt<|?_
             refine ⟨⟨_,_,H,(aB mm5 (aB (t2 mm6) (aL))),(aM)⟩,?_⟩
             refine bR<|?_
             clear hI
             exact aC<|have H:=H.drs [5,7];have H:=H.frs [2,3,3,3,6,6,6] rfl;X11 ⟨E.to rfl,H,hs15,hm⟩
            ·refine cs hm (fun hb47 hm=>?_) fun hb47 hm=>?_
             ·refine bW E rfl (wn rfl) rfl rfl (fun w hW=>nU (j:=10) E rfl rfl rfl hb47 rfl B2 d9) fun a E=>?_
              refine fb E rfl (wn rfl) rfl rfl rfl rfl mm1 rfl B3 rfl fun a E=>fn 1 E rfl fun a E=>fbn E (cH x4) rfl (wn rfl) rfl rfl rfl rfl m0 rfl U85 rfl hP fun a E=>bZ rfl<|have H:=H.nilRow 9 kS;have H:=H.frs [8,8,8,8,8,7,6,8,8] rfl;bd hm fun u48 hx49 hm=>aU E (wn rfl) rfl rfl (bP E rfl rfl rfl (Vh _)) (Q2 H hx49)<|?_
              rintro _ w ⟨v50,v51,rfl,H⟩ a E
              refine nt<|?_
              refine ⟨⟨_,_,H,(aB mm5 (aB (t2 mm6) (aL))),(aM)⟩,?_⟩
              refine bR<|?_
              clear hI
              exact aC<|have H:=H.drs [5,7];have H:=H.frs [2,3,3,3,6,6,6] rfl;X11 ⟨E.to rfl,H,hs15,hm⟩
             ·exact (bT hm rfl).elim
   ·clear E H hm
    rintro a w ⟨v27,v29,v35,l28,l30,x31,s32,s33,x34,l36,rs37,E,H,hs38,hm⟩
    unfold hY at hm
    refine sq<|pr 4 E rfl fun a E=>lb E H 3 rfl rfl rfl rfl rfl rfl rfl U41 rfl fun a E=>pr 1 E rfl fun a E=>nt<|wif E hm rfl (fun hm=>?_) fun hm=>?_
    ·refine wp_seq<|dw [(0,0),(1,0),(2,0),(3,0),(4,0),(5,1),(6,2)] [0,3] [] H (by kernel_rfl) (fun _ _ _ h=>False.elim h.2) fun w W0 hI H=>fbn E [v2,v3] rfl (wn rfl) rfl rfl rfl rfl m0 rfl U25 rfl dA fun a E=>fn 3 E rfl fun a E=>fbn E [.int .i64 x31,.string s32,.string s33,.int .i64 x34,v35] rfl (wn rfl) rfl rfl rfl rfl mm1 rfl U81 rfl zU fun a E=>bZ rfl<|aZ (i:=1) E H (wn rfl) rfl rfl rfl rfl rfl rfl dA rfl (jK H (hs38 _ hr5) (hs38 _ hr6)) fun w H=>nt<|?_
     refine ⟨⟨_,_,H,(aB m0 (aB mm3 (aL))),(aM)⟩,?_⟩
     refine bQ rfl<|?_
     obtain ⟨q39,x40,rfl⟩:=H.rowform (i:=6) rfl
     refine aZ (i:=2) E H (wn rfl) rfl rfl rfl rfl rfl rfl zU rfl rfl fun w H=>nt<|bR<|?_
     clear hI
     refine aC<|wp_ret<|aP<|rJ E rfl (cV (i:=1) (us:=[v2,v3]) H rfl rfl rfl U25 rfl dA) (cV (i:=2) (us:=[.int .i64 x31,.string s32,.string s33,.int .i64 x34,(.slice q39 l36.length x40)]) H rfl rfl rfl U81 rfl zU)<|have H:=H.thaw (i:=6) rfl;have H:=H.drs [0,0,0,0,0,0];?_
     cases hm
     exact X3 ⟨rfl,H.reads (aA (t1 (hs38 _ hr5)) (aA (t1 (hs38 _ hr6)) (aA m0 (fun r hr=>(t1 (hs38 r hr))))))⟩
    ·refine wp_skip<|aC<|wp_seq<|dw [(0,0),(1,0),(2,0),(3,0),(4,0),(5,0),(6,0),(7,0),(8,1),(9,2)] [3] [] H (by kernel_rfl) (fun _ _ _ h=>False.elim h.2) fun w W0 hI H=>fn 3 E rfl fun a E=>fbn E [v27,v29] rfl (wn rfl) rfl rfl rfl rfl m0 rfl U25 rfl dA fun a E=>fn 3 E rfl fun a E=>fbn E [.int .i64 x31,.string s32,.string s33,.int .i64 x34,v35] rfl (wn rfl) rfl rfl rfl rfl m0 rfl U81 rfl zU fun a E=>bZ rfl<|?_
     obtain ⟨q41,x42,rfl⟩:=H.rowform (i:=4) rfl
     obtain ⟨q43,x44,rfl⟩:=H.rowform (i:=5) rfl
     refine aZ (i:=1) E H (wn rfl) rfl rfl rfl rfl rfl rfl dA rfl rfl fun w H=>nt<|?_
     refine ⟨⟨_,_,H,(aB mm3 (aL)),(aM)⟩,?_⟩
     refine bQ rfl<|?_
     obtain ⟨q45,x46,rfl⟩:=H.rowform (i:=6) rfl
     refine aZ (i:=2) E H (wn rfl) rfl rfl rfl rfl rfl rfl zU rfl rfl fun w H=>nt<|bR<|?_
     clear hI
     refine aC<|wp_ret<|rJ E rfl (cV (i:=1) (us:=[(.slice q41 l28.length x42),(.slice q43 l30.length x44)]) H rfl rfl rfl U25 rfl dA) (cV (i:=2) (us:=[.int .i64 x31,.string s32,.string s33,.int .i64 x34,(.slice q45 l36.length x46)]) H rfl rfl rfl U81 rfl zU)<|have H:=H.thaw (i:=4) rfl;have H:=H.thaw (i:=4) rfl;have H:=H.thaw (i:=4) rfl;have H:=H.drs [0,0,0,0];?_
     cases hm
     exact X3 ⟨rfl,H.reads (aA mm2 (aA mm1 (aA m0 (fun r hr=>(t3 (hs38 r hr))))))⟩

def wC (l5:List cF) (x1:bB):Nat→(List cL)→Int→(List aE)→(List aI)→Option (bB×(List cL)×Int×Int)
  | 0,_,_,_,_=>none
  | k1+1,l14,x15,l17,l19=>
    if (decide (x15 < (l5.length:Int)))=true then ((idx l5 x15).bind fun x24=>(N2 (⟨l17,l19⟩:bB) x24.Part).bind fun u28=>if (u28.2.Err != 0)=true then (some (x1,[],u28.2.Err,x15)) else ((ck (l14.length+([u28.2]:List cL).length ≤ LIM)).bind fun u39=>wC l5 x1 k1 (l14 ++ ([u28.2]:List cL)) (IntKind.i64.wrap (x15+1)) u28.1.Nodes u28.1.Turns)) else (some ((⟨l17,l19⟩:bB),l14,0,0))
def g9 (x1:bB) (l5:List cF):Option (bB×(List cL)×Int×Int):=
  wC l5 x1 (((l5.length:Int) - 0:Int).toNat+1) [] 0 x1.Nodes x1.Turns
theorem C7 {w:World} {Fo:List Ob} {rs:List Rp} {x1:bB} {v2 v3 v4:Value} {l5:List cF} (H:Sep w (Fo) rs) (hr6:rSl aF v2 x1.Nodes ∈ rs) (hr7:rSl aJ v3 x1.Turns ∈ rs) (hr8:rSl cE v4 l5 ∈ rs) (hr9:xU Tryz.prog ∈ rs) {r:bB×(List cL)×Int×Int} (hm:g9 x1 l5=some r) :
    Calls Tryz.prog 72 [.agg #[v2,v3],v4].toArray w (Ret fun v w'=>∃ y2 y3 y4,.tuple #[.agg #[y2,y3],y4,.int .i64 r.2.2.1,.int .i64 r.2.2.2]=v∧Sep w' (Row 81 bE y4 r.2.1::Fo) (rSl aF y2 r.1.Nodes::rSl aJ y3 r.1.Turns::rs)):=by
 unfold g9 at hm
 refine ent Tryz.func72 rfl Tryz.ntmps72 rfl rfl fun a E=>sq<|bS E H (wn rfl) rfl rfl rfl rfl rfl fun p10 w a H E=>al E H rfl rfl rfl rfl jN fun p11 w a H E=>pr 3 E rfl fun a E=>nx<|sv E rfl rfl rfl (cA (i:=1) (us:=[v2,v3]) E H rfl rfl rfl rfl U25 rfl dA) fun a E=>al E H rfl rfl rfl rfl jN fun p12 w a H E=>aZ (i:=0) E H (wn rfl) rfl rfl rfl rfl rfl rfl dA rfl (jK H hr6 hr7) fun w H=>?_
 refine nx<|pr 1 E rfl fun a E=>nt<|wp_seq<|sq<|pr 1 E rfl fun a E=>sv E rfl rfl rfl (cR E H rfl rfl hr8 U26) fun a E=>pr 1 E rfl fun a E=>nt<|?_
 refine wp_block<|bX (fun k1 a w=>∃ v13 v16 v18 l14 x15 l17 l19 rs20,Env 44 a [(2,pt p10 0),(4,pt p11 0),(8,pt p12 0),(9,v13),(15,v4),(16,.int .i64 (l5.length:Int)),(17,.int .i64 x15)]∧Sep w (Blk p10 25 [v2,v3]::Blk p11 25 [.slice none 0 0,.slice none 0 0]::Blk p12 25 [v16,v18]::Row 81 bE v13 l14::Fo) rs20∧(∀ r,r ∈ rs→r ∈ rs20)∧rSl aF v16 l17 ∈ rs20∧rSl aJ v18 l19 ∈ rs20∧wC l5 x1 k1 l14 x15 l17 l19=some r) (((l5.length:Int) - 0:Int).toNat+1) ?_ ?_
 ·exact have H:=H.nilRow 81 bE;have H:=H.frs [0,1,2,3] rfl;X8 ⟨E.to rfl,H,Y0,hr6,hr7,hm⟩
 ·clear E H hm
  rintro k1 a w ⟨v13,v16,v18,l14,x15,l17,l19,rs20,E,H,hs21,hr22,hr23,hm⟩
  cases k1 with
  | zero=>exact (bT hm rfl).elim
  | succ k1=>
   unfold wC at hm
   refine sq<|pr 1 E rfl fun a E=>nt<|wp_seq<|wif E hm rfl (fun hm=>?_) fun hm=>?_
   ·refine wp_skip<|aC<|wp_seq<|wp_block<|sq<|pr 1 E rfl fun a E=>bd hm fun x24 hx25 hm=>dE E H (wn rfl) rfl rfl rfl rfl rfl (hs21 _ hr8) U26 j7 hx25 fun q26 a H E=>ldf sJ E H rfl rfl rfl rfl rfl m0 U87 rfl j7 fun a E=>?_
    refine al E H rfl rfl rfl rfl Hc fun p27 w a H E=>pr 1 E rfl fun a E=>aZ (i:=0) E H (wn rfl) rfl rfl rfl rfl rfl rfl j7 rfl rfl fun w H=>nx<|sv E rfl rfl rfl (cA (i:=3) (us:=[v16,v18]) E H rfl rfl rfl rfl U25 rfl dA) fun a E=>pr 1 E rfl fun a E=>sv E rfl rfl rfl (cA (i:=0) (us:=(cH x24.Part)) E H rfl rfl rfl rfl U85 rfl hP) fun a E=>bd hm fun u28 hx29 hm=>cG E rfl rfl rfl rfl rfl Ve (Jq (x1:=(⟨l17,l19⟩:bB)) H (t1 hr22) (t1 hr23) (t1 (hs21 _ hr9)) hx29)<|?_
    rintro _ w ⟨v30,v31,v32,rfl,H⟩ a E
    refine pr 3 E rfl fun a E=>al E H rfl rfl rfl rfl jN fun p33 w a H E=>al E H rfl rfl rfl rfl Rd fun p34 w a H E=>aZ (i:=1) E H (wn rfl) rfl rfl rfl rfl rfl rfl dA rfl (jK H m0 mm1) fun w H=>aZ (i:=0) E H (wn rfl) rfl rfl rfl rfl rfl rfl zU rfl (Bc H mm2) fun w H=>nt<|wp_seq<|sq<|pr 1 E rfl fun a E=>?_
    refine lb E H 0 rfl rfl rfl rfl rfl rfl rfl U41 rfl fun a E=>pr 1 E rfl fun a E=>nt<|wif E hm rfl (fun hm=>?_) fun hm=>?_
    ·refine wp_seq<|dw [(0,0),(1,0),(2,0),(3,0),(4,1),(5,1),(6,1),(7,2)] [0,3] [] H (by kernel_rfl) (fun _ _ _ h=>False.elim h.2) fun w W0 hI H=>fbn E [v2,v3] rfl (wn rfl) rfl rfl rfl rfl mm1 rfl U25 rfl dA fun a E=>fn 1 E rfl fun a E=>fb E rfl (wn rfl) rfl rfl rfl rfl m0 rfl U41 rfl fun a E=>fn 1 E rfl fun a E=>bZ rfl<|aZ (i:=4) E H (wn rfl) rfl rfl rfl rfl rfl rfl dA rfl (jK H (t4 (hs21 _ hr6)) (t4 (hs21 _ hr7))) fun w H=>nt<|?_
     refine ⟨⟨_,_,H,(aB m0 (aB mm3 (aL))),(aM)⟩,?_⟩
     refine bZ rfl<|pr 1 E rfl fun a E=>nt<|?_
     refine ⟨⟨_,_,H,(aB m0 (aB mm3 (aL))),(aM)⟩,?_⟩
     refine bZ rfl<|pr 1 E rfl fun a E=>nt<|?_
     refine ⟨⟨_,_,H,(aB m0 (aB mm3 (aL))),(aM)⟩,?_⟩
     refine bQ rfl<|pr 1 E rfl fun a E=>nt<|bR<|?_
     clear hI
     refine aC<|wp_ret<|aP<|bV<|aP<|aP<|bV<|aP<|Lk E rfl (cV (i:=4) (us:=[v2,v3]) H rfl rfl rfl U25 rfl dA) (rvT rfl) (rvT rfl) (rvT rfl)<|?_
     refine have H:=H.nilRow 81 bE;have H:=H.drs [1,1,1,1,1,1,1];?_
     cases hm
     exact X3 ⟨rfl,H.reads (aA (t4 (hs21 _ hr6)) (aA (t4 (hs21 _ hr7)) (fun r hr=>(t4 (hs21 r hr)))))⟩
    ·refine wp_skip<|aC<|sq<|sv E rfl rfl rfl (cA (i:=1) (us:=[v30,v31]) E H rfl rfl rfl rfl U25 rfl dA) fun a E=>aZ (i:=5) E H (wn rfl) rfl rfl rfl rfl rfl rfl dA rfl (jK H m0 mm1) fun w H=>nt<|wp_region_lit<|pr 1 E rfl fun a E=>sv E rfl rfl rfl (cA (i:=0) (us:=(L2 u28.2 v32)) E H rfl rfl rfl rfl U81 rfl zU) fun a E=>?_
     obtain ⟨q35,x36,rfl⟩:=H.slform mm2
     refine pI (e:=81) (d:=bE) (cs:=[.int .i64 u28.2.Err,.string u28.2.Path,.string u28.2.Data,.int .i64 u28.2.Version,(.slice q35 u28.2.Names.length x36)]) (xs:=[u28.2]) E H (wn rfl) rfl rfl rfl (E.evs rfl) (by kernel_rfl) rfl (fun ok hr=>(Rows.single (d:=bE) (cs:=[.int .i64 u28.2.Err,.string u28.2.Path,.string u28.2.Data,.int .i64 u28.2.Version,(.slice q35 u28.2.Names.length x36)]) (x:=u28.2) (Z9 (hr _ mm2)))) fun v37 w a H E=>bk hm fun hx40 hm=>dV (i:=6) E H (wn rfl) rfl rfl rfl rfl rfl rfl (jA m0) U40 Wf rfl hx40 rfl fun v38 w a H E=>pr 1 E rfl fun a E=>wpList_nil<|bY<|aC<|wp_region_lit<|pr 2 E rfl fun a E=>?_
     exact nt<|have H:=H.drs [0,0,0];⟨k1,Nat.lt_succ_self k1,X8 ⟨E.to rfl,H,(Y5 hs21),mm1,mm2,hm⟩⟩
   ·refine wp_exit<|bH<|bH<|dG<|aC<|sq<|sv E rfl rfl rfl (cA (i:=2) (us:=[v16,v18]) E H rfl rfl rfl rfl U25 rfl dA) fun a E=>pr 1 E rfl fun a E=>aZ (i:=1) E H (wn rfl) rfl rfl rfl rfl rfl rfl dA rfl (jK H hr22 hr23) fun w H=>?_
    refine pr 3 E rfl fun a E=>nt<|wp_ret<|Lk E rfl (cV (i:=1) (us:=[v16,v18]) H rfl rfl rfl U25 rfl dA) (rvT rfl) (rvT rfl) (rvT rfl)<|have H:=H.drs [0,0,0];?_
    cases hm
    exact X3 ⟨rfl,H.reads (aA hr22 (aA hr23 (hs21)))⟩

def rN (x1:Int):Option Bool:=
  some (x1 != x1)
theorem m6 {w:World} {Fo:List Ob} {rs:List Rp} {x1:Int} (H:Sep w (Fo) rs) {r:Bool} (hm:rN x1=some r) :
    Calls Tryz.prog 284 [.int .i64 x1].toArray w (Ret fun v w'=>.bool r=v∧Sep w' (Fo) (rs)):=by
 unfold rN at hm
 refine ent Tryz.func284 rfl Tryz.ntmps284 rfl rfl fun a E=>sq<|pr 1 E rfl fun a E=>nx<|pr 4 E rfl fun a E=>nt<|wp_ret<|aY E rfl rfl<|?_
 cases hm
 exact ⟨rfl,H.reads Y0⟩

def tV (x1:Int) (x2:Int):Option Int:=
  (rN x1).bind fun u3=>(rN x2).bind fun u5=>if u3=true then (if u5=true then (some (0)) else (some ((-1)))) else (if u5=true then (some (1)) else (if (decide (x1 < x2))=true then (some ((-1))) else (if (decide (x1 > x2))=true then (some (1)) else (some (0)))))
theorem J9 {w:World} {Fo:List Ob} {rs:List Rp} {x1 x2:Int} (H:Sep w (Fo) rs) {r:Int} (hm:tV x1 x2=some r) :
    Calls Tryz.prog 232 [.int .i64 x1,.int .i64 x2].toArray w (Ret fun v w'=>.int .i64 r=v∧Sep w' (Fo) (rs)):=by
 unfold tV at hm
 refine ent Tryz.func232 rfl Tryz.ntmps232 rfl rfl fun a E=>sq<|pr 1 E rfl fun a E=>nx<|pr 1 E rfl fun a E=>bd hm fun u3 hx4 hm=>xk E rfl rfl rfl rfl rfl Lr (m6 H hx4) fun w H a E=>pr 1 E rfl fun a E=>nx<|?_
 refine pr 1 E rfl fun a E=>bd hm fun u5 hx6 hm=>xk E rfl rfl rfl rfl rfl Lr (m6 H hx6) fun w H a E=>pr 1 E rfl fun a E=>nt<|wp_seq<|sq<|pr 1 E rfl fun a E=>nt<|wif E hm rfl (fun hm=>?_) fun hm=>?_
 ·refine wp_seq<|sq<|pr 1 E rfl fun a E=>nt<|wif E hm rfl (fun hm=>?_) fun hm=>?_
  ·refine sq<|pr 1 E rfl fun a E=>nt<|wp_ret<|aP<|aP<|aY E rfl rfl<|?_
   cases hm
   exact ⟨rfl,H.reads Y0⟩
  ·refine wp_skip<|aC<|sq<|pr 1 E rfl fun a E=>nt<|wp_ret<|aP<|aY E rfl rfl<|?_
   cases hm
   exact ⟨rfl,H.reads Y0⟩
 ·refine wp_skip<|aC<|wp_seq<|sq<|pr 1 E rfl fun a E=>nt<|wif E hm rfl (fun hm=>?_) fun hm=>?_
  ·refine sq<|pr 1 E rfl fun a E=>nt<|wp_ret<|aP<|aY E rfl rfl<|?_
   cases hm
   exact ⟨rfl,H.reads Y0⟩
  ·refine wp_skip<|aC<|wp_seq<|sq<|pr 3 E rfl fun a E=>nt<|wif E hm rfl (fun hm=>?_) fun hm=>?_
   ·refine sq<|pr 1 E rfl fun a E=>nt<|wp_ret<|aP<|aY E rfl rfl<|?_
    cases hm
    exact ⟨rfl,H.reads Y0⟩
   ·refine wp_skip<|aC<|wp_seq<|sq<|pr 3 E rfl fun a E=>nt<|wif E hm rfl (fun hm=>?_) fun hm=>?_
    ·refine sq<|pr 1 E rfl fun a E=>nt<|wp_ret<|aP<|aY E rfl rfl<|?_
     cases hm
     exact ⟨rfl,H.reads Y0⟩
    ·refine wp_skip<|aC<|sq<|pr 1 E rfl fun a E=>nt<|wp_ret<|aY E rfl rfl<|?_
     cases hm
     exact ⟨rfl,H.reads Y0⟩

def wD (x1:aD) (x3:Int):Option Int:=
  (tV x1.Num x3).bind fun u6=>some (u6)
theorem n3 {w:World} {Fo:List Ob} {rs:List Rp} {x1:aD} {v2:Value} {x3:Int} (H:Sep w (Fo) rs) {r:Int} (hm:wD x1 x3=some r) :
    Calls Tryz.prog 164 [.agg (kT x1 v2).toArray,.int .i64 x3].toArray w (Ret fun v w'=>.int .i64 r=v∧Sep w' (Fo) (rs)):=by
 unfold wD at hm
 refine ent Tryz.func164 rfl Tryz.ntmps164 rfl rfl fun a E=>sq<|bS E H (wn rfl) rfl rfl rfl rfl rfl fun p5 w a H E=>pr 1 E rfl fun a E=>nx<|pr 1 E rfl fun a E=>lb E H 0 rfl rfl rfl rfl rfl rfl rfl U2 rfl fun a E=>pr 1 E rfl fun a E=>bd hm fun u6 hx7 hm=>?_
 refine xk E rfl rfl rfl rfl rfl Uu (J9 H hx7) fun w H a E=>pr 1 E rfl fun a E=>nt<|wp_ret<|aY E rfl rfl<|have H:=H.drop 0;?_
 cases hm
 exact ⟨rfl,H.reads Y0⟩

def cT (l2:List aD) (x3:Int):Nat→Int→Int→Option (Int×Bool)
  | 0,_,_=>none
  | k1+1,x4,x5=>
    if (decide (x4 < x5))=true then ((idx l2 (IntKind.i64.wrap (pH .u64 (IntKind.u64.wrap (IntKind.i64.wrap (x4+x5))) 1))).bind fun x8=>(wD x8 x3).bind fun u15=>if (decide (u15 < 0))=true then (cT l2 x3 k1 (IntKind.i64.wrap ((IntKind.i64.wrap (pH .u64 (IntKind.u64.wrap (IntKind.i64.wrap (x4+x5))) 1))+1)) x5) else (cT l2 x3 k1 x4 (IntKind.i64.wrap (pH .u64 (IntKind.u64.wrap (IntKind.i64.wrap (x4+x5))) 1)))) else (if (decide (x4 < (l2.length:Int)))=true then ((idx l2 x4).bind fun x18=>(wD x18 x3).bind fun u25=>some (x4,u25 == 0)) else (some (x4,false)))
def eB (l2:List aD) (x3:Int):Option (Int×Bool):=
  cT l2 x3 (((l2.length:Int) - 0:Int).toNat+1) 0 (l2.length:Int)
theorem mT {w:World} {Fo:List Ob} {rs:List Rp} {v1:Value} {l2:List aD} {x3:Int} (H:Sep w (Row 215 aO v1 l2::Fo) rs) {r:Int×Bool} (hm:eB l2 x3=some r) :
    Calls Tryz.prog 163 [v1,.int .i64 x3,.func (.func 164) #[] #[]].toArray w (Ret fun v w'=>.tuple #[.int .i64 r.1,.bool r.2]=v∧Sep w' (Row 215 aO v1 l2::Fo) (rs)):=by
 unfold eB at hm
 refine ent Tryz.func163 rfl Tryz.ntmps163 rfl rfl fun a E=>sq<|pr 2 E rfl fun a E=>nx<|pr 1 E rfl fun a E=>sv E rfl rfl rfl (iZ (i:=0) E H rfl rfl rfl U71) fun a E=>pr 1 E rfl fun a E=>nx<|pr 3 E rfl fun a E=>?_
 refine nt<|wp_seq<|wp_block<|bX (fun k1 a w=>∃ x4 x5 rs6,Env 49 a [(0,v1),(1,.int .i64 x3),(2,.func (.func 164) #[] #[]),(8,.int .i64 (l2.length:Int)),(9,.int .i64 x4),(10,.int .i64 x5)]∧Sep w (Row 215 aO v1 l2::Fo) rs6∧(∀ r,r ∈ rs→r ∈ rs6)∧cT l2 x3 k1 x4 x5=some r) (((l2.length:Int) - 0:Int).toNat+1) ?_ ?_
 ·exact X3 ⟨E.to rfl,H,Y0,hm⟩
 ·clear E H hm
  rintro k1 a w ⟨x4,x5,rs6,E,H,hs7,hm⟩
  cases k1 with
  | zero=>exact (bT hm rfl).elim
  | succ k1=>
   unfold cT at hm
   refine wp_seq<|sq<|pr 3 E rfl fun a E=>nt<|wif E hm rfl (fun hm=>?_) fun hm=>?_
   ·refine wp_skip<|aC<|wp_block<|sq<|pr 4 E rfl fun a E=>sv E rfl rfl rfl (F7 E rfl rfl rfl (by decide)) fun a E=>pr 2 E rfl fun a E=>nx<|pr 3 E rfl fun a E=>?_
    refine bd hm fun x8 hx9 hm=>?_
    obtain ⟨p10,x11,hx12⟩:=H.rowformNE (i:=0) rfl hx9
    refine sv E rfl rfl rfl (cY (d:=aO) E hx12 rfl rfl rfl rfl U71 rL hx9) fun a E=>Z4 (i:=0) (k:=0) (s:=3) E H hx12 (wn rfl) rfl rfl rfl rfl rfl hx9 rfl Be rfl rL fun u13 a H E=>?_
    obtain ⟨_,hcs⟩:=H.rd (.head _)
    obtain ⟨v14,rfl,-⟩:=dF hcs
    clear hcs
    refine have H:=H.derive1 m0 (rSl aV v14 x8.Events) (fun ok h=>gA h);?_
    replace E:Env 49 a ((28,.agg (kT x8 v14).toArray)::_):=E
    refine pr 1 E rfl fun a E=>bd hm fun u15 hx16 hm=>aU E (wn rfl) rfl rfl (bP E rfl rfl rfl (Cy _)) (n3 H hx16)<|?_
    rintro _ w ⟨rfl,H⟩ a E
    refine pr 1 E rfl fun a E=>nt<|wif E hm rfl (fun hm=>?_) fun hm=>?_
    ·exact wp_region_lit<|pr 3 E rfl fun a E=>wpList_nil<|bY<|aC<|⟨k1,Nat.lt_succ_self k1,X3 ⟨E.to rfl,H,(Y2 hs7),hm⟩⟩
    ·exact wp_region_lit<|pr 2 E rfl fun a E=>wpList_nil<|bY<|aC<|⟨k1,Nat.lt_succ_self k1,X3 ⟨E.to rfl,H,(Y2 hs7),hm⟩⟩
   ·refine wp_exit<|bH<|bH<|dG<|aC<|sq<|pr 5 E rfl fun a E=>cs hm (fun hb17 hm=>?_) fun hb17 hm=>?_
    ·refine pk 3 E (kc 39 rfl hb17) rfl fun a E=>bd hm fun x18 hx19 hm=>?_
     obtain ⟨p20,x21,hx22⟩:=H.rowformNE (i:=0) rfl hx19
     refine aQ E (ws' (d:=39) E rfl rfl rfl rfl hb17) rfl rfl (cY (d:=aO) E hx22 rfl rfl rfl rfl U71 rL hx19) fun a E=>Z4 (i:=0) (k:=0) (s:=3) E H hx22 (ws' (d:=39) E rfl rfl rfl rfl hb17) rfl rfl rfl rfl rfl hx19 rfl Be rfl rL fun u23 a H E=>?_
     obtain ⟨_,hcs⟩:=H.rd (.head _)
     obtain ⟨v24,rfl,-⟩:=dF hcs
     clear hcs
     refine have H:=H.derive1 m0 (rSl aV v24 x18.Events) (fun ok h=>gA h);?_
     replace E:Env 49 a ((44,.agg (kT x18 v24).toArray)::_):=E
     refine pk 1 E (kc 39 rfl hb17) rfl fun a E=>bd hm fun u25 hx26 hm=>aU E (ws' (d:=39) E rfl rfl rfl rfl hb17) rfl rfl (bP E rfl rfl rfl (Cy _)) (n3 H hx26)<|?_
     rintro _ w ⟨rfl,H⟩ a E
     refine pk 4 E (kc 39 rfl hb17) rfl fun a E=>nt<|wp_ret<|fX E rfl rfl rfl<|?_
     cases hm
     exact ⟨rfl,H.reads (Y2 hs7)⟩
    ·refine pk 11 E (kc 39 rfl hb17) rfl fun a E=>nt<|wp_ret<|fX E rfl rfl rfl<|?_
     cases hm
     exact ⟨rfl,H.reads hs7⟩

def uI (x10:aK) (x7:aD) (l21:(List aD)):Option (Bool×(List aD)):=
  if x10.Deep=true then (some (decide ((x7.Events.length:Int) < 7),l21)) else (some (false,l21))
def uJ (x10:aK) (x7:aD) (x17:Int) (s18:ByteArray) (l5:List aD) (x6:Int) (b25:Bool):Option (Bool×(List aD)):=
  if b25=true then ((ck ((({ x7 with Count:=IntKind.i64.wrap (x7.Count+1) }:aD).Events).length ≤ LIM)).bind fun u33=>(ck ((({ x7 with Count:=IntKind.i64.wrap (x7.Count+1) }:aD).Events).length+([(⟨IntKind.i64.wrap (x7.Count+1),x17,s18,x10.Num⟩:bK)]:List bK).length ≤ LIM)).bind fun u37=>uI x10 x7 ((l5.set x6.toNat ({ x7 with Count:=IntKind.i64.wrap (x7.Count+1) }:aD)).set x6.toNat ({ ({ x7 with Count:=IntKind.i64.wrap (x7.Count+1) }:aD) with Events:=(({ x7 with Count:=IntKind.i64.wrap (x7.Count+1) }:aD).Events) ++ ([(⟨IntKind.i64.wrap (x7.Count+1),x17,s18,x10.Num⟩:bK)]:List bK) }:aD))) else (uI x10 x7 l5)
def uK (x10:aK) (x7:aD) (l5:List aD) (x6:Int) (x17:Int) (s18:ByteArray):Option (Bool×(List aD)):=
  if (decide ((x7.Events.length:Int) < 8))=true then (uJ x10 x7 x17 s18 l5 x6 (decide (x7.Count < 281474976710656))) else (uJ x10 x7 x17 s18 l5 x6 false)
def r4 (l5:List aD) (x6:Int) (x7:aD) (x10:aK) (x11:Int) (s12:ByteArray):Option (Bool×(List aD)):=
  if ((x7.Events.length:Int) == 7)=true then (uK x10 x7 l5 x6 4 x10.Path) else (uK x10 x7 l5 x6 x11 s12)
theorem Ey {w:World} {Fo:List Ob} {rs:List Rp} {v1:Value} {p2 p3 p4:Nat} {l5:List aD} {x6 x11:Int} {x7:aD} {x10:aK} {s12:ByteArray} (hx8:idx l5 x6=some x7) (hx9:v1= .slice (some ⟨p2,0,none⟩) p3 p4) (H:Sep w (Row 215 aO v1 l5::Fo) rs) {r:Bool×(List aD)} (hm:r4 l5 x6 x7 x10 x11 s12=some r) :
    Calls Tryz.prog 297 [.pointer (some ⟨p2,x6.toNat * 3,none⟩),.agg (dL x10).toArray,.int .i64 x11,.string s12].toArray w (Ret fun v w'=>.bool r.1=v∧Sep w' (Row 215 aO v1 r.2::Fo) (rs)):=by
 unfold r4 at hm
 refine ent Tryz.func297 rfl Tryz.ntmps297 rfl rfl fun a E=>sq<|bS E H (wn rfl) rfl rfl rfl rfl rfl fun p13 w a H E=>pr 1 E rfl fun a E=>nx<|pr 3 E rfl fun a E=>yI (i:=1) (k:=2) E H hx9 (wn rfl) rfl rfl rfl rfl rfl hx8 rfl U44 rfl fun u14 a H E=>?_
 obtain ⟨_,hcs⟩:=H.rd (.head _)
 obtain ⟨v15,rfl,-⟩:=dF hcs
 clear hcs
 refine have H:=H.derive1 m0 (rSl aV v15 x7.Events) (fun ok h=>gA h);?_
 replace E:Env 65 a ((14,v15)::_):=E
 refine sv E rfl rfl rfl (cR E H rfl rfl m0 U44) fun a E=>pr 1 E rfl fun a E=>nt<|wp_seq<|dw [(0,0),(1,0),(2,0),(3,0),(4,0),(5,0),(6,0),(7,0),(8,0),(9,0),(10,1),(11,2)] [0,1] [] H (by kernel_rfl) (fun _ _ _ h=>False.elim h.2) fun w W0 hI H=>fn 3 E rfl fun a E=>bW E rfl (wn rfl) rfl rfl (fun w hW=>Ix (d:=aO) (k:=1) (u:=.int .i64 x7.Count) E hx9 hx8 mm1 (fun w ok cs h=>by obtain ⟨v1,rfl,-⟩:=dF h;rfl) rfl rfl U2 rfl hW) fun a E=>?_
 refine fn 4 E rfl fun a E=>fb E rfl (wn rfl) rfl rfl rfl rfl m0 rfl U2 rfl fun a E=>bW E rfl (wn rfl) rfl rfl (fun w hW=>(cI E rfl (E.evs rfl) (v:=.agg #[.int .i64 (IntKind.i64.wrap (x7.Count+1)),.int .i64 x11,.string s12,.int .i64 x10.Num]) (by kernel_rfl))) fun a E=>?_
 refine bZ rfl<|al E H rfl rfl rfl rfl Hf fun p16 w a H E=>nt<|?_
 refine ⟨⟨_,_,H,(aB mm1 (aB mm2 (aL))),(aM)⟩,?_⟩
 refine bQ rfl<|aZ (i:=0) E H (wn rfl) rfl rfl rfl rfl rfl rfl rM rfl rfl fun w H=>nt<|bR<|?_
 clear hI
 refine aC<|aT (fun a w=>∃ x17 s18 rs19,Env 65 a [(0,.pointer (some ⟨p2,x6.toNat * 3,none⟩)),(5,pt p13 0),(9,.int .i64 (x7.Events.length:Int)),(10,pt p16 0)]∧Sep w (Row 215 aO v1 l5::Blk p13 35 (dL x10)::Blk p16 223 [.int .i64 (IntKind.i64.wrap (x7.Count+1)),.int .i64 x17,.string s18,.int .i64 x10.Num]::Fo) rs19∧(∀ r,r ∈ rs→r ∈ rs19)∧uK x10 x7 l5 x6 x17 s18=some r) ?_ ?_
 ·refine sq<|pr 2 E rfl fun a E=>nt<|wif E hm rfl (fun hm=>?_) fun hm=>?_
  ·refine dw [(0,0),(1,0),(2,0),(3,1),(4,2),(5,2)] [1] [] H (by kernel_rfl) (fun _ _ _ h=>False.elim h.2) fun w W0 hI H=>fn 1 E rfl fun a E=>fb E rfl (wn rfl) rfl rfl rfl rfl m0 rfl U9 rfl fun a E=>fn 1 E rfl fun a E=>bZ rfl<|aZ (i:=0) E H (wn rfl) rfl rfl rfl rfl rfl rfl sz3 rfl rfl fun w H=>nt<|?_
   refine ⟨⟨_,_,H,(aB mm1 (aL)),(aM)⟩,?_⟩
   refine bQ rfl<|pr 1 E rfl fun a E=>nt<|bQ rfl<|aZ (i:=0) E H (wn rfl) rfl rfl rfl rfl rfl rfl sz9 rfl rfl fun w H=>nt<|bR<|?_
   clear hI
   exact aC<|have H:=H.frs [0,1,2] rfl;X3 ⟨E.to rfl,H,(Y2 Y0),hm⟩
  ·exact wp_skip<|aC<|have H:=H.frs [0,1,2] rfl;X3 ⟨E.to rfl,H,(Y2 Y0),hm⟩
 ·clear E H hm
  rintro a w ⟨x17,s18,rs19,E,H,hs20,hm⟩
  unfold uK at hm
  refine aT (fun a w=>∃ l21 rs22,Env 65 a [(5,pt p13 0),(9,.int .i64 (x7.Events.length:Int))]∧Sep w (Blk p13 35 (dL x10)::Row 215 aO v1 l21::Fo) rs22∧(∀ r,r ∈ rs→r ∈ rs22)∧uI x10 x7 l21=some r) ?_ ?_
  ·refine aT (fun a w=>∃ b25 rs26,Env 65 a [(0,.pointer (some ⟨p2,x6.toNat * 3,none⟩)),(5,pt p13 0),(9,.int .i64 (x7.Events.length:Int)),(10,pt p16 0),(40,.bool b25)]∧Sep w (Row 215 aO v1 l5::Blk p13 35 (dL x10)::Blk p16 223 [.int .i64 (IntKind.i64.wrap (x7.Count+1)),.int .i64 x17,.string s18,.int .i64 x10.Num]::Fo) rs26∧(∀ r,r ∈ rs→r ∈ rs26)∧uJ x10 x7 x17 s18 l5 x6 b25=some r) ?_ ?_
   ·refine wp_region_lit<|pr 3 E rfl fun a E=>cs hm (fun hb92 hm=>?_) fun hb92 hm=>?_
    ·refine pk 3 E (kc 34 rfl hb92) rfl fun a E=>yI (i:=0) (k:=1) E H hx9 (ws' (d:=34) E rfl rfl rfl rfl hb92) rfl rfl rfl rfl rfl hx8 rfl U2 rfl fun u93 a H E=>?_
     obtain ⟨_,hcs⟩:=H.rd (.head _)
     obtain ⟨v94,rfl,-⟩:=dF hcs
     clear hcs
     refine have H:=H.derive1 m0 (rSl aV v94 x7.Events) (fun ok h=>gA h);?_
     replace E:Env 65 a ((38,.int .i64 x7.Count)::_):=E
     exact pk 2 E (kc 34 rfl hb92) rfl fun a E=>nt<|⟨_,_,E.to rfl,H,(Y2 hs20),hm⟩
    ·exact pk 6 E (kc 34 rfl hb92) rfl fun a E=>nt<|⟨_,_,E.to rfl,H,hs20,hm⟩
   ·clear E H hm
    rintro a w ⟨b25,rs26,E,H,hs27,hm⟩
    unfold uJ at hm
    refine wif E hm rfl (fun hm=>?_) fun hm=>?_
    ·refine sq<|pr 3 E rfl fun a E=>yI (i:=0) (k:=1) E H hx9 (wn rfl) rfl rfl rfl rfl rfl hx8 rfl U2 rfl fun u28 a H E=>?_
     obtain ⟨_,hcs⟩:=H.rd (.head _)
     obtain ⟨v29,rfl,-⟩:=dF hcs
     clear hcs
     refine have H:=H.derive1 m0 (rSl aV v29 x7.Events) (fun ok h=>gA h);?_
     replace E:Env 65 a ((44,.int .i64 x7.Count)::_):=E
     refine pr 3 E rfl fun a E=>yP (i:=0) (k:=1) (us:=[.int .i64 (IntKind.i64.wrap (x7.Count+1))]) (y':=({ x7 with Count:=IntKind.i64.wrap (x7.Count+1) }:aD)) E H hx9 (wn rfl) rfl rfl rfl rfl rfl rfl hx8 rfl sz2 rfl (fun ok cs hr h=>by obtain ⟨v1,rfl,g1⟩:=dF h;exact jB (x:=({ x7 with Count:=IntKind.i64.wrap (x7.Count+1) }:aD)) g1) fun w H=>nt<|bk hm fun hx34 hm=>bk hm fun hx38 hm=>?_
     have hI:dP [Blk p16 223 [.int .i64 (IntKind.i64.wrap (x7.Count+1)),.int .i64 x17,.string s18,.int .i64 x10.Num]] [] { w with drawn:=w.drawn+1 }:=⟨_,_,H.kept (Kp.drawn _ w _),(aB mm2 (aL)),(aM)⟩
     refine jY _ (.go 0 0 (.go 1 0 (.go 2 0 (.go 3 0 (.go 6 0 (.alt 4 (.alt 5 (.go 7 1 (.go 8 1 (.go 9 2 (.go 10 2 (.go 11 2 .nil))))) 7 (.go 5 1 (.go 8 1 (.go 9 2 (.go 10 2 (.go 11 2 .nil)))))) 7 (.go 4 1 (.go 5 1 (.go 8 1 (.go 9 2 (.go 10 2 (.go 11 2 .nil)))))))))))) [9,10,11] kG (by kernel_rfl) (fun _ _ _ h=>False.elim h.2) hI<|have H:=H.kept (Kp.drawn _ w (w.drawn+1));?_
     generalize ({ w with drawn:=w.drawn+1 }:World)=w at H hI ⊢
     replace hI:∃ W,dP [Blk p16 223 [.int .i64 (IntKind.i64.wrap (x7.Count+1)),.int .i64 x17,.string s18,.int .i64 x10.Num]] [] W:=⟨_,hI⟩
     obtain ⟨W0,hI⟩:=hI
     refine aW E rfl (wn rfl) rfl rfl (fun w hW=>(bD E rfl rfl)) fun a E=>aW E rfl (wn rfl) rfl rfl (fun w hW=>(bD E rfl rfl)) fun a E=>aW E rfl (wn rfl) rfl rfl (fun w hW=>(sF E rfl rfl)) fun a E=>aW E rfl (wn rfl) rfl rfl (fun w hW=>iY E rfl rfl (v:=.pointer (some ⟨p2,x6.toNat * 3+2,none⟩)) (Ge _ _)) fun a E=>aW E rfl (wn rfl) rfl rfl (fun w hW=>eZ E rfl rfl (yN (us:=[.int .i64 (IntKind.i64.wrap (x7.Count+1)),.int .i64 x17,.string s18,.int .i64 x10.Num]) m0 rfl Bf rfl rM w hW)) fun a E=>?_
     refine kM rfl rfl ?_ ?_
     ·refine yI (i:=0) (k:=2) E H hx9 (wn rfl) rfl rfl rfl rfl rfl (sI hx8) rfl U44 rfl fun u61 a H E=>?_
      obtain ⟨_,hcs⟩:=H.rd (.head _)
      obtain ⟨v62,rfl,-⟩:=dF hcs
      clear hcs
      refine have H:=H.derive1 m0 (rSl aV v62 (({ x7 with Count:=IntKind.i64.wrap (x7.Count+1) }:aD).Events)) (fun ok h=>gA h);?_
      replace E:Env 65 a ((52,v62)::_):=E
      refine nt<|?_
      refine ⟨⟨_,_,H,(aB mm2 (aL)),(aM)⟩,?_⟩
      refine kM rfl rfl ?_ ?_
      ·refine aU E (wn rfl) rfl rfl (cC E rfl rfl (Ae _)) (dZ H m0 hx34) fun v63 w H a E=>nt<|?_
       refine ⟨⟨_,_,H,(aB mm3 (aL)),(aM)⟩,?_⟩
       refine cJ rfl<|pI (e:=223) (d:=aV) (cs:=[.int .i64 (IntKind.i64.wrap (x7.Count+1)),.int .i64 x17,.string s18,.int .i64 x10.Num]) (xs:=[(⟨IntKind.i64.wrap (x7.Count+1),x17,s18,x10.Num⟩:bK)]) E H (wn rfl) rfl rfl rfl (E.evs rfl) (by kernel_rfl) rfl (fun ok hr=>(Rows.single (d:=aV) (cs:=[.int .i64 (IntKind.i64.wrap (x7.Count+1)),.int .i64 x17,.string s18,.int .i64 x10.Num]) (x:=(⟨IntKind.i64.wrap (x7.Count+1),x17,s18,x10.Num⟩:bK)) vL)) fun v66 w a H E=>nt<|?_
       refine ⟨⟨_,_,H,(aB mm3 (aL)),(aM)⟩,?_⟩
       refine cJ rfl<|dV (i:=0) E H (wn rfl) rfl rfl rfl rfl rfl rfl (jA m0) U44 Af rfl hx38 rfl fun v67 w a H E=>nt<|?_
       refine ⟨⟨_,_,H,(aB mm3 (aL)),(aM)⟩,?_⟩
       refine cP rfl<|pr 1 E rfl fun a E=>nt<|cP rfl<|pr 1 E rfl fun a E=>nt<|cP rfl<|?_
       obtain ⟨q70,x71,rfl⟩:=H.rowform (i:=0) rfl
       refine have H:=H.thaw (i:=0) rfl;yP (i:=0) (k:=2) (us:=[(.slice q70 ((({ x7 with Count:=IntKind.i64.wrap (x7.Count+1) }:aD).Events) ++ ([(⟨IntKind.i64.wrap (x7.Count+1),x17,s18,x10.Num⟩:bK)]:List bK)).length x71)]) (y':=({ ({ x7 with Count:=IntKind.i64.wrap (x7.Count+1) }:aD) with Events:=(({ x7 with Count:=IntKind.i64.wrap (x7.Count+1) }:aD).Events) ++ ([(⟨IntKind.i64.wrap (x7.Count+1),x17,s18,x10.Num⟩:bK)]:List bK) }:aD)) E H hx9 (wn rfl) rfl rfl rfl rfl rfl rfl (sI hx8) rfl Hh rfl (fun ok cs hr h=>by obtain ⟨v1,rfl,g1⟩:=dF h;exact jB (x:=({ ({ x7 with Count:=IntKind.i64.wrap (x7.Count+1) }:aD) with Events:=(({ x7 with Count:=IntKind.i64.wrap (x7.Count+1) }:aD).Events) ++ ([(⟨IntKind.i64.wrap (x7.Count+1),x17,s18,x10.Num⟩:bK)]:List bK) }:aD)) (hr _ m0)) fun w H=>nt<|dW<|?_
       clear hI
       exact aC<|have H:=H.drop 2;have H:=H.frs [0,1] rfl;⟨_,_,E.to rfl,H,(Y6 hs27),hm⟩
      ·refine pI (e:=223) (d:=aV) (cs:=[.int .i64 (IntKind.i64.wrap (x7.Count+1)),.int .i64 x17,.string s18,.int .i64 x10.Num]) (xs:=[(⟨IntKind.i64.wrap (x7.Count+1),x17,s18,x10.Num⟩:bK)]) E H (wn rfl) rfl rfl rfl (E.evs rfl) (by kernel_rfl) rfl (fun ok hr=>(Rows.single (d:=aV) (cs:=[.int .i64 (IntKind.i64.wrap (x7.Count+1)),.int .i64 x17,.string s18,.int .i64 x10.Num]) (x:=(⟨IntKind.i64.wrap (x7.Count+1),x17,s18,x10.Num⟩:bK)) vL)) fun v72 w a H E=>nt<|?_
       refine ⟨⟨_,_,H,(aB mm2 (aL)),(aM)⟩,?_⟩
       refine cJ rfl<|aU E (wn rfl) rfl rfl (cC E rfl rfl (Ae _)) (dZ H mm1 hx34) fun v73 w H a E=>nt<|?_
       refine ⟨⟨_,_,H,(aB mm3 (aL)),(aM)⟩,?_⟩
       refine cJ rfl<|dV (i:=0) E H (wn rfl) rfl rfl rfl rfl rfl rfl (jA m0) U44 Af rfl hx38 rfl fun v76 w a H E=>nt<|?_
       refine ⟨⟨_,_,H,(aB mm3 (aL)),(aM)⟩,?_⟩
       refine cP rfl<|pr 1 E rfl fun a E=>nt<|cP rfl<|pr 1 E rfl fun a E=>nt<|cP rfl<|?_
       obtain ⟨q79,x80,rfl⟩:=H.rowform (i:=0) rfl
       refine have H:=H.thaw (i:=0) rfl;yP (i:=0) (k:=2) (us:=[(.slice q79 ((({ x7 with Count:=IntKind.i64.wrap (x7.Count+1) }:aD).Events) ++ ([(⟨IntKind.i64.wrap (x7.Count+1),x17,s18,x10.Num⟩:bK)]:List bK)).length x80)]) (y':=({ ({ x7 with Count:=IntKind.i64.wrap (x7.Count+1) }:aD) with Events:=(({ x7 with Count:=IntKind.i64.wrap (x7.Count+1) }:aD).Events) ++ ([(⟨IntKind.i64.wrap (x7.Count+1),x17,s18,x10.Num⟩:bK)]:List bK) }:aD)) E H hx9 (wn rfl) rfl rfl rfl rfl rfl rfl (sI hx8) rfl Hh rfl (fun ok cs hr h=>by obtain ⟨v1,rfl,g1⟩:=dF h;exact jB (x:=({ ({ x7 with Count:=IntKind.i64.wrap (x7.Count+1) }:aD) with Events:=(({ x7 with Count:=IntKind.i64.wrap (x7.Count+1) }:aD).Events) ++ ([(⟨IntKind.i64.wrap (x7.Count+1),x17,s18,x10.Num⟩:bK)]:List bK) }:aD)) (hr _ m0)) fun w H=>nt<|dW<|?_
       clear hI
       exact aC<|have H:=H.drop 2;have H:=H.frs [0,1] rfl;⟨_,_,E.to rfl,H,(Y6 hs27),hm⟩
     ·refine pI (e:=223) (d:=aV) (cs:=[.int .i64 (IntKind.i64.wrap (x7.Count+1)),.int .i64 x17,.string s18,.int .i64 x10.Num]) (xs:=[(⟨IntKind.i64.wrap (x7.Count+1),x17,s18,x10.Num⟩:bK)]) E H (wn rfl) rfl rfl rfl (E.evs rfl) (by kernel_rfl) rfl (fun ok hr=>(Rows.single (d:=aV) (cs:=[.int .i64 (IntKind.i64.wrap (x7.Count+1)),.int .i64 x17,.string s18,.int .i64 x10.Num]) (x:=(⟨IntKind.i64.wrap (x7.Count+1),x17,s18,x10.Num⟩:bK)) vL)) fun v81 w a H E=>nt<|?_
      refine ⟨⟨_,_,H,(aB mm2 (aL)),(aM)⟩,?_⟩
      refine cJ rfl<|yI (i:=0) (k:=2) E H hx9 (wn rfl) rfl rfl rfl rfl rfl (sI hx8) rfl U44 rfl fun u82 a H E=>?_
      obtain ⟨_,hcs⟩:=H.rd (.head _)
      obtain ⟨v83,rfl,-⟩:=dF hcs
      clear hcs
      refine have H:=H.derive1 m0 (rSl aV v83 (({ x7 with Count:=IntKind.i64.wrap (x7.Count+1) }:aD).Events)) (fun ok h=>gA h);?_
      replace E:Env 65 a ((52,v83)::_):=E
      refine nt<|?_
      refine ⟨⟨_,_,H,(aB mm2 (aL)),(aM)⟩,?_⟩
      refine cJ rfl<|aU E (wn rfl) rfl rfl (cC E rfl rfl (Ae _)) (dZ H m0 hx34) fun v84 w H a E=>nt<|?_
      refine ⟨⟨_,_,H,(aB mm3 (aL)),(aM)⟩,?_⟩
      refine cJ rfl<|dV (i:=0) E H (wn rfl) rfl rfl rfl rfl rfl rfl (jA mm2) U44 Af rfl hx38 rfl fun v87 w a H E=>nt<|?_
      refine ⟨⟨_,_,H,(aB mm3 (aL)),(aM)⟩,?_⟩
      refine cP rfl<|pr 1 E rfl fun a E=>nt<|cP rfl<|pr 1 E rfl fun a E=>nt<|cP rfl<|?_
      obtain ⟨q90,x91,rfl⟩:=H.rowform (i:=0) rfl
      refine have H:=H.thaw (i:=0) rfl;yP (i:=0) (k:=2) (us:=[(.slice q90 ((({ x7 with Count:=IntKind.i64.wrap (x7.Count+1) }:aD).Events) ++ ([(⟨IntKind.i64.wrap (x7.Count+1),x17,s18,x10.Num⟩:bK)]:List bK)).length x91)]) (y':=({ ({ x7 with Count:=IntKind.i64.wrap (x7.Count+1) }:aD) with Events:=(({ x7 with Count:=IntKind.i64.wrap (x7.Count+1) }:aD).Events) ++ ([(⟨IntKind.i64.wrap (x7.Count+1),x17,s18,x10.Num⟩:bK)]:List bK) }:aD)) E H hx9 (wn rfl) rfl rfl rfl rfl rfl rfl (sI hx8) rfl Hh rfl (fun ok cs hr h=>by obtain ⟨v1,rfl,g1⟩:=dF h;exact jB (x:=({ ({ x7 with Count:=IntKind.i64.wrap (x7.Count+1) }:aD) with Events:=(({ x7 with Count:=IntKind.i64.wrap (x7.Count+1) }:aD).Events) ++ ([(⟨IntKind.i64.wrap (x7.Count+1),x17,s18,x10.Num⟩:bK)]:List bK) }:aD)) (hr _ m0)) fun w H=>nt<|dW<|?_
      clear hI
      exact aC<|have H:=H.drop 2;have H:=H.frs [0,1] rfl;⟨_,_,E.to rfl,H,(Y6 hs27),hm⟩
    ·exact wp_skip<|aC<|have H:=H.drop 2;have H:=H.frs [0,1] rfl;⟨_,_,E.to rfl,H,hs27,hm⟩
  ·clear E H hm
   rintro a w ⟨l21,rs22,E,H,hs23,hm⟩
   unfold uI at hm
   refine sq<|pr 1 E rfl fun a E=>lb E H 0 rfl rfl rfl rfl rfl rfl rfl U4 rfl fun a E=>pr 1 E rfl fun a E=>cs hm (fun hb24 hm=>?_) fun hb24 hm=>?_
   ·refine pk 4 E (kc 61 rfl hb24) rfl fun a E=>nt<|wp_ret<|aY E rfl rfl<|have H:=H.drop 0;?_
    cases hm
    exact ⟨rfl,H.reads hs23⟩
   ·refine pk 4 E (kc 61 rfl hb24) rfl fun a E=>nt<|wp_ret<|aY E rfl rfl<|have H:=H.drop 0;?_
    cases hm
    exact ⟨rfl,H.reads hs23⟩

def rO (u16:Int×Bool) (x1:aK) (x10:Int) (s3:ByteArray) (l19:(List aD)):Option (Bool×(List aD)):=
  (idx l19 u16.1).bind fun x22=>(r4 l19 u16.1 x22 x1 x10 s3).bind fun u27=>some (!u27.1,u27.2)
def oR (x1:aK) (x10:Int) (s3:ByteArray) (l8:List aD) (b13:Bool):Option (Bool×(List aD)):=
  if b13=true then (some (false,l8)) else ((eB l8 x1.Session).bind fun u16=>if (!u16.2)=true then ((ck (0 ≤ u16.1∧u16.1 ≤ l8.length∧l8.length ≤ 1000000)).bind fun u30=>rO u16 x1 x10 s3 (l8.take u16.1.toNat ++ (⟨x1.Session,0,[]⟩:aD)::l8.drop u16.1.toNat)) else (rO u16 x1 x10 s3 l8))
def wE (x1:aK) (s3:ByteArray) (l8:List aD) (x10:Int):Option (Bool×(List aD)):=
  if (!(sEq x1.Path s3))=true then (if (!x1.Deep)=true then (oR x1 x10 s3 l8 true) else ((i8 s3 x1.Path).bind fun u37=>oR x1 x10 s3 l8 (!u37))) else (oR x1 x10 s3 l8 false)
theorem E7 {w:World} {Fo:List Ob} {rs:List Rp} {x1:aK} {p2 p4 p9:Nat} {s3:ByteArray} {v7 v11:Value} {l8:List aD} {x10:Int} (H:Sep w (Blk p2 9 [.string s3]::Blk p4 73 [v11,v7]::Row 215 aO v7 l8::Blk p9 3 [.int .i64 x10]::Fo) rs) {r:Bool×(List aD)} (hm:wE x1 s3 l8 x10=some r) :
    Calls Tryz.prog 296 [.agg (dL x1).toArray,pt p2 0,pt p4 0,pt p9 0].toArray w (Ret fun v w'=>∃ y2,.bool r.1=v∧Sep w' (Blk p2 9 [.string s3]::Blk p4 73 [v11,y2]::Blk p9 3 [.int .i64 x10]::Row 215 aO y2 r.2::Fo) (rs)):=by
 unfold wE at hm
 refine ent Tryz.func296 rfl Tryz.ntmps296 rfl rfl fun a E=>sq<|bS E H (wn rfl) rfl rfl rfl rfl rfl fun p12 w a H E=>pr 1 E rfl fun a E=>nt<|wp_seq<|aT (fun a w=>∃ b13 rs14,Env 52 a [(1,pt p2 0),(2,pt p4 0),(3,pt p9 0),(4,pt p12 0),(23,.bool b13)]∧Sep w (Blk p2 9 [.string s3]::Blk p4 73 [v11,v7]::Blk p9 3 [.int .i64 x10]::Blk p12 35 (dL x1)::Row 215 aO v7 l8::Fo) rs14∧(∀ r,r ∈ rs→r ∈ rs14)∧oR x1 x10 s3 l8 b13=some r) ?_ ?_
 ·refine wp_region_lit<|pr 1 E rfl fun a E=>lb E H 0 rfl rfl rfl rfl rfl rfl rfl U9 rfl fun a E=>lb E H 1 rfl rfl rfl rfl rfl rfl rfl U9 rfl fun a E=>pr 2 E rfl fun a E=>cs hm (fun hb35 hm=>?_) fun hb35 hm=>?_
  ·refine pk 1 E (kc 12 rfl hb35) rfl fun a E=>aQ E (ws' (d:=12) E rfl rfl rfl rfl hb35) rfl rfl (cD (i:=0) E H rfl rfl rfl rfl U4 rfl) fun a E=>pk 2 E (kc 12 rfl hb35) rfl fun a E=>cs hm (fun hb36 hm=>?_) fun hb36 hm=>?_
   ·exact pk 7 E (kc' (kc 16 rfl hb36) 12 rfl hb35) rfl fun a E=>nt<|have H:=H.frs [3,1,4,4,4] rfl;⟨_,_,E.to rfl,H,Y0,hm⟩
   ·refine aQ E (ws' (d:=16) E rfl rfl rfl rfl hb36) rfl rfl (cD (i:=1) E H rfl rfl rfl rfl U9 rfl) fun a E=>pk 1 E (kc 16 rfl hb36) rfl fun a E=>aQ E (ws' (d:=16) E rfl rfl rfl rfl hb36) rfl rfl (cD (i:=0) E H rfl rfl rfl rfl U9 rfl) fun a E=>bd hm fun u37 hx38 hm=>aU E (ws' (d:=16) E rfl rfl rfl rfl hb36) rfl rfl (cC E rfl rfl (Km _)) (M5 H hx38)<|?_
    rintro _ w ⟨rfl,H⟩ a E
    exact pk 3 E (kc' (kc 16 rfl hb36) 12 rfl hb35) rfl fun a E=>nt<|have H:=H.frs [3,1,4,4,4] rfl;⟨_,_,E.to rfl,H,Y0,hm⟩
  ·exact pk 11 E (kc 12 rfl hb35) rfl fun a E=>nt<|have H:=H.frs [3,1,4,4,4] rfl;⟨_,_,E.to rfl,H,Y0,hm⟩
 ·clear E H hm
  rintro a w ⟨b13,rs14,E,H,hs15,hm⟩
  unfold oR at hm
  refine wif E hm rfl (fun hm=>?_) fun hm=>?_
  ·refine sq<|pr 1 E rfl fun a E=>nt<|wp_ret<|aP<|aY E rfl rfl<|have H:=H.drop 3;?_
   cases hm
   exact ⟨_,rfl,H.reads hs15⟩
  ·refine wp_skip<|aC<|sq<|pr 1 E rfl fun a E=>lb E H 1 rfl rfl rfl rfl rfl rfl rfl U71 rfl fun a E=>pr 1 E rfl fun a E=>lb E H 3 rfl rfl rfl rfl rfl rfl rfl U2 rfl fun a E=>have H:=H.frs [3,3,3,3,4] rfl;bd hm fun u16 hx17 hm=>?_
   refine xk E rfl rfl rfl rfl rfl Hg (mT H hx17) fun w H a E=>pr 5 E rfl fun a E=>nt<|aT (fun a w=>∃ v18 l19 rs20,Env 52 a [(1,pt p2 0),(2,pt p4 0),(3,pt p9 0),(4,pt p12 0),(6,.int .i64 u16.1)]∧Sep w (Blk p2 9 [.string s3]::Blk p4 73 [v11,v18]::Blk p9 3 [.int .i64 x10]::Blk p12 35 (dL x1)::Row 215 aO v18 l19::Fo) rs20∧(∀ r,r ∈ rs→r ∈ rs20)∧rO u16 x1 x10 s3 l19=some r) ?_ ?_
   ·refine sq<|pr 2 E rfl fun a E=>nt<|wif E hm rfl (fun hm=>?_) fun hm=>?_
    ·refine wp_region_lit<|pr 1 E rfl fun a E=>lb E H 2 rfl rfl rfl rfl rfl rfl rfl U71 rfl fun a E=>pr 2 E rfl fun a E=>lb E H 4 rfl rfl rfl rfl rfl rfl rfl U2 rfl fun a E=>sv E rfl rfl rfl (cI E rfl (E.evs rfl) (v:=.agg #[.int .i64 x1.Session,.int .i64 0,.slice none 0 0]) (by kernel_rfl)) fun a E=>fY (e:=215) (d:=aO) (cs:=[.int .i64 x1.Session,.int .i64 0,.slice none 0 0]) (xs:=[(⟨x1.Session,0,[]⟩:aD)]) E H (wn rfl) rfl rfl rfl (E.evs rfl) (by kernel_rfl) rfl rfl (fun ok hr=>(Rows.single (d:=aO) (cs:=[.int .i64 x1.Session,.int .i64 0,.slice none 0 0]) (x:=(⟨x1.Session,0,[]⟩:aD)) (jB (Sl.nil _ _ _)))) fun v29 w a H E=>bk hm fun hx31 hm=>aU E (wn rfl) rfl rfl (cC E rfl rfl (Hk _)) (Se.insert_a (ix:=1) (iu:=0) H rfl rfl (by decide) hx31) fun v32 w H a E=>?_
     refine pr 1 E rfl fun a E=>?_
     obtain ⟨q33,x34,rfl⟩:=H.rowform (i:=1) rfl
     exact aZ (i:=3) E H (wn rfl) rfl rfl rfl rfl rfl rfl Ep rfl rfl fun w H=>nt<|have H:=H.drop 0;have H:=H.frs [0,4,4,4,4] rfl;X3 ⟨E.to rfl,H,hs15,hm⟩
    ·exact wp_skip<|aC<|have H:=H.frs [0,4,4,4,4] rfl;X3 ⟨E.to rfl,H,hs15,hm⟩
   ·clear E H hm
    rintro a w ⟨v18,l19,rs20,E,H,hs21,hm⟩
    unfold rO at hm
    refine wp_seq<|dw [(0,0),(1,0),(2,0),(3,0),(4,0),(5,0),(6,0),(7,1),(8,0),(9,2)] [0,1,2,3] [] H (by kernel_rfl) (fun _ _ _ h=>False.elim h.2) fun w W0 hI H=>fn 1 E rfl fun a E=>fb E rfl (wn rfl) rfl rfl rfl rfl mm1 rfl U71 rfl fun a E=>fn 1 E rfl fun a E=>bd hm fun x22 hx23 hm=>?_
    obtain ⟨p24,x25,hx26⟩:=H.rowformNE (i:=4) rfl hx23
    refine bW E rfl (wn rfl) rfl rfl (fun w hW=>cY (d:=aO) E hx26 rfl rfl rfl rfl U71 rL hx23) fun a E=>?_
    refine fbn E (dL x1) rfl (wn rfl) rfl rfl rfl rfl mm3 rfl U35 rfl pK fun a E=>fb E rfl (wn rfl) rfl rfl rfl rfl mm2 rfl U3 rfl fun a E=>fb E rfl (wn rfl) rfl rfl rfl rfl m0 rfl U9 rfl fun a E=>bZ rfl<|have H:=H.frs [3,3,3,3,4] rfl;bd hm fun u27 hx28 hm=>xk E rfl rfl rfl rfl rfl Wj (Ey hx23 hx26 H hx28) fun w H a E=>nt<|?_
    refine ⟨⟨_,_,H,(aB mm1 (aB mm2 (aB mm3 (aB mm4 (aL))))),(aM)⟩,?_⟩
    refine fn 1 E rfl fun a E=>bQ rfl<|pr 1 E rfl fun a E=>nt<|bR<|?_
    clear hI
    refine aC<|wp_ret<|aY E rfl rfl<|have H:=H.drop 4;have H:=H.frs [0,3,3,3] rfl;?_
    cases hm
    exact ⟨_,rfl,H.reads hs21⟩

def eH (l2:List aK) (s4:ByteArray) (x11:Int):Nat→Int→(List aD)→Option (Int×(List aD))
  | 0,_,_=>none
  | k1+1,x13,l15=>
    if (decide (x13 < (l2.length:Int)))=true then ((idx l2 x13).bind fun x18=>(wE x18 s4 l15 x11).bind fun u23=>if u23.1=true then (some (x13,u23.2)) else (eH l2 s4 x11 k1 (IntKind.i64.wrap (x13+1)) u23.2)) else (some ((-1),l15))
def hJ (l2:List aK) (s4:ByteArray) (l9:List aD) (x11:Int):Option (Int×(List aD)):=
  eH l2 s4 x11 (((l2.length:Int) - 0:Int).toNat+1) 0 l9
theorem sM {w:World} {Fo:List Ob} {rs:List Rp} {v1 v8 v12:Value} {l2:List aK} {p3 p5 p10:Nat} {s4:ByteArray} {l9:List aD} {x11:Int} (H:Sep w (Row 35 aX v1 l2::Blk p3 9 [.string s4]::Blk p5 73 [v12,v8]::Row 215 aO v8 l9::Blk p10 3 [.int .i64 x11]::Fo) rs) {r:Int×(List aD)} (hm:hJ l2 s4 l9 x11=some r) :
    Calls Tryz.prog 230 [v1,.func (.func 296) #[] #[pt p3 0,pt p5 0,pt p10 0]].toArray w (Ret fun v w'=>∃ y2,.int .i64 r.1=v∧Sep w' (Blk p3 9 [.string s4]::Blk p5 73 [v12,y2]::Blk p10 3 [.int .i64 x11]::Row 35 aX v1 l2::Row 215 aO y2 r.2::Fo) (rs)):=by
 unfold hJ at hm
 refine ent Tryz.func230 rfl Tryz.ntmps230 rfl rfl fun a E=>sq<|pr 1 E rfl fun a E=>nt<|wp_seq<|sq<|pr 1 E rfl fun a E=>sv E rfl rfl rfl (iZ (i:=0) E H rfl rfl rfl U70) fun a E=>pr 1 E rfl fun a E=>?_
 refine nt<|wp_block<|bX (fun k1 a w=>∃ v14 x13 l15 rs16,Env 19 a [(0,v1),(1,.func (.func 296) #[] #[pt p3 0,pt p5 0,pt p10 0]),(7,.int .i64 (l2.length:Int)),(8,.int .i64 x13)]∧Sep w (Row 35 aX v1 l2::Blk p3 9 [.string s4]::Blk p5 73 [v12,v14]::Blk p10 3 [.int .i64 x11]::Row 215 aO v14 l15::Fo) rs16∧(∀ r,r ∈ rs→r ∈ rs16)∧eH l2 s4 x11 k1 x13 l15=some r) (((l2.length:Int) - 0:Int).toNat+1) ?_ ?_
 ·exact have H:=H.frs [3,4,4,4,4] rfl;X4 ⟨E.to rfl,H,Y0,hm⟩
 ·clear E H hm
  rintro k1 a w ⟨v14,x13,l15,rs16,E,H,hs17,hm⟩
  cases k1 with
  | zero=>exact (bT hm rfl).elim
  | succ k1=>
   unfold eH at hm
   refine sq<|pr 1 E rfl fun a E=>nt<|wp_seq<|wif E hm rfl (fun hm=>?_) fun hm=>?_
   ·refine wp_skip<|aC<|wp_seq<|wp_block<|sq<|pr 2 E rfl fun a E=>nx<|pr 3 E rfl fun a E=>bd hm fun x18 hx19 hm=>?_
    obtain ⟨p20,x21,hx22⟩:=H.rowformNE (i:=0) rfl hx19
    refine sv E rfl rfl rfl (cY (d:=aX) E hx22 rfl rfl rfl rfl U70 pK hx19) fun a E=>sv E rfl rfl rfl (fZ (i:=0) E H hB hx22 rfl rfl rfl hx19 (us:=[.int .i64 x18.Session,.int .i64 x18.Num,.string x18.Path,.bool x18.Deep]) rfl U35 rfl pK) fun a E=>have H:=H.frs [0,3,4,4,4] rfl;bd hm fun u23 hx24 hm=>aU E (wn rfl) rfl rfl (bP E rfl rfl rfl (Lz _)) (E7 H hx24)<|?_
    rintro _ w ⟨v25,rfl,H⟩ a E
    refine nt<|wif E hm rfl (fun hm=>?_) fun hm=>?_
    ·refine sq<|pr 2 E rfl fun a E=>nt<|wp_ret<|bV<|aP<|aP<|bV<|aP<|?_
     refine aY E rfl rfl<|have H:=H.frs [3,4,4,4,4] rfl;?_
     cases hm
     exact ⟨_,rfl,H.reads hs17⟩
    ·exact wp_skip<|bY<|aC<|wp_region_lit<|pr 2 E rfl fun a E=>nt<|have H:=H.frs [3,3,3,3,4] rfl;⟨k1,Nat.lt_succ_self k1,X4 ⟨E.to rfl,H,hs17,hm⟩⟩
   ·refine wp_exit<|bH<|bH<|dG<|aC<|sq<|pr 1 E rfl fun a E=>nt<|wp_ret<|?_
    refine aY E rfl rfl<|have H:=H.frs [4,1,4,4,4] rfl;?_
    cases hm
    exact ⟨_,rfl,H.reads hs17⟩

def eK (rec_1:(List aK)→Int→Int→(List aD)→Option ((List aK)×(List aD))) (x18:Int) (l23:(List aK)) (x24:Int) (l26:(List aD)):Option ((List aK)×(List aD)):=
  rec_1 l23 x24 (IntKind.i64.wrap (x18+1)) l26
def dN (s4:ByteArray) (x11:Int):Nat→(List aK)→Int→Int→(List aD)→Option ((List aK)×(List aD))
  | 0,_,_,_,_=>none
  | k1+1,l16,x17,x18,l20=>
    if (decide (x18 < (l16.length:Int)))=true then ((idx l16 x18).bind fun x29=>(wE x29 s4 l20 x11).bind fun u35=>if (!u35.1)=true then ((idx l16 x17).bind fun x38=>eK (dN s4 x11 k1) x18 (l16.set x17.toNat x29) (IntKind.i64.wrap (x17+1)) u35.2) else (eK (dN s4 x11 k1) x18 l16 x17 u35.2)) else ((ck (0 ≤ x17∧x17 ≤ l16.length)).bind fun u43=>(ck (0 ≤ x17∧x17 ≤ (l16.take x17.toNat ++ List.replicate (l16.length - x17.toNat) (⟨0,0,⟨#[]⟩,false⟩:aK)).length)).bind fun u45=>some ((l16.take x17.toNat ++ List.replicate (l16.length - x17.toNat) (⟨0,0,⟨#[]⟩,false⟩:aK)).take x17.toNat,l20))
def hZ (l2:List aK) (s4:ByteArray) (l9:List aD) (x11:Int):Option ((List aK)×(List aD)):=
  (hJ l2 s4 l9 x11).bind fun u13=>if (u13.1 == (-1))=true then (some (l2,u13.2)) else (dN s4 x11 (((l2.length:Int) - (IntKind.i64.wrap (u13.1+1)):Int).toNat+1) l2 u13.1 (IntKind.i64.wrap (u13.1+1)) u13.2)
theorem tH {w:World} {Fo:List Ob} {rs:List Rp} {v1 v8 v12:Value} {l2:List aK} {p3 p5 p10:Nat} {s4:ByteArray} {l9:List aD} {x11:Int} (H:Sep w (Row 35 aX v1 l2::Blk p3 9 [.string s4]::Blk p5 73 [v12,v8]::Row 215 aO v8 l9::Blk p10 3 [.int .i64 x11]::Fo) rs) {r:(List aK)×(List aD)} (hm:hZ l2 s4 l9 x11=some r) :
    Calls Tryz.prog 295 [v1,.func (.func 296) #[] #[pt p3 0,pt p5 0,pt p10 0]].toArray w (Ret fun v w'=>∃ y1 y3,y1=v∧Sep w' (Row 35 aX y1 r.1::Blk p3 9 [.string s4]::Blk p5 73 [v12,y3]::Blk p10 3 [.int .i64 x11]::Row 215 aO y3 r.2::Fo) (rs)):=by
 unfold hZ at hm
 refine ent Tryz.func295 rfl Tryz.ntmps295 rfl rfl fun a E=>sq<|pr 1 E rfl fun a E=>nx<|pr 2 E rfl fun a E=>bd hm fun u13 hx14 hm=>cG E rfl rfl rfl rfl rfl He (sM H hx14)<|?_
 rintro _ w ⟨v15,rfl,H⟩ a E
 refine pr 1 E rfl fun a E=>nt<|wp_seq<|sq<|pr 2 E rfl fun a E=>nt<|wif E hm rfl (fun hm=>?_) fun hm=>?_
 ·refine sq<|pr 2 E rfl fun a E=>nt<|wp_ret<|aP<|aY E rfl rfl<|have H:=H.frs [4,3,3,3,4] rfl;?_
  cases hm
  exact ⟨_,_,rfl,H.reads Y0⟩
 ·refine wp_skip<|aC<|wp_seq<|sq<|pr 3 E rfl fun a E=>nt<|wp_block<|bX (fun k1 a w=>∃ v19 l16 x17 x18 l20 rs21,Env 42 a [(0,v1),(1,.func (.func 296) #[] #[pt p3 0,pt p5 0,pt p10 0]),(5,.int .i64 x17),(6,.int .i64 x18)]∧Sep w (Row 35 aX v1 l16::Blk p3 9 [.string s4]::Blk p5 73 [v12,v19]::Blk p10 3 [.int .i64 x11]::Row 215 aO v19 l20::Fo) rs21∧(∀ r,r ∈ rs→r ∈ rs21)∧dN s4 x11 k1 l16 x17 x18 l20=some r) (((l2.length:Int) - (IntKind.i64.wrap (u13.1+1)):Int).toNat+1) ?_ ?_
  ·exact have H:=H.frs [4,3,3,3,4] rfl;X6 ⟨E.to rfl,H,Y0,hm⟩
  ·clear E H hm
   rintro k1 a w ⟨v19,l16,x17,x18,l20,rs21,E,H,hs22,hm⟩
   cases k1 with
   | zero=>exact (bT hm rfl).elim
   | succ k1=>
    unfold dN at hm
    refine wp_seq<|sq<|pr 2 E rfl fun a E=>sv E rfl rfl rfl (iZ (i:=0) E H rfl rfl rfl U70) fun a E=>pr 1 E rfl fun a E=>nt<|wif E hm rfl (fun hm=>?_) fun hm=>?_
    ·refine wp_skip<|aC<|aT (fun a w=>∃ v25 l23 x24 l26 rs27,Env 42 a [(0,v1),(1,.func (.func 296) #[] #[pt p3 0,pt p5 0,pt p10 0]),(5,.int .i64 x24),(6,.int .i64 x18)]∧Sep w (Row 35 aX v1 l23::Blk p3 9 [.string s4]::Blk p5 73 [v12,v25]::Blk p10 3 [.int .i64 x11]::Row 215 aO v25 l26::Fo) rs27∧(∀ r,r ∈ rs→r ∈ rs27)∧eK (dN s4 x11 k1) x18 l23 x24 l26=some r) ?_ ?_
     ·refine wp_block<|sq<|pr 2 E rfl fun a E=>bd hm fun x29 hx30 hm=>?_
      obtain ⟨p31,x32,hx33⟩:=H.rowformNE (i:=0) rfl hx30
      refine sv E rfl rfl rfl (cY (d:=aX) E hx33 rfl rfl rfl rfl U70 pK hx30) fun a E=>sv E rfl rfl rfl (fZ (i:=0) E H hB hx33 rfl rfl rfl hx30 (us:=[.int .i64 x29.Session,.int .i64 x29.Num,.string x29.Path,.bool x29.Deep]) rfl U35 rfl pK) fun a E=>al E H rfl rfl rfl rfl Qs fun p34 w a H E=>aZ (i:=0) E H (wn rfl) rfl rfl rfl rfl rfl rfl pK rfl rfl fun w H=>nx<|pr 1 E rfl fun a E=>sv E rfl rfl rfl (cA (i:=0) (us:=(dL x29)) E H rfl rfl rfl rfl U35 rfl pK) fun a E=>have H:=H.frs [1,1,4,5,5,5] rfl;bd hm fun u35 hx36 hm=>?_
      refine aU E (wn rfl) rfl rfl (bP E rfl rfl rfl (Lz _)) (E7 H hx36)<|?_
      rintro _ w ⟨v37,rfl,H⟩ a E
      refine pr 1 E rfl fun a E=>nt<|wif E hm rfl (fun hm=>?_) fun hm=>?_
      ·refine sq<|pr 2 E rfl fun a E=>sv E rfl rfl rfl (cA (i:=4) (us:=(dL x29)) E H rfl rfl rfl rfl U35 rfl pK) fun a E=>bd hm fun x38 hx39 hm=>?_
       obtain ⟨p40,x41,hx42⟩:=H.rowformNE (i:=5) rfl hx39
       refine sv E rfl rfl rfl (cY (d:=aX) E hx42 rfl rfl rfl rfl U70 pK hx39) fun a E=>yO (d:=aX) (i:=5) (us:=[.int .i64 x29.Session,.int .i64 x29.Num,.string x29.Path,.bool x29.Deep]) (z':=x29) E H hB (wn rfl) rfl hx42 rfl rfl rfl rfl rfl rfl rfl hx39 pK fun w H=>nt<|wp_region_lit<|pr 3 E rfl fun a E=>wpList_nil<|bY<|aC<|have H:=H.drop 4;?_
       exact have H:=H.frs [3,3,3,3,4] rfl;X5 ⟨E.to rfl,H,hs22,hm⟩
      ·exact wp_skip<|bY<|aC<|have H:=H.drop 4;have H:=H.frs [3,3,3,3,4] rfl;X5 ⟨E.to rfl,H,hs22,hm⟩
     ·clear E H hm
      rintro a w ⟨v25,l23,x24,l26,rs27,E,H,hs28,hm⟩
      unfold eK at hm
      exact wp_region_lit<|pr 3 E rfl fun a E=>nt<|⟨k1,Nat.lt_succ_self k1,X6 ⟨E.to rfl,H,hs28,hm⟩⟩
    ·refine wp_exit<|bH<|bH<|dG<|aC<|sq<|pr 2 E rfl fun a E=>bk hm fun hx44 hm=>sv E rfl rfl rfl (F9 (d:=aX) (i:=0) E H rfl rfl rfl rfl U70 pK hx44) fun a E=>?_
     refine c9 (i:=0) (z0:=(⟨0,0,⟨#[]⟩,false⟩:aK)) E H hB (wn rfl) rfl rfl rfl U70 Wk rfl rfl rfl hx44 fun w H=>nx<|pr 2 E rfl fun a E=>bk hm fun hx46 hm=>w9 (i:=0) E H hB (wn rfl) rfl rfl rfl rfl rfl rfl U70 pK hx46 fun v47 a H E=>pr 1 E rfl fun a E=>nt<|wp_ret<|aY E rfl rfl<|?_
     cases hm
     exact ⟨_,_,rfl,H.reads hs22⟩

def pD (x1:Int):Option Bool:=
  if (decide (x1 ≥ 1))=true then (some (decide (x1 ≤ 281474976710656))) else (some (false))
theorem wF {w:World} {Fo:List Ob} {rs:List Rp} {x1:Int} (H:Sep w (Fo) rs) {r:Bool} (hm:pD x1=some r) :
    Calls Tryz.prog 229 [.int .i64 x1].toArray w (Ret fun v w'=>.bool r=v∧Sep w' (Fo) (rs)):=by
 unfold pD at hm
 refine ent Tryz.func229 rfl Tryz.ntmps229 rfl rfl fun a E=>sq<|pr 1 E rfl fun a E=>nx<|pr 3 E rfl fun a E=>cs hm (fun hb2 hm=>?_) fun hb2 hm=>?_
 ·refine pk 4 E (kc 5 rfl hb2) rfl fun a E=>nt<|wp_ret<|aY E rfl rfl<|?_
  cases hm
  exact ⟨rfl,H.reads Y0⟩
 ·refine pk 4 E (kc 5 rfl hb2) rfl fun a E=>nt<|wp_ret<|aY E rfl rfl<|?_
  cases hm
  exact ⟨rfl,H.reads Y0⟩

def gX (rec_1:Int→Option Bool) (x8:Int) (b15:Bool):Option Bool:=
  if b15=true then (some (false)) else (rec_1 (IntKind.i64.wrap (x8+1)))
def fL (x1:aD):Nat→Int→Option Bool
  | 0,_=>none
  | k1+1,x8=>
    if (decide (x8 < (x1.Events.length:Int)))=true then ((idx x1.Events x8).bind fun x11=>if (x11.Num != (IntKind.i64.wrap ((IntKind.i64.wrap ((IntKind.i64.wrap (x1.Count - (x1.Events.length:Int)))+1))+x8)))=true then (gX (fL x1 k1) x8 true) else (if (decide (x11.Num < 1))=true then (gX (fL x1 k1) x8 true) else (if (decide (x11.Kind < 1))=true then (gX (fL x1 k1) x8 true) else (if (decide (x11.Kind > 4))=true then (gX (fL x1 k1) x8 true) else ((fA x11.Path).bind fun u22=>if (!u22)=true then (gX (fL x1 k1) x8 true) else ((pD x11.Watch).bind fun u25=>gX (fL x1 k1) x8 (!u25))))))) else (some (true))
def lH (x1:aD) (b5:Bool):Option Bool:=
  if b5=true then (some (false)) else (fL x1 (((x1.Events.length:Int) - 0:Int).toNat+1) 0)
def zE (x1:aD):Option Bool:=
  (pD x1.Num).bind fun u27=>if (!u27)=true then (lH x1 true) else (if (decide (x1.Count < 0))=true then (lH x1 true) else (if (decide (x1.Count > 281474976710656))=true then (lH x1 true) else (lH x1 (decide ((x1.Events.length:Int) > 8)))))
theorem Au {w:World} {Fo:List Ob} {rs:List Rp} {x1:aD} {v2:Value} (H:Sep w (Fo) rs) (hr3:rSl aV v2 x1.Events ∈ rs) {r:Bool} (hm:zE x1=some r) :
    Calls Tryz.prog 228 [.agg (kT x1 v2).toArray].toArray w (Ret fun v w'=>.bool r=v∧Sep w' (Fo) (rs)):=by
 unfold zE at hm
 refine ent Tryz.func228 rfl Tryz.ntmps228 rfl rfl fun a E=>sq<|bS E H (wn rfl) rfl rfl rfl rfl rfl fun p4 w a H E=>pr 1 E rfl fun a E=>nt<|wp_seq<|aT (fun a w=>∃ b5 rs6,Env 75 a [(1,pt p4 0),(25,.bool b5)]∧Sep w (Blk p4 215 (kT x1 v2)::Fo) rs6∧(∀ r,r ∈ rs→r ∈ rs6)∧lH x1 b5=some r) ?_ ?_
 ·refine wp_region_lit<|pr 1 E rfl fun a E=>lb E H 0 rfl rfl rfl rfl rfl rfl rfl U2 rfl fun a E=>bd hm fun u27 hx28 hm=>xk E rfl rfl rfl rfl rfl Cx (wF H hx28) fun w H a E=>pr 2 E rfl fun a E=>cs hm (fun hb29 hm=>?_) fun hb29 hm=>?_
  ·exact pk 15 E (kc 10 rfl hb29) rfl fun a E=>nt<|⟨_,_,E.to rfl,H,Y0,hm⟩
  ·refine pk 1 E (kc 10 rfl hb29) rfl fun a E=>aQ E (ws' (d:=10) E rfl rfl rfl rfl hb29) rfl rfl (cD (i:=0) E H rfl rfl rfl rfl U2 rfl) fun a E=>pk 3 E (kc 10 rfl hb29) rfl fun a E=>cs hm (fun hb30 hm=>?_) fun hb30 hm=>?_
   ·exact pk 10 E (kc 15 rfl hb30) rfl fun a E=>nt<|⟨_,_,E.to rfl,H,Y0,hm⟩
   ·refine pk 1 E (kc 15 rfl hb30) rfl fun a E=>aQ E (ws' (d:=15) E rfl rfl rfl rfl hb30) rfl rfl (cD (i:=0) E H rfl rfl rfl rfl U2 rfl) fun a E=>pk 3 E (kc 15 rfl hb30) rfl fun a E=>cs hm (fun hb31 hm=>?_) fun hb31 hm=>?_
    ·exact pk 5 E (kc 20 rfl hb31) rfl fun a E=>nt<|⟨_,_,E.to rfl,H,Y0,hm⟩
    ·exact pk 1 E (kc 20 rfl hb31) rfl fun a E=>aQ E (ws' (d:=20) E rfl rfl rfl rfl hb31) rfl rfl (cD (i:=0) E H rfl rfl rfl rfl U44 rfl) fun a E=>aQ E (ws' (d:=20) E rfl rfl rfl rfl hb31) rfl rfl (cR E H rfl rfl hr3 U44) fun a E=>pk 2 E (kc 20 rfl hb31) rfl fun a E=>nt<|⟨_,_,E.to rfl,H,Y0,hm⟩
 ·clear E H hm
  rintro a w ⟨b5,rs6,E,H,hs7,hm⟩
  unfold lH at hm
  refine wif E hm rfl (fun hm=>?_) fun hm=>?_
  ·refine sq<|pr 1 E rfl fun a E=>nt<|wp_ret<|aP<|aY E rfl rfl<|have H:=H.drop 0;?_
   cases hm
   exact ⟨rfl,H.reads hs7⟩
  ·refine wp_skip<|aC<|sq<|pr 1 E rfl fun a E=>lb E H 0 rfl rfl rfl rfl rfl rfl rfl U2 rfl fun a E=>pr 1 E rfl fun a E=>lb E H 0 rfl rfl rfl rfl rfl rfl rfl U44 rfl fun a E=>sv E rfl rfl rfl (cR E H rfl rfl (hs7 _ hr3) U44) fun a E=>pr 3 E rfl fun a E=>?_
   refine nt<|wp_seq<|sq<|pr 1 E rfl fun a E=>lb E H 0 rfl rfl rfl rfl rfl rfl rfl U44 rfl fun a E=>sv E rfl rfl rfl (cR E H rfl rfl (hs7 _ hr3) U44) fun a E=>pr 1 E rfl fun a E=>nt<|wp_block<|bX (fun k1 a w=>∃ x8 rs9,Env 75 a [(3,.int .i64 (IntKind.i64.wrap ((IntKind.i64.wrap (x1.Count - (x1.Events.length:Int)))+1))),(34,v2),(35,.int .i64 (x1.Events.length:Int)),(36,.int .i64 x8)]∧Sep w (Fo) rs9∧(∀ r,r ∈ rs→r ∈ rs9)∧fL x1 k1 x8=some r) (((x1.Events.length:Int) - 0:Int).toNat+1) ?_ ?_
   ·exact have H:=H.drop 0;⟨_,_,E.to rfl,H,hs7,hm⟩
   ·clear E H hm
    rintro k1 a w ⟨x8,rs9,E,H,hs10,hm⟩
    cases k1 with
    | zero=>exact (bT hm rfl).elim
    | succ k1=>
     unfold fL at hm
     refine sq<|pr 1 E rfl fun a E=>nt<|wp_seq<|wif E hm rfl (fun hm=>?_) fun hm=>?_
     ·refine wp_skip<|aC<|wp_seq<|wp_block<|sq<|pr 1 E rfl fun a E=>bd hm fun x11 hx12 hm=>dE E H (wn rfl) rfl rfl rfl rfl rfl (hs10 _ hr3) U44 rM hx12 fun q13 a H E=>ldf mZ E H rfl rfl rfl rfl rfl m0 Bf rfl rM fun a E=>?_
      refine al E H rfl rfl rfl rfl Hf fun p14 w a H E=>pr 1 E rfl fun a E=>aZ (i:=0) E H (wn rfl) rfl rfl rfl rfl rfl rfl rM rfl rfl fun w H=>nt<|aT (fun a w=>∃ b15 rs16,Env 75 a [(3,.int .i64 (IntKind.i64.wrap ((IntKind.i64.wrap (x1.Count - (x1.Events.length:Int)))+1))),(34,v2),(35,.int .i64 (x1.Events.length:Int)),(36,.int .i64 x8),(73,.bool b15)]∧Sep w (Fo) rs16∧(∀ r,r ∈ rs→r ∈ rs16)∧gX (fL x1 k1) x8 b15=some r) ?_ ?_
      ·refine wp_region_lit<|pr 1 E rfl fun a E=>lb E H 0 rfl rfl rfl rfl rfl rfl rfl U2 rfl fun a E=>pr 5 E rfl fun a E=>cs hm (fun hb18 hm=>?_) fun hb18 hm=>?_
       ·exact pk 26 E (kc 47 rfl hb18) rfl fun a E=>nt<|have H:=H.drop 0;⟨_,_,E.to rfl,H,(Y1 hs10),hm⟩
       ·refine pk 1 E (kc 47 rfl hb18) rfl fun a E=>aQ E (ws' (d:=47) E rfl rfl rfl rfl hb18) rfl rfl (cD (i:=0) E H rfl rfl rfl rfl U2 rfl) fun a E=>pk 3 E (kc 47 rfl hb18) rfl fun a E=>cs hm (fun hb19 hm=>?_) fun hb19 hm=>?_
        ·exact pk 21 E (kc 52 rfl hb19) rfl fun a E=>nt<|have H:=H.drop 0;⟨_,_,E.to rfl,H,(Y1 hs10),hm⟩
        ·refine pk 1 E (kc 52 rfl hb19) rfl fun a E=>aQ E (ws' (d:=52) E rfl rfl rfl rfl hb19) rfl rfl (cD (i:=0) E H rfl rfl rfl rfl U3 rfl) fun a E=>pk 3 E (kc 52 rfl hb19) rfl fun a E=>cs hm (fun hb20 hm=>?_) fun hb20 hm=>?_
         ·exact pk 16 E (kc 57 rfl hb20) rfl fun a E=>nt<|have H:=H.drop 0;⟨_,_,E.to rfl,H,(Y1 hs10),hm⟩
         ·refine pk 1 E (kc 57 rfl hb20) rfl fun a E=>aQ E (ws' (d:=57) E rfl rfl rfl rfl hb20) rfl rfl (cD (i:=0) E H rfl rfl rfl rfl U3 rfl) fun a E=>pk 3 E (kc 57 rfl hb20) rfl fun a E=>cs hm (fun hb21 hm=>?_) fun hb21 hm=>?_
          ·exact pk 11 E (kc 62 rfl hb21) rfl fun a E=>nt<|have H:=H.drop 0;⟨_,_,E.to rfl,H,(Y1 hs10),hm⟩
          ·refine pk 1 E (kc 62 rfl hb21) rfl fun a E=>aQ E (ws' (d:=62) E rfl rfl rfl rfl hb21) rfl rfl (cD (i:=0) E H rfl rfl rfl rfl U9 rfl) fun a E=>bd hm fun u22 hx23 hm=>aU E (ws' (d:=62) E rfl rfl rfl rfl hb21) rfl rfl (cC E rfl rfl (yU _)) (gC H hx23)<|?_
           rintro _ w ⟨rfl,H⟩ a E
           refine pk 3 E (kc 62 rfl hb21) rfl fun a E=>cs hm (fun hb24 hm=>?_) fun hb24 hm=>?_
           ·exact pk 5 E (kc 68 rfl hb24) rfl fun a E=>nt<|have H:=H.drop 0;⟨_,_,E.to rfl,H,(Y1 hs10),hm⟩
           ·refine pk 1 E (kc 68 rfl hb24) rfl fun a E=>aQ E (ws' (d:=68) E rfl rfl rfl rfl hb24) rfl rfl (cD (i:=0) E H rfl rfl rfl rfl U2 rfl) fun a E=>bd hm fun u25 hx26 hm=>aU E (ws' (d:=68) E rfl rfl rfl rfl hb24) rfl rfl (cC E rfl rfl (Cx _)) (wF H hx26)<|?_
            rintro _ w ⟨rfl,H⟩ a E
            exact pk 2 E (kc 68 rfl hb24) rfl fun a E=>nt<|have H:=H.drop 0;⟨_,_,E.to rfl,H,(Y1 hs10),hm⟩
      ·clear E H hm
       rintro a w ⟨b15,rs16,E,H,hs17,hm⟩
       unfold gX at hm
       refine wif E hm rfl (fun hm=>?_) fun hm=>?_
       ·refine sq<|pr 1 E rfl fun a E=>nt<|wp_ret<|bV<|aP<|aP<|bV<|aP<|?_
        refine aY E rfl rfl<|?_
        cases hm
        exact ⟨rfl,H.reads hs17⟩
       ·exact wp_skip<|bY<|aC<|wp_region_lit<|pr 2 E rfl fun a E=>nt<|⟨k1,Nat.lt_succ_self k1,_,_,E.to rfl,H,hs17,hm⟩
     ·refine wp_exit<|bH<|bH<|dG<|aC<|sq<|pr 1 E rfl fun a E=>nt<|wp_ret<|?_
      refine aY E rfl rfl<|?_
      cases hm
      exact ⟨rfl,H.reads hs10⟩

def oY (x1:aD):Option Bool:=
  (zE x1).bind fun u6=>some (!u6)
theorem n4 {w:World} {Fo:List Ob} {rs:List Rp} {x1:aD} {v2:Value} {p3:Nat} (H:Sep w (Blk p3 277 [.func (.func 228) #[] #[]]::Fo) rs) (hr4:rSl aV v2 x1.Events ∈ rs) {r:Bool} (hm:oY x1=some r) :
    Calls Tryz.prog 283 [.agg (kT x1 v2).toArray,pt p3 0].toArray w (Ret fun v w'=>.bool r=v∧Sep w' (Blk p3 277 [.func (.func 228) #[] #[]]::Fo) (rs)):=by
 unfold oY at hm
 refine ent Tryz.func283 rfl Tryz.ntmps283 rfl rfl fun a E=>sq<|bS E H (wn rfl) rfl rfl rfl rfl rfl fun p5 w a H E=>pr 1 E rfl fun a E=>nx<|lb E H 1 rfl rfl rfl rfl rfl rfl rfl Yh rfl fun a E=>sv E rfl rfl rfl (cA (i:=0) (us:=(kT x1 v2)) E H rfl rfl rfl rfl Be rfl rL) fun a E=>bd hm fun u6 hx7 hm=>aU E (wn rfl) rfl rfl (bP E rfl rfl rfl (Ut _)) (Au H hr4 hx7)<|?_
 rintro _ w ⟨rfl,H⟩ a E
 refine pr 2 E rfl fun a E=>nt<|wp_ret<|aY E rfl rfl<|have H:=H.drop 0;?_
 cases hm
 exact ⟨rfl,H.reads Y0⟩

def eD (l2:List aD):Nat→Int→Option Int
  | 0,_=>none
  | k1+1,x5=>
    if (decide (x5 < (l2.length:Int)))=true then ((idx l2 x5).bind fun x8=>(oY x8).bind fun u13=>if u13=true then (some (x5)) else (eD l2 k1 (IntKind.i64.wrap (x5+1)))) else (some ((-1)))
def gO (l2:List aD):Option Int:=
  eD l2 (((l2.length:Int) - 0:Int).toNat+1) 0
theorem rT {w:World} {Fo:List Ob} {rs:List Rp} {v1:Value} {l2:List aD} {p3:Nat} (H:Sep w (Blk p3 277 [.func (.func 228) #[] #[]]::Fo) rs) (hr4:rSl aO v1 l2 ∈ rs) {r:Int} (hm:gO l2=some r) :
    Calls Tryz.prog 322 [v1,.func (.func 283) #[] #[pt p3 0]].toArray w (Ret fun v w'=>.int .i64 r=v∧Sep w' (Blk p3 277 [.func (.func 228) #[] #[]]::Fo) (rs)):=by
 unfold gO at hm
 refine ent Tryz.func322 rfl Tryz.ntmps322 rfl rfl fun a E=>sq<|pr 1 E rfl fun a E=>nt<|wp_seq<|sq<|pr 1 E rfl fun a E=>sv E rfl rfl rfl (cR E H rfl rfl hr4 U71) fun a E=>pr 1 E rfl fun a E=>?_
 refine nt<|wp_block<|bX (fun k1 a w=>∃ x5 rs6,Env 19 a [(0,v1),(1,.func (.func 283) #[] #[pt p3 0]),(7,.int .i64 (l2.length:Int)),(8,.int .i64 x5)]∧Sep w (Blk p3 277 [.func (.func 228) #[] #[]]::Fo) rs6∧(∀ r,r ∈ rs→r ∈ rs6)∧eD l2 k1 x5=some r) (((l2.length:Int) - 0:Int).toNat+1) ?_ ?_
 ·exact ⟨_,_,E.to rfl,H,Y0,hm⟩
 ·clear E H hm
  rintro k1 a w ⟨x5,rs6,E,H,hs7,hm⟩
  cases k1 with
  | zero=>exact (bT hm rfl).elim
  | succ k1=>
   unfold eD at hm
   refine sq<|pr 1 E rfl fun a E=>nt<|wp_seq<|wif E hm rfl (fun hm=>?_) fun hm=>?_
   ·refine wp_skip<|aC<|wp_seq<|wp_block<|sq<|pr 2 E rfl fun a E=>nx<|pr 3 E rfl fun a E=>bd hm fun x8 hx9 hm=>?_
    refine dE E H (wn rfl) rfl rfl rfl rfl rfl (hs7 _ hr4) U71 rL hx9 fun q10 a H E=>K6 E H (wn rfl) rfl rfl rfl rfl m0 Be rfl rL fun u11 a H E=>?_
    obtain ⟨v12,rfl,h⟩:=j5 H;clear H;have H:=h
    refine bd hm fun u13 hx14 hm=>aU E (wn rfl) rfl rfl (bP E rfl rfl rfl (Us _)) (n4 H m0 hx14)<|?_
    rintro _ w ⟨rfl,H⟩ a E
    refine nt<|wif E hm rfl (fun hm=>?_) fun hm=>?_
    ·refine sq<|pr 2 E rfl fun a E=>nt<|wp_ret<|bV<|aP<|aP<|bV<|aP<|?_
     refine aY E rfl rfl<|?_
     cases hm
     exact ⟨rfl,H.reads (Y3 hs7)⟩
    ·exact wp_skip<|bY<|aC<|wp_region_lit<|pr 2 E rfl fun a E=>nt<|⟨k1,Nat.lt_succ_self k1,_,_,E.to rfl,H,(Y3 hs7),hm⟩
   ·refine wp_exit<|bH<|bH<|dG<|aC<|sq<|pr 1 E rfl fun a E=>nt<|wp_ret<|?_
    refine aY E rfl rfl<|?_
    cases hm
    exact ⟨rfl,H.reads hs7⟩

def gF (l2:List aD):Option Bool:=
  (gO l2).bind fun u5=>some (decide (u5 ≥ 0))
theorem qW {w:World} {Fo:List Ob} {rs:List Rp} {v1:Value} {l2:List aD} {p3:Nat} (H:Sep w (Blk p3 277 [.func (.func 228) #[] #[]]::Fo) rs) (hr4:rSl aO v1 l2 ∈ rs) {r:Bool} (hm:gF l2=some r) :
    Calls Tryz.prog 282 [v1,.func (.func 283) #[] #[pt p3 0]].toArray w (Ret fun v w'=>.bool r=v∧Sep w' (Blk p3 277 [.func (.func 228) #[] #[]]::Fo) (rs)):=by
 unfold gF at hm
 refine ent Tryz.func282 rfl Tryz.ntmps282 rfl rfl fun a E=>sq<|pr 1 E rfl fun a E=>nx<|pr 2 E rfl fun a E=>bd hm fun u5 hx6 hm=>xk E rfl rfl rfl rfl rfl Ur (rT H hr4 hx6) fun w H a E=>pr 2 E rfl fun a E=>nt<|?_
 refine wp_ret<|aY E rfl rfl<|?_
 cases hm
 exact ⟨rfl,H.reads Y0⟩

def qD (l2:List aD):Option Bool:=
  (gF l2).bind fun u5=>some (!u5)
theorem w5 {w:World} {Fo:List Ob} {rs:List Rp} {v1:Value} {l2:List aD} (H:Sep w (Fo) rs) (hr3:rSl aO v1 l2 ∈ rs) {r:Bool} (hm:qD l2=some r) :
    Calls Tryz.prog 227 [v1,.func (.func 228) #[] #[]].toArray w (Ret fun v w'=>.bool r=v∧Sep w' (Fo) (rs)):=by
 unfold qD at hm
 refine ent Tryz.func227 rfl Tryz.ntmps227 rfl rfl fun a E=>sq<|bS E H (wn rfl) rfl rfl rfl rfl rfl fun p4 w a H E=>pr 1 E rfl fun a E=>nx<|pr 1 E rfl fun a E=>sv E rfl rfl rfl (iP E rfl rfl rfl) fun a E=>bd hm fun u5 hx6 hm=>xk E rfl rfl rfl rfl rfl Uq (qW H hr3 hx6) fun w H a E=>?_
 refine pr 2 E rfl fun a E=>nt<|wp_ret<|aY E rfl rfl<|have H:=H.drop 0;?_
 cases hm
 exact ⟨rfl,H.reads Y0⟩

def xP (x1:aK):Option Bool:=
  (pD x1.Session).bind fun u3=>if u3=true then ((pD x1.Num).bind fun u6=>if u6=true then ((fA x1.Path).bind fun u9=>some (u9)) else (some (false))) else (some (false))
theorem J3 {w:World} {Fo:List Ob} {rs:List Rp} {x1:aK} (H:Sep w (Fo) rs) {r:Bool} (hm:xP x1=some r) :
    Calls Tryz.prog 161 [.agg (dL x1).toArray].toArray w (Ret fun v w'=>.bool r=v∧Sep w' (Fo) (rs)):=by
 unfold xP at hm
 refine ent Tryz.func161 rfl Tryz.ntmps161 rfl rfl fun a E=>sq<|bS E H (wn rfl) rfl rfl rfl rfl rfl fun p2 w a H E=>pr 1 E rfl fun a E=>nx<|pr 1 E rfl fun a E=>lb E H 0 rfl rfl rfl rfl rfl rfl rfl U2 rfl fun a E=>bd hm fun u3 hx4 hm=>xk E rfl rfl rfl rfl rfl Cx (wF H hx4) fun w H a E=>?_
 refine pr 1 E rfl fun a E=>cs hm (fun hb5 hm=>?_) fun hb5 hm=>?_
 ·refine pk 1 E (kc 6 rfl hb5) rfl fun a E=>aQ E (ws' (d:=6) E rfl rfl rfl rfl hb5) rfl rfl (cD (i:=0) E H rfl rfl rfl rfl U2 rfl) fun a E=>bd hm fun u6 hx7 hm=>aU E (ws' (d:=6) E rfl rfl rfl rfl hb5) rfl rfl (cC E rfl rfl (Cx _)) (wF H hx7)<|?_
  rintro _ w ⟨rfl,H⟩ a E
  refine pk 2 E (kc 6 rfl hb5) rfl fun a E=>cs hm (fun hb8 hm=>?_) fun hb8 hm=>?_
  ·refine pk 1 E (kc 11 rfl hb8) rfl fun a E=>aQ E (ws' (d:=11) E rfl rfl rfl rfl hb8) rfl rfl (cD (i:=0) E H rfl rfl rfl rfl U9 rfl) fun a E=>bd hm fun u9 hx10 hm=>aU E (ws' (d:=11) E rfl rfl rfl rfl hb8) rfl rfl (cC E rfl rfl (yU _)) (gC H hx10)<|?_
   rintro _ w ⟨rfl,H⟩ a E
   refine pk 2 E (kc 11 rfl hb8) rfl fun a E=>nt<|wp_ret<|aY E rfl rfl<|have H:=H.drop 0;?_
   cases hm
   exact ⟨rfl,H.reads Y0⟩
  ·refine pk 5 E (kc 11 rfl hb8) rfl fun a E=>nt<|wp_ret<|aY E rfl rfl<|have H:=H.drop 0;?_
   cases hm
   exact ⟨rfl,H.reads Y0⟩
 ·refine pk 10 E (kc 6 rfl hb5) rfl fun a E=>nt<|wp_ret<|aY E rfl rfl<|have H:=H.drop 0;?_
  cases hm
  exact ⟨rfl,H.reads Y0⟩

def qE (x1:aK):Option Bool:=
  (xP x1).bind fun u4=>some (!u4)
theorem w6 {w:World} {Fo:List Ob} {rs:List Rp} {x1:aK} {p2:Nat} (H:Sep w (Blk p2 211 [.func (.func 161) #[] #[]]::Fo) rs) {r:Bool} (hm:qE x1=some r) :
    Calls Tryz.prog 281 [.agg (dL x1).toArray,pt p2 0].toArray w (Ret fun v w'=>.bool r=v∧Sep w' (Blk p2 211 [.func (.func 161) #[] #[]]::Fo) (rs)):=by
 unfold qE at hm
 refine ent Tryz.func281 rfl Tryz.ntmps281 rfl rfl fun a E=>sq<|bS E H (wn rfl) rfl rfl rfl rfl rfl fun p3 w a H E=>pr 1 E rfl fun a E=>nx<|lb E H 1 rfl rfl rfl rfl rfl rfl rfl Yg rfl fun a E=>sv E rfl rfl rfl (cA (i:=0) (us:=(dL x1)) E H rfl rfl rfl rfl U35 rfl pK) fun a E=>bd hm fun u4 hx5 hm=>aU E (wn rfl) rfl rfl (bP E rfl rfl rfl (Lq _)) (J3 H hx5)<|?_
 rintro _ w ⟨rfl,H⟩ a E
 refine pr 2 E rfl fun a E=>nt<|wp_ret<|aY E rfl rfl<|have H:=H.drop 0;?_
 cases hm
 exact ⟨rfl,H.reads Y0⟩

def eT (l2:List aK):Nat→Int→Option Int
  | 0,_=>none
  | k1+1,x5=>
    if (decide (x5 < (l2.length:Int)))=true then ((idx l2 x5).bind fun x8=>(qE x8).bind fun u11=>if u11=true then (some (x5)) else (eT l2 k1 (IntKind.i64.wrap (x5+1)))) else (some ((-1)))
def iJ (l2:List aK):Option Int:=
  eT l2 (((l2.length:Int) - 0:Int).toNat+1) 0
theorem tW {w:World} {Fo:List Ob} {rs:List Rp} {v1:Value} {l2:List aK} {p3:Nat} (H:Sep w (Blk p3 211 [.func (.func 161) #[] #[]]::Fo) rs) (hr4:rSl aX v1 l2 ∈ rs) {r:Int} (hm:iJ l2=some r) :
    Calls Tryz.prog 230 [v1,.func (.func 281) #[] #[pt p3 0]].toArray w (Ret fun v w'=>.int .i64 r=v∧Sep w' (Blk p3 211 [.func (.func 161) #[] #[]]::Fo) (rs)):=by
 unfold iJ at hm
 refine ent Tryz.func230 rfl Tryz.ntmps230 rfl rfl fun a E=>sq<|pr 1 E rfl fun a E=>nt<|wp_seq<|sq<|pr 1 E rfl fun a E=>sv E rfl rfl rfl (cR E H rfl rfl hr4 U70) fun a E=>pr 1 E rfl fun a E=>?_
 refine nt<|wp_block<|bX (fun k1 a w=>∃ x5 rs6,Env 19 a [(0,v1),(1,.func (.func 281) #[] #[pt p3 0]),(7,.int .i64 (l2.length:Int)),(8,.int .i64 x5)]∧Sep w (Blk p3 211 [.func (.func 161) #[] #[]]::Fo) rs6∧(∀ r,r ∈ rs→r ∈ rs6)∧eT l2 k1 x5=some r) (((l2.length:Int) - 0:Int).toNat+1) ?_ ?_
 ·exact ⟨_,_,E.to rfl,H,Y0,hm⟩
 ·clear E H hm
  rintro k1 a w ⟨x5,rs6,E,H,hs7,hm⟩
  cases k1 with
  | zero=>exact (bT hm rfl).elim
  | succ k1=>
   unfold eT at hm
   refine sq<|pr 1 E rfl fun a E=>nt<|wp_seq<|wif E hm rfl (fun hm=>?_) fun hm=>?_
   ·refine wp_skip<|aC<|wp_seq<|wp_block<|sq<|pr 2 E rfl fun a E=>nx<|pr 3 E rfl fun a E=>bd hm fun x8 hx9 hm=>?_
    refine dE E H (wn rfl) rfl rfl rfl rfl rfl (hs7 _ hr4) U70 pK hx9 fun q10 a H E=>ldf hB E H rfl rfl rfl rfl rfl m0 U35 rfl pK fun a E=>bd hm fun u11 hx12 hm=>aU E (wn rfl) rfl rfl (bP E rfl rfl rfl (Uo _)) (w6 H hx12)<|?_
    rintro _ w ⟨rfl,H⟩ a E
    refine nt<|wif E hm rfl (fun hm=>?_) fun hm=>?_
    ·refine sq<|pr 2 E rfl fun a E=>nt<|wp_ret<|bV<|aP<|aP<|bV<|aP<|?_
     refine aY E rfl rfl<|?_
     cases hm
     exact ⟨rfl,H.reads (Y1 hs7)⟩
    ·exact wp_skip<|bY<|aC<|wp_region_lit<|pr 2 E rfl fun a E=>nt<|⟨k1,Nat.lt_succ_self k1,_,_,E.to rfl,H,(Y1 hs7),hm⟩
   ·refine wp_exit<|bH<|bH<|dG<|aC<|sq<|pr 1 E rfl fun a E=>nt<|wp_ret<|?_
    refine aY E rfl rfl<|?_
    cases hm
    exact ⟨rfl,H.reads hs7⟩

def gT (l2:List aK):Option Bool:=
  (iJ l2).bind fun u5=>some (decide (u5 ≥ 0))
theorem sC {w:World} {Fo:List Ob} {rs:List Rp} {v1:Value} {l2:List aK} {p3:Nat} (H:Sep w (Blk p3 211 [.func (.func 161) #[] #[]]::Fo) rs) (hr4:rSl aX v1 l2 ∈ rs) {r:Bool} (hm:gT l2=some r) :
    Calls Tryz.prog 280 [v1,.func (.func 281) #[] #[pt p3 0]].toArray w (Ret fun v w'=>.bool r=v∧Sep w' (Blk p3 211 [.func (.func 161) #[] #[]]::Fo) (rs)):=by
 unfold gT at hm
 refine ent Tryz.func280 rfl Tryz.ntmps280 rfl rfl fun a E=>sq<|pr 1 E rfl fun a E=>nx<|pr 2 E rfl fun a E=>bd hm fun u5 hx6 hm=>xk E rfl rfl rfl rfl rfl He (tW H hr4 hx6) fun w H a E=>pr 2 E rfl fun a E=>nt<|?_
 refine wp_ret<|aY E rfl rfl<|?_
 cases hm
 exact ⟨rfl,H.reads Y0⟩

def rU (l2:List aK):Option Bool:=
  (gT l2).bind fun u5=>some (!u5)
theorem E8 {w:World} {Fo:List Ob} {rs:List Rp} {v1:Value} {l2:List aK} (H:Sep w (Fo) rs) (hr3:rSl aX v1 l2 ∈ rs) {r:Bool} (hm:rU l2=some r) :
    Calls Tryz.prog 226 [v1,.func (.func 161) #[] #[]].toArray w (Ret fun v w'=>.bool r=v∧Sep w' (Fo) (rs)):=by
 unfold rU at hm
 refine ent Tryz.func226 rfl Tryz.ntmps226 rfl rfl fun a E=>sq<|bS E H (wn rfl) rfl rfl rfl rfl rfl fun p4 w a H E=>pr 1 E rfl fun a E=>nx<|pr 1 E rfl fun a E=>sv E rfl rfl rfl (iP E rfl rfl rfl) fun a E=>bd hm fun u5 hx6 hm=>xk E rfl rfl rfl rfl rfl Un (sC H hr3 hx6) fun w H a E=>?_
 refine pr 2 E rfl fun a E=>nt<|wp_ret<|aY E rfl rfl<|have H:=H.drop 0;?_
 cases hm
 exact ⟨rfl,H.reads Y0⟩

def yE (rec_1:Int→(List ((Int×Int)×Int))→Option Bool) (x8:Int) (x12:(List ((Int×Int)×Int))):Option Bool:=
  rec_1 (IntKind.i64.wrap (x8+1)) x12
def sN (rec_2:Bool→Int→Option Bool) (x40:Int) (b43:Bool):Option Bool:=
  rec_2 b43 (IntKind.i64.wrap (x40+1))
def nC (x1:bM) (x9:(List ((Int×Int)×Int))):Nat→Bool→Int→Option Bool
  | 0,_,_=>none
  | k2+1,b39,x40=>
    if (decide (x40 < (x1.Sessions.length:Int)))=true then (if b39=true then ((idx x1.Sessions (IntKind.i64.wrap (x40 - 1))).bind fun x48=>(idx x1.Sessions x40).bind fun x55=>sN (nC x1 x9 k2) x40 (decide (x48.Num < x55.Num))) else (sN (nC x1 x9 k2) x40 false)) else (if (decide ((x1.Watches.length:Int) ≤ 64))=true then (if ((x9.length:Int) == (x1.Watches.length:Int))=true then ((rU x1.Watches).bind fun u64=>if u64=true then ((qD x1.Sessions).bind fun u67=>if u67=true then (some (b39)) else (some (false))) else (some (false))) else (some (false))) else (some (false)))
def pO (x1:bM):Nat→Int→(List ((Int×Int)×Int))→Option Bool
  | 0,_,_=>none
  | k1+1,x8,x9=>
    if (decide (x8 < (x1.Watches.length:Int)))=true then ((idx x1.Watches x8).bind fun x15=>(mlk xS x9 (x15.Session,x15.Num)).bind fun u20=>(ck (xS.ok (x15.Session,x15.Num)=true∧x9.length+1 < maxLen)).bind fun u22=>yE (pO x1 k1) x8 (lO x9 (x15.Session,x15.Num) (IntKind.i64.wrap ((u20.getD 0)+1)))) else (nC x1 x9 (((x1.Sessions.length:Int) - 1:Int).toNat+1) true 1)
def qN (x1:bM):Option Bool:=
  pO x1 (((x1.Watches.length:Int) - 0:Int).toNat+1) 0 []
theorem xQ {w:World} {Fo:List Ob} {rs:List Rp} {x1:bM} {v2 v3:Value} (H:Sep w (Fo) rs) (hr4:rSl aX v2 x1.Watches ∈ rs) (hr5:rSl aO v3 x1.Sessions ∈ rs) {r:Bool} (hm:qN x1=some r) :
    Calls Tryz.prog 160 [.agg #[v2,v3]].toArray w (Ret fun v w'=>.bool r=v∧Sep w' (Fo) (rs)):=by
 unfold qN at hm
 refine ent Tryz.func160 rfl Tryz.ntmps160 rfl rfl fun a E=>sq<|bS E H (wn rfl) rfl rfl rfl rfl rfl fun p6 w a H E=>pr 1 E rfl fun a E=>nx<|tK (k:=274) (K:=xS) (d:=(kI .i64)) (g:=false) E H (wn rfl) rfl rfl rfl fun p7 w a H E=>pr 1 E rfl fun a E=>nt<|wp_seq<|?_
 refine sq<|pr 1 E rfl fun a E=>lb E H 1 rfl rfl rfl rfl rfl rfl rfl U70 rfl fun a E=>sv E rfl rfl rfl (cR E H rfl rfl hr4 U70) fun a E=>pr 1 E rfl fun a E=>nt<|wp_block<|bX (fun k1 a w=>∃ x8 x9 rs10,Env 76 a [(1,pt p6 0),(3,.map (some p7)),(10,v2),(11,.int .i64 (x1.Watches.length:Int)),(12,.int .i64 x8)]∧Sep w (Blk p6 73 [v2,v3]::cB Tryz.prog 274 xS (kI .i64) false p7 x9::Fo) rs10∧(∀ r,r ∈ rs→r ∈ rs10)∧pO x1 k1 x8 x9=some r) (((x1.Watches.length:Int) - 0:Int).toNat+1) ?_ ?_
 ·exact have H:=H.frs [0,1] rfl;X3 ⟨E.to rfl,H,Y0,hm⟩
 ·clear E H hm
  rintro k1 a w ⟨x8,x9,rs10,E,H,hs11,hm⟩
  cases k1 with
  | zero=>exact (bT hm rfl).elim
  | succ k1=>
   unfold pO at hm
   refine sq<|pr 1 E rfl fun a E=>nt<|wp_seq<|wif E hm rfl (fun hm=>?_) fun hm=>?_
   ·refine wp_skip<|aC<|aT (fun a w=>∃ x12 rs13,Env 76 a [(1,pt p6 0),(3,.map (some p7)),(10,v2),(11,.int .i64 (x1.Watches.length:Int)),(12,.int .i64 x8)]∧Sep w (Blk p6 73 [v2,v3]::cB Tryz.prog 274 xS (kI .i64) false p7 x12::Fo) rs13∧(∀ r,r ∈ rs→r ∈ rs13)∧yE (pO x1 k1) x8 x12=some r) ?_ ?_
    ·refine wp_block<|sq<|bd hm fun x15 hx16 hm=>dE E H (wn rfl) rfl rfl rfl rfl rfl (hs11 _ hr4) U70 pK hx16 fun q17 a H E=>ldf hB E H rfl rfl rfl rfl rfl m0 U35 rfl pK fun a E=>al E H rfl rfl rfl rfl Qs fun p18 w a H E=>aZ (i:=0) E H (wn rfl) rfl rfl rfl rfl rfl rfl pK rfl rfl fun w H=>nt<|bd hm fun u20 hx19 hm=>?_
     refine bk hm fun hx21 hm=>?_
     have hI:dP [Blk p18 35 (dL x15)] [] { w with drawn:=w.drawn+1 }:=⟨_,_,H.kept (Kp.drawn _ w _),(aB m0 (aL)),(aM)⟩
     refine jY _ (.go 0 0 (.go 1 0 (.go 2 0 (.go 3 0 (.go 4 0 (.go 5 0 (.alt 6 (.go 7 0 (.go 8 1 (.go 9 0 (.go 10 2 .nil)))) 8 (.go 9 0 (.go 6 1 (.go 7 0 (.go 10 2 .nil))))))))))) [10] kG (by kernel_rfl) (fun _ _ _ h=>False.elim h.2) hI<|have H:=H.kept (Kp.drawn _ w (w.drawn+1));?_
     generalize ({ w with drawn:=w.drawn+1 }:World)=w at H hI ⊢
     replace hI:∃ W,dP [Blk p18 35 (dL x15)] [] W:=⟨_,hI⟩
     obtain ⟨W0,hI⟩:=hI
     refine aW E rfl (wn rfl) rfl rfl (fun w hW=>(bD E rfl rfl)) fun a E=>aW E rfl (wn rfl) rfl rfl (fun w hW=>iY E rfl rfl (v:=pt p18 0) (Ad _ _)) fun a E=>aW E rfl (wn rfl) rfl rfl (fun w hW=>eZ E rfl rfl (kD m0 rfl U2 rfl w hW)) fun a E=>aW E rfl (wn rfl) rfl rfl (fun w hW=>iY E rfl rfl (v:=pt p18 1) (Em _ _)) fun a E=>aW E rfl (wn rfl) rfl rfl (fun w hW=>eZ E rfl rfl (kD m0 rfl U2 rfl w hW)) fun a E=>aW E rfl (wn rfl) rfl rfl (fun w hW=>(cI E rfl (E.evs rfl) (v:=.agg #[.int .i64 x15.Session,.int .i64 x15.Num]) (by kernel_rfl))) fun a E=>?_
     refine kM rfl rfl ?_ ?_
     ·refine sv E rfl rfl rfl (Ef (i:=2) (K:=xS) (z0:=0) (u:=u20) E H rfl rfl rfl rfl E1 V3 Eo hx19) fun a E=>nt<|?_
      refine ⟨⟨_,_,H,(aB m0 (aL)),(aM)⟩,?_⟩
      refine aW E rfl (wn rfl) rfl rfl (fun w hW=>(iX E rfl rfl rfl rfl)) fun a E=>cJ rfl<|R3 (i:=2) (K:=xS) (z0:=0) E H (wn rfl) rfl rfl rfl rfl rfl rfl E1 V3 Eo hx21 fun q33 w a H E=>nt<|?_
      refine ⟨⟨_,_,H,(aB m0 (aL)),(aM)⟩,?_⟩
      refine aW E rfl (wn rfl) rfl rfl (fun w hW=>(cX E rfl rfl rfl)) fun a E=>cP rfl<|I6 (i:=2) (K:=xS) E H (wn rfl) rfl rfl rfl rfl rfl rfl E1 V3 fun w H=>nt<|dW<|?_
      clear hI
      exact bY<|aC<|have H:=H.drop 0;⟨_,_,E.to rfl,H,(Y1 hs11),hm⟩
     ·refine R3 (i:=2) (K:=xS) (z0:=0) E H (wn rfl) rfl rfl rfl rfl rfl rfl E1 V3 Eo hx21 fun q36 w a H E=>nt<|?_
      refine ⟨⟨_,_,H,(aB m0 (aL)),(aM)⟩,?_⟩
      refine aW E rfl (wn rfl) rfl rfl (fun w hW=>(cX E rfl rfl rfl)) fun a E=>cJ rfl<|sv E rfl rfl rfl (Ki (i:=2) (K:=xS) (z0:=0) (u:=u20) E H rfl rfl rfl rfl E1 V3 Eo hx19) fun a E=>nt<|?_
      refine ⟨⟨_,_,H,(aB m0 (aL)),(aM)⟩,?_⟩
      refine aW E rfl (wn rfl) rfl rfl (fun w hW=>(iX E rfl rfl rfl rfl)) fun a E=>cP rfl<|I6 (i:=2) (K:=xS) E H (wn rfl) rfl rfl rfl rfl rfl rfl E1 V3 fun w H=>nt<|dW<|?_
      clear hI
      exact bY<|aC<|have H:=H.drop 0;⟨_,_,E.to rfl,H,(Y1 hs11),hm⟩
    ·clear E H hm
     rintro a w ⟨x12,rs13,E,H,hs14,hm⟩
     unfold yE at hm
     exact wp_region_lit<|pr 2 E rfl fun a E=>nt<|⟨k1,Nat.lt_succ_self k1,X3 ⟨E.to rfl,H,hs14,hm⟩⟩
   ·refine wp_exit<|bH<|bH<|dG<|aC<|sq<|pr 1 E rfl fun a E=>nt<|wp_seq<|?_
    refine sq<|pr 1 E rfl fun a E=>nt<|wp_block<|bX (fun k2 a w=>∃ b39 x40 rs41,Env 76 a [(1,pt p6 0),(3,.map (some p7)),(6,.bool b39),(7,.int .i64 x40)]∧Sep w (Blk p6 73 [v2,v3]::cB Tryz.prog 274 xS (kI .i64) false p7 x9::Fo) rs41∧(∀ r,r ∈ rs→r ∈ rs41)∧nC x1 x9 k2 b39 x40=some r) (((x1.Sessions.length:Int) - 1:Int).toNat+1) ?_ ?_
    ·exact X3 ⟨E.to rfl,H,hs11,hm⟩
    ·clear E H hm
     rintro k2 a w ⟨b39,x40,rs41,E,H,hs42,hm⟩
     cases k2 with
     | zero=>exact (bT hm rfl).elim
     | succ k2=>
      unfold nC at hm
      refine wp_seq<|sq<|pr 2 E rfl fun a E=>lb E H 0 rfl rfl rfl rfl rfl rfl rfl U71 rfl fun a E=>sv E rfl rfl rfl (cR E H rfl rfl (hs42 _ hr5) U71) fun a E=>pr 1 E rfl fun a E=>nt<|wif E hm rfl (fun hm=>?_) fun hm=>?_
      ·refine wp_skip<|aC<|aT (fun a w=>∃ b43 rs44,Env 76 a [(1,pt p6 0),(3,.map (some p7)),(6,.bool b43),(7,.int .i64 x40)]∧Sep w (Blk p6 73 [v2,v3]::cB Tryz.prog 274 xS (kI .i64) false p7 x9::Fo) rs44∧(∀ r,r ∈ rs→r ∈ rs44)∧sN (nC x1 x9 k2) x40 b43=some r) ?_ ?_
       ·refine wp_block<|?_
        obtain ⟨u46,H⟩:=H.raw (hs42 _ hr5)
        refine dw [(0,0),(1,0),(2,0),(3,0),(4,0),(5,0),(6,0),(7,0),(8,0),(9,0),(10,0),(11,0),(12,0),(13,0),(14,0),(15,0),(16,0),(17,2)] [0] [0] H (by kernel_rfl) (fun _ _ _ h=>False.elim h.2) fun w W0 hI H=>fn 2 E rfl fun a E=>cs hm (fun hb47 hm=>?_) fun hb47 hm=>?_
        ·refine fk 1 E (kc 35 rfl hb47) rfl fun a E=>fb E rfl (ws' (d:=35) E rfl rfl rfl rfl hb47) rfl rfl rfl rfl m0 rfl U71 rfl fun a E=>fk 2 E (kc 35 rfl hb47) rfl fun a E=>bd hm fun x48 hx49 hm=>?_
         obtain ⟨q50,u53,hx51,hx52⟩:=oO (P:=Tryz.prog) (k:=.i64) hI (oN (.head _)) U71 rL hx49
         refine bW E rfl (ws' (d:=35) E rfl rfl rfl rfl hb47) rfl rfl (fun w hW=>rI E rfl rfl rfl (hx51 w)) fun a E=>?_
         have hx54:=uU hx52 (fun _ _ _ h=>m5 h)
         refine fk 1 E (kc 35 rfl hb47) rfl fun a E=>fa E rfl (ws' (d:=35) E rfl rfl rfl rfl hb47) rfl rfl rfl rfl hx54 U2 rfl fun a E=>fk 1 E (kc 35 rfl hb47) rfl fun a E=>fb E rfl (ws' (d:=35) E rfl rfl rfl rfl hb47) rfl rfl rfl rfl m0 rfl U71 rfl fun a E=>fk 1 E (kc 35 rfl hb47) rfl fun a E=>bd hm fun x55 hx56 hm=>?_
         obtain ⟨q57,u60,hx58,hx59⟩:=oO (P:=Tryz.prog) (k:=.i64) hI (oN (.head _)) U71 rL hx56
         refine bW E rfl (ws' (d:=35) E rfl rfl rfl rfl hb47) rfl rfl (fun w hW=>rI E rfl rfl rfl (hx58 w)) fun a E=>?_
         have hx61:=uU hx59 (fun _ _ _ h=>m5 h)
         refine fk 1 E (kc 35 rfl hb47) rfl fun a E=>fa E rfl (ws' (d:=35) E rfl rfl rfl rfl hb47) rfl rfl rfl rfl hx61 U2 rfl fun a E=>fk 2 E (kc 35 rfl hb47) rfl fun a E=>bQ rfl<|pr 1 E rfl fun a E=>nt<|bR<|?_
         clear hI
         exact bY<|aC<|⟨_,_,E.to rfl,H,(Y1 hs42),hm⟩
        ·refine fk 15 E (kc 35 rfl hb47) rfl fun a E=>bQ rfl<|pr 1 E rfl fun a E=>nt<|bR<|?_
         clear hI
         exact bY<|aC<|⟨_,_,E.to rfl,H,(Y1 hs42),hm⟩
       ·clear E H hm
        rintro a w ⟨b43,rs44,E,H,hs45,hm⟩
        unfold sN at hm
        exact wp_region_lit<|pr 3 E rfl fun a E=>nt<|⟨k2,Nat.lt_succ_self k2,X3 ⟨E.to rfl,H,hs45,hm⟩⟩
      ·refine wp_exit<|bH<|bH<|dG<|aC<|sq<|pr 1 E rfl fun a E=>lb E H 0 rfl rfl rfl rfl rfl rfl rfl U70 rfl fun a E=>sv E rfl rfl rfl (cR E H rfl rfl (hs42 _ hr4) U70) fun a E=>?_
       refine pr 2 E rfl fun a E=>cs hm (fun hb62 hm=>?_) fun hb62 hm=>?_
       ·refine pk 1 E (kc 55 rfl hb62) rfl fun a E=>aQ E (ws' (d:=55) E rfl rfl rfl rfl hb62) rfl rfl (i1 (i:=1) E H rfl rfl rfl V3) fun a E=>pk 1 E (kc 55 rfl hb62) rfl fun a E=>aQ E (ws' (d:=55) E rfl rfl rfl rfl hb62) rfl rfl (cD (i:=0) E H rfl rfl rfl rfl U70 rfl) fun a E=>aQ E (ws' (d:=55) E rfl rfl rfl rfl hb62) rfl rfl (cR E H rfl rfl (hs42 _ hr4) U70) fun a E=>pk 3 E (kc 55 rfl hb62) rfl fun a E=>cs hm (fun hb63 hm=>?_) fun hb63 hm=>?_
        ·refine pk 1 E (kc 63 rfl hb63) rfl fun a E=>aQ E (ws' (d:=63) E rfl rfl rfl rfl hb63) rfl rfl (cD (i:=0) E H rfl rfl rfl rfl U70 rfl) fun a E=>bd hm fun u64 hx65 hm=>aU E (ws' (d:=63) E rfl rfl rfl rfl hb63) rfl rfl (cC E rfl rfl (Um _)) (E8 H (hs42 _ hr4) hx65)<|?_
         rintro _ w ⟨rfl,H⟩ a E
         refine pk 2 E (kc 63 rfl hb63) rfl fun a E=>cs hm (fun hb66 hm=>?_) fun hb66 hm=>?_
         ·refine pk 1 E (kc 68 rfl hb66) rfl fun a E=>aQ E (ws' (d:=68) E rfl rfl rfl rfl hb66) rfl rfl (cD (i:=0) E H rfl rfl rfl rfl U71 rfl) fun a E=>bd hm fun u67 hx68 hm=>aU E (ws' (d:=68) E rfl rfl rfl rfl hb66) rfl rfl (cC E rfl rfl (Up _)) (w5 H (hs42 _ hr5) hx68)<|?_
          rintro _ w ⟨rfl,H⟩ a E
          refine pk 2 E (kc 68 rfl hb66) rfl fun a E=>cs hm (fun hb69 hm=>?_) fun hb69 hm=>?_
          ·refine pk 3 E (kc 73 rfl hb69) rfl fun a E=>nt<|wp_ret<|aY E rfl rfl<|have H:=H.drs [0,0];?_
           cases hm
           exact ⟨rfl,H.reads hs42⟩
          ·refine pk 3 E (kc 73 rfl hb69) rfl fun a E=>nt<|wp_ret<|aY E rfl rfl<|have H:=H.drs [0,0];?_
           cases hm
           exact ⟨rfl,H.reads hs42⟩
         ·refine pk 8 E (kc 68 rfl hb66) rfl fun a E=>nt<|wp_ret<|aY E rfl rfl<|have H:=H.drs [0,0];?_
          cases hm
          exact ⟨rfl,H.reads hs42⟩
        ·refine pk 13 E (kc 63 rfl hb63) rfl fun a E=>nt<|wp_ret<|aY E rfl rfl<|have H:=H.drs [0,0];?_
         cases hm
         exact ⟨rfl,H.reads hs42⟩
       ·refine pk 21 E (kc 55 rfl hb62) rfl fun a E=>nt<|wp_ret<|aY E rfl rfl<|have H:=H.drs [0,0];?_
        cases hm
        exact ⟨rfl,H.reads hs42⟩

def oC (x1:bM) (s5:ByteArray) (x4:Int) (b12:Bool):Option (bM×Int):=
  if b12=true then (some ((⟨[],[]⟩:bM),1)) else ((ck (x1.Sessions.length ≤ LIM)).bind fun u16=>(ck (x1.Watches.length ≤ LIM)).bind fun u21=>(hZ x1.Watches s5 x1.Sessions x4).bind fun u23=>some ((⟨u23.1,u23.2⟩:bM),0))
def r5 (x1:bM) (x4:Int) (s5:ByteArray):Option (bM×Int):=
  (qN x1).bind fun u31=>if (!u31)=true then (oC x1 s5 x4 true) else (if (decide (x4 < 1))=true then (oC x1 s5 x4 true) else (if (decide (x4 > 3))=true then (oC x1 s5 x4 true) else ((fA s5).bind fun u36=>oC x1 s5 x4 (!u36))))
theorem Ez {w:World} {Fo:List Ob} {rs:List Rp} {x1:bM} {v2 v3:Value} {x4:Int} {s5:ByteArray} (H:Sep w (Fo) rs) (hr6:rSl aX v2 x1.Watches ∈ rs) (hr7:rSl aO v3 x1.Sessions ∈ rs) {r:bM×Int} (hm:r5 x1 x4 s5=some r) :
    Calls Tryz.prog 252 [.agg #[v2,v3],.int .i64 x4,.string s5].toArray w (Ret fun v w'=>∃ y2 y3,.tuple #[.agg #[y2,y3],.int .i64 r.2]=v∧Sep w' (Fo) (rSl aX y2 r.1.Watches::rSl aO y3 r.1.Sessions::rs)):=by
 unfold r5 at hm
 refine ent Tryz.func252 rfl Tryz.ntmps252 rfl rfl fun a E=>sq<|bS E H (wn rfl) rfl rfl rfl rfl rfl fun p8 w a H E=>bS E H (wn rfl) rfl rfl rfl rfl rfl fun p9 w a H E=>bS E H (wn rfl) rfl rfl rfl rfl rfl fun p10 w a H E=>al E H rfl rfl rfl rfl G2 fun p11 w a H E=>pr 1 E rfl fun a E=>nt<|wp_seq<|aT (fun a w=>∃ b12 rs13,Env 36 a [(3,pt p8 0),(4,pt p9 0),(5,pt p10 0),(6,pt p11 0),(23,.bool b12)]∧Sep w (Blk p8 73 [v2,v3]::Blk p9 3 [.int .i64 x4]::Blk p10 9 [.string s5]::Blk p11 73 [.slice none 0 0,.slice none 0 0]::Fo) rs13∧(∀ r,r ∈ rs→r ∈ rs13)∧oC x1 s5 x4 b12=some r) ?_ ?_
 ·refine wp_region_lit<|sv E rfl rfl rfl (cA (i:=3) (us:=[v2,v3]) E H rfl rfl rfl rfl U73 rfl eE) fun a E=>bd hm fun u31 hx32 hm=>xk E rfl rfl rfl rfl rfl Cw (xQ H hr6 hr7 hx32) fun w H a E=>pr 2 E rfl fun a E=>cs hm (fun hb33 hm=>?_) fun hb33 hm=>?_
  ·exact pk 12 E (kc 11 rfl hb33) rfl fun a E=>nt<|have H:=H.frs [0,1,2,3] rfl;⟨_,_,E.to rfl,H,Y0,hm⟩
  ·refine aQ E (ws' (d:=11) E rfl rfl rfl rfl hb33) rfl rfl (cD (i:=2) E H rfl rfl rfl rfl U3 rfl) fun a E=>pk 3 E (kc 11 rfl hb33) rfl fun a E=>cs hm (fun hb34 hm=>?_) fun hb34 hm=>?_
   ·exact pk 8 E (kc 15 rfl hb34) rfl fun a E=>nt<|have H:=H.frs [0,1,2,3] rfl;⟨_,_,E.to rfl,H,Y0,hm⟩
   ·refine aQ E (ws' (d:=15) E rfl rfl rfl rfl hb34) rfl rfl (cD (i:=2) E H rfl rfl rfl rfl U3 rfl) fun a E=>pk 3 E (kc 15 rfl hb34) rfl fun a E=>cs hm (fun hb35 hm=>?_) fun hb35 hm=>?_
    ·exact pk 4 E (kc 19 rfl hb35) rfl fun a E=>nt<|have H:=H.frs [0,1,2,3] rfl;⟨_,_,E.to rfl,H,Y0,hm⟩
    ·refine aQ E (ws' (d:=19) E rfl rfl rfl rfl hb35) rfl rfl (cD (i:=1) E H rfl rfl rfl rfl U9 rfl) fun a E=>bd hm fun u36 hx37 hm=>aU E (ws' (d:=19) E rfl rfl rfl rfl hb35) rfl rfl (cC E rfl rfl (yU _)) (gC H hx37)<|?_
     rintro _ w ⟨rfl,H⟩ a E
     exact pk 2 E (kc 19 rfl hb35) rfl fun a E=>nt<|have H:=H.frs [0,1,2,3] rfl;⟨_,_,E.to rfl,H,Y0,hm⟩
 ·clear E H hm
  rintro a w ⟨b12,rs13,E,H,hs14,hm⟩
  unfold oC at hm
  refine wif E hm rfl (fun hm=>?_) fun hm=>?_
  ·refine sq<|sv E rfl rfl rfl (cI E rfl (E.evs rfl) (v:=.agg #[.slice none 0 0,.slice none 0 0]) (by kernel_rfl)) fun a E=>aZ (i:=3) E H (wn rfl) rfl rfl rfl rfl rfl rfl eE rfl rfl fun w H=>pr 1 E rfl fun a E=>nt<|wp_ret<|aP<|rJ E rfl (cV (i:=3) (us:=[.slice none 0 0,.slice none 0 0]) H rfl rfl rfl U73 rfl eE) (rvT rfl)<|have H:=H.nilSl aX;?_
   refine have H:=H.nilSl aO;have H:=H.drs [0,0,0,0];?_
   cases hm
   exact ⟨_,_,rfl,H.reads (aA mm1 (aA m0 (fun r hr=>(t2 (hs14 r hr)))))⟩
  ·refine wp_skip<|aC<|sq<|pr 1 E rfl fun a E=>lb E H 0 rfl rfl rfl rfl rfl rfl rfl U71 rfl fun a E=>bk hm fun hx17 hm=>aU E (wn rfl) rfl rfl (cC E rfl rfl (Cz _)) (eG H (hs14 _ hr7) hx17) fun v15 w H a E=>pr 1 E rfl fun a E=>?_
   obtain ⟨q18,x19,rfl⟩:=H.rowform (i:=0) rfl
   refine aZ (i:=1) E H (wn rfl) rfl rfl rfl rfl rfl rfl Ep rfl rfl fun w H=>nx<|pr 1 E rfl fun a E=>lb E H 1 rfl rfl rfl rfl rfl rfl rfl U70 rfl fun a E=>bk hm fun hx22 hm=>aU E (wn rfl) rfl rfl (cC E rfl rfl (Da _)) (fM H (hs14 _ hr6) hx22) fun v20 w H a E=>sv E rfl rfl rfl (iP E rfl rfl rfl) fun a E=>have H:=H.frs [5,4,3,4,5,5] rfl;bd hm fun u23 hx24 hm=>?_
   refine cG E rfl rfl rfl rfl rfl Wi (tH H hx24)<|?_
   rintro _ w ⟨v25,v26,rfl,H⟩ a E
   refine pr 1 E rfl fun a E=>?_
   obtain ⟨q27,x28,rfl⟩:=H.rowform (i:=0) rfl
   refine aZ (i:=2) E H (wn rfl) rfl rfl rfl rfl rfl rfl Hj rfl rfl fun w H=>nx<|sv E rfl rfl rfl (cA (i:=2) (us:=[(.slice q27 u23.1.length x28),v26]) E H rfl rfl rfl rfl U73 rfl eE) fun a E=>?_
   obtain ⟨q29,x30,rfl⟩:=H.rowform (i:=4) rfl
   refine aZ (i:=5) E H (wn rfl) rfl rfl rfl rfl rfl rfl eE rfl rfl fun w H=>pr 1 E rfl fun a E=>nt<|wp_ret<|rJ E rfl (cV (i:=5) (us:=[(.slice q27 u23.1.length x28),(.slice q29 u23.2.length x30)]) H rfl rfl rfl U73 rfl eE) (rvT rfl)<|have H:=H.thaw (i:=0) rfl;have H:=H.thaw (i:=3) rfl;have H:=H.drs [0,0,0,0];?_
   cases hm
   exact ⟨_,_,rfl,H.reads (aA mm1 (aA m0 (fun r hr=>(t2 (hs14 r hr)))))⟩

def jQ (l11:List aK) (l13:List aD) (x20:Int) (s21:ByteArray):Option ((List aK)×(List aD)):=
  (r5 (⟨l11,l13⟩:bM) x20 s21).bind fun u31=>if (u31.2 == 0)=true then (some (u31.1.Watches,u31.1.Sessions)) else (some (l11,l13))
theorem oZ {w:World} {Fo:List Ob} {rs:List Rp} {p1:Nat} {v10 v12 v22 v23 v24 v25 v26 v27 v28:Value} {l11:List aK} {l13:List aD} {x20:Int} {s21:ByteArray} (H:Sep w (Blk p1 75 [v22,v23,v24,v25,v10,v12,v26,v27,v28]::Fo) rs) (hr29:rSl aX v10 l11 ∈ rs) (hr30:rSl aO v12 l13 ∈ rs) {r:(List aK)×(List aD)} (hm:jQ l11 l13 x20 s21=some r) :
    Calls Tryz.prog 184 [pt p1 0,.int .i64 x20,.string s21].toArray w (Ret fun v w'=>∃ y1 y3,.tuple #[]=v∧Sep w' (Blk p1 75 [v22,v23,v24,v25,y1,y3,v26,v27,v28]::Fo) (rSl aX y1 r.1::rSl aO y3 r.2::rs)):=by
 unfold jQ at hm
 refine ent Tryz.func184 rfl Tryz.ntmps184 rfl rfl fun a E=>sq<|pr 3 E rfl fun a E=>sv E rfl rfl rfl (cA (i:=0) (us:=[v10,v12]) E H rfl rfl rfl rfl U73 rfl eE) fun a E=>pr 2 E rfl fun a E=>bd hm fun u31 hx32 hm=>cG E rfl rfl rfl rfl rfl Wh (Ez (x1:=(⟨l11,l13⟩:bM)) H hr29 hr30 hx32)<|?_
 rintro _ w ⟨v33,v34,rfl,H⟩ a E
 refine pr 3 E rfl fun a E=>al E H rfl rfl rfl rfl G2 fun p35 w a H E=>aZ (i:=0) E H (wn rfl) rfl rfl rfl rfl rfl rfl eE rfl (gB H m0 mm1) fun w H=>pr 1 E rfl fun a E=>nx<|pr 2 E rfl fun a E=>nt<|wif E hm rfl (fun hm=>?_) fun hm=>?_
 ·refine wp_region_lit<|pr 1 E rfl fun a E=>sv E rfl rfl rfl (cA (i:=0) (us:=[v33,v34]) E H rfl rfl rfl rfl U73 rfl eE) fun a E=>pr 2 E rfl fun a E=>aZ (i:=1) E H (wn rfl) rfl rfl rfl rfl rfl rfl eE rfl (gB H m0 mm1) fun w H=>wpList_nil<|oJ E rfl<|have H:=H.drop 0;?_
  cases hm
  exact ⟨_,_,rfl,H.reads (aA m0 (aA mm1 (fun r hr=>(t2 hr))))⟩
 ·refine wp_skip<|oJ E rfl<|have H:=H.drop 0;?_
  cases hm
  exact ⟨_,_,rfl,H.reads (aA (t2 hr29) (aA (t2 hr30) (fun r hr=>(t2 hr))))⟩

def gP (rec_1:Int→(List aK)→(List aD)→Option ((List aK)×(List aD))) (x35:Int) (l45:(List aK)) (l47:(List aD)):Option ((List aK)×(List aD)):=
  rec_1 (IntKind.i64.wrap (x35+1)) l45 l47
def oD (rec_1:Int→(List aK)→(List aD)→Option ((List aK)×(List aD))) (x35:Int) (x71:cL) (x52:cF):Nat→Int→(List aK)→(List aD)→Option ((List aK)×(List aD))
  | 0,_,_,_=>none
  | k2+1,x75,l77,l79=>
    if (decide (x75 < (x71.Names.length:Int)))=true then ((idx x71.Names x75).bind fun x85=>(g8 x52.Part.Path x85).bind fun u88=>(jQ l77 l79 2 u88.1).bind fun u90=>oD rec_1 x35 x71 x52 k2 (IntKind.i64.wrap (x75+1)) u90.1 u90.2) else (gP rec_1 x35 l77 l79)
def eA (l21:List cF) (l23:List cL):Nat→Int→(List aK)→(List aD)→Option ((List aK)×(List aD))
  | 0,_,_,_=>none
  | k1+1,x35,l37,l39=>
    if (decide (x35 < (l21.length:Int)))=true then ((idx l21 x35).bind fun x52=>if (x52.Part.Kind == 2)=true then ((idx l23 x35).bind fun x56=>(jQ l37 l39 1 x56.Path).bind fun u59=>gP (eA l21 l23 k1) x35 u59.1 u59.2) else (if (x52.Part.Kind == 3)=true then ((jQ l37 l39 2 x52.Part.Path).bind fun u63=>gP (eA l21 l23 k1) x35 u63.1 u63.2) else (if (x52.Part.Kind == 5)=true then ((jQ l37 l39 3 x52.Part.Path).bind fun u67=>gP (eA l21 l23 k1) x35 u67.1 u67.2) else (if (x52.Part.Kind == 10)=true then ((idx l23 x35).bind fun x71=>oD (eA l21 l23 k1) x35 x71 x52 (((x71.Names.length:Int) - 0:Int).toNat+1) 0 l37 l39) else (gP (eA l21 l23 k1) x35 l37 l39))))) else (some (l37,l39))
def vD (l11:List aK) (l13:List aD) (l21:List cF) (l23:List cL):Option ((List aK)×(List aD)):=
  eA l21 l23 (((l21.length:Int) - 0:Int).toNat+1) 0 l11 l13
theorem N3 {w:World} {Fo:List Ob} {rs:List Rp} {p1:Nat} {v10 v12 v20 v22 v24 v25 v26 v27 v28 v29 v30:Value} {l11:List aK} {l13:List aD} {l21:List cF} {l23:List cL} (H:Sep w (Blk p1 75 [v24,v25,v26,v27,v10,v12,v28,v29,v30]::Fo) rs) (hr31:rSl aX v10 l11 ∈ rs) (hr32:rSl aO v12 l13 ∈ rs) (hr33:rSl cE v20 l21 ∈ rs) (hr34:rSl bE v22 l23 ∈ rs) {r:(List aK)×(List aD)} (hm:vD l11 l13 l21 l23=some r) :
    Calls Tryz.prog 125 [pt p1 0,v20,v22].toArray w (Ret fun v w'=>∃ y1 y3,.tuple #[]=v∧Sep w' (Blk p1 75 [v24,v25,v26,v27,y1,y3,v28,v29,v30]::Fo) (rSl aX y1 r.1::rSl aO y3 r.2::rs)):=by
 unfold vD at hm
 refine ent Tryz.func125 rfl Tryz.ntmps125 rfl rfl fun a E=>sq<|pr 1 E rfl fun a E=>sv E rfl rfl rfl (cR E H rfl rfl hr33 U26) fun a E=>pr 1 E rfl fun a E=>nt<|wp_block<|bX (fun k1 a w=>∃ v36 v38 x35 l37 l39 rs40,Env 70 a [(0,pt p1 0),(2,v22),(12,v20),(13,.int .i64 (l21.length:Int)),(14,.int .i64 x35)]∧Sep w (Blk p1 75 [v24,v25,v26,v27,v36,v38,v28,v29,v30]::Fo) rs40∧(∀ r,r ∈ rs→r ∈ rs40)∧rSl aX v36 l37 ∈ rs40∧rSl aO v38 l39 ∈ rs40∧eA l21 l23 k1 x35 l37 l39=some r) (((l21.length:Int) - 0:Int).toNat+1) ?_ ?_
 ·exact X6 ⟨E.to rfl,H,Y0,hr31,hr32,hm⟩
 ·clear E H hm
  rintro k1 a w ⟨v36,v38,x35,l37,l39,rs40,E,H,hs41,hr42,hr43,hm⟩
  cases k1 with
  | zero=>exact (bT hm rfl).elim
  | succ k1=>
   unfold eA at hm
   refine sq<|pr 1 E rfl fun a E=>nt<|wp_seq<|wif E hm rfl (fun hm=>?_) fun hm=>?_
   ·refine wp_skip<|aC<|aT (fun a w=>∃ v44 v46 l45 l47 rs48,Env 70 a [(0,pt p1 0),(2,v22),(12,v20),(13,.int .i64 (l21.length:Int)),(14,.int .i64 x35)]∧Sep w (Blk p1 75 [v24,v25,v26,v27,v44,v46,v28,v29,v30]::Fo) rs48∧(∀ r,r ∈ rs→r ∈ rs48)∧rSl aX v44 l45 ∈ rs48∧rSl aO v46 l47 ∈ rs48∧gP (eA l21 l23 k1) x35 l45 l47=some r) ?_ ?_
    ·refine wp_block<|sq<|pr 1 E rfl fun a E=>bd hm fun x52 hx53 hm=>dE E H (wn rfl) rfl rfl rfl rfl rfl (hs41 _ hr33) U26 j7 hx53 fun q54 a H E=>ldf sJ E H rfl rfl rfl rfl rfl m0 U87 rfl j7 fun a E=>al E H rfl rfl rfl rfl Hc fun p55 w a H E=>pr 1 E rfl fun a E=>aZ (i:=0) E H (wn rfl) rfl rfl rfl rfl rfl rfl j7 rfl rfl fun w H=>?_
     refine nx<|pr 2 E rfl fun a E=>lb E H 0 rfl rfl rfl rfl rfl rfl rfl U3 rfl fun a E=>nt<|wp_block<|sq<|pr 2 E rfl fun a E=>nt<|wif E hm rfl (fun hm=>?_) fun hm=>?_
     ·refine wp_region_lit<|pr 3 E rfl fun a E=>bd hm fun x56 hx57 hm=>dE E H (wn rfl) rfl rfl rfl rfl rfl (t1 (hs41 _ hr34)) U40 zU hx57 fun q58 a H E=>have H:=H.derive1 m0 (rAt kS (q58.add 1) x56.Path) (fun ok h=>T5 h);pr 1 E rfl fun a E=>sv E rfl rfl rfl (nT E H rfl rfl m0 U9 rfl) fun a E=>have H:=H.frs [0,1] rfl;bd hm fun u59 hx60 hm=>?_
      refine cG E rfl rfl rfl rfl rfl Dd (oZ H (t3 hr42) (t3 hr43) hx60)<|?_
      rintro _ w ⟨v61,v62,rfl,H⟩ a E
      exact wpList_nil<|bY<|bY<|aC<|have H:=H.drop 1;X5 ⟨E.to rfl,H,(Y5 hs41),m0,mm1,hm⟩
     ·refine sq<|pr 2 E rfl fun a E=>nt<|wif E hm rfl (fun hm=>?_) fun hm=>?_
      ·refine wp_region_lit<|pr 3 E rfl fun a E=>lb E H 0 rfl rfl rfl rfl rfl rfl rfl U9 rfl fun a E=>have H:=H.frs [0,1] rfl;bd hm fun u63 hx64 hm=>cG E rfl rfl rfl rfl rfl Dd (oZ H (t1 hr42) (t1 hr43) hx64)<|?_
       rintro _ w ⟨v65,v66,rfl,H⟩ a E
       exact wpList_nil<|bY<|bY<|aC<|have H:=H.drop 1;X5 ⟨E.to rfl,H,(Y3 hs41),m0,mm1,hm⟩
      ·refine sq<|pr 2 E rfl fun a E=>nt<|wif E hm rfl (fun hm=>?_) fun hm=>?_
       ·refine wp_region_lit<|pr 3 E rfl fun a E=>lb E H 0 rfl rfl rfl rfl rfl rfl rfl U9 rfl fun a E=>have H:=H.frs [0,1] rfl;bd hm fun u67 hx68 hm=>cG E rfl rfl rfl rfl rfl Dd (oZ H (t1 hr42) (t1 hr43) hx68)<|?_
        rintro _ w ⟨v69,v70,rfl,H⟩ a E
        exact wpList_nil<|bY<|bY<|aC<|have H:=H.drop 1;X5 ⟨E.to rfl,H,(Y3 hs41),m0,mm1,hm⟩
       ·refine sq<|pr 2 E rfl fun a E=>nt<|wif E hm rfl (fun hm=>?_) fun hm=>?_
        ·refine sq<|pr 2 E rfl fun a E=>bd hm fun x71 hx72 hm=>dE E H (wn rfl) rfl rfl rfl rfl rfl (t1 (hs41 _ hr34)) U40 zU hx72 fun q73 a H E=>have H:=H.derive1 m0 (rAt (kL kS) (q73.add 4) x71.Names) (fun ok h=>T6 h);pr 1 E rfl fun a E=>Oo E H (wn rfl) rfl rfl rfl rfl m0 U33 rfl fun v74 a H E=>sv E rfl rfl rfl (cR E H rfl rfl m0 U33) fun a E=>pr 1 E rfl fun a E=>?_
         refine nt<|wp_block<|bX (fun k2 a w=>∃ v76 v78 x75 l77 l79 rs80,Env 70 a [(0,pt p1 0),(2,v22),(7,pt p55 0),(12,v20),(13,.int .i64 (l21.length:Int)),(14,.int .i64 x35),(51,v74),(52,.int .i64 (x71.Names.length:Int)),(53,.int .i64 x75)]∧Sep w (Blk p1 75 [v24,v25,v26,v27,v76,v78,v28,v29,v30]::Blk p55 87 (R4 x52)::Fo) rs80∧(∀ r,r ∈ rs→r ∈ rs80)∧rSl kS v74 x71.Names ∈ rs80∧rSl aX v76 l77 ∈ rs80∧rSl aO v78 l79 ∈ rs80∧oD (eA l21 l23 k1) x35 x71 x52 k2 x75 l77 l79=some r) (((x71.Names.length:Int) - 0:Int).toNat+1) ?_ ?_
         ·exact have H:=H.frs [0,1] rfl;X6 ⟨E.to rfl,H,(Y4 hs41),m0,(t4 hr42),(t4 hr43),hm⟩
         ·clear E H hm
          rintro k2 a w ⟨v76,v78,x75,l77,l79,rs80,E,H,hs81,hr82,hr83,hr84,hm⟩
          cases k2 with
          | zero=>exact (bT hm rfl).elim
          | succ k2=>
           unfold oD at hm
           refine sq<|pr 1 E rfl fun a E=>nt<|wp_seq<|wif E hm rfl (fun hm=>?_) fun hm=>?_
           ·refine wp_skip<|aC<|wp_seq<|wp_block<|sq<|bd hm fun x85 hx86 hm=>dE E H (wn rfl) rfl rfl rfl rfl rfl hr82 U33 sz9 hx86 fun q87 a H E=>sv E rfl rfl rfl (nT E H rfl rfl m0 U9 rfl) fun a E=>pr 1 E rfl fun a E=>?_
            refine nx<|pr 2 E rfl fun a E=>lb E H 1 rfl rfl rfl rfl rfl rfl rfl U9 rfl fun a E=>pr 1 E rfl fun a E=>bd hm fun u88 hx89 hm=>xk E rfl rfl rfl rfl rfl Ly (S3 H hx89) fun w H a E=>pr 5 E rfl fun a E=>nt<|wp_region_lit<|?_
            refine pr 2 E rfl fun a E=>bd hm fun u90 hx91 hm=>cG E rfl rfl rfl rfl rfl Dd (oZ H (t1 hr83) (t1 hr84) hx91)<|?_
            rintro _ w ⟨v92,v93,rfl,H⟩ a E
            exact wpList_nil<|bY<|aC<|wp_region_lit<|pr 2 E rfl fun a E=>nt<|⟨k2,Nat.lt_succ_self k2,X6 ⟨E.to rfl,H,(Y3 hs81),(t3 hr82),m0,mm1,hm⟩⟩
           ·exact wp_exit<|bH<|bH<|dG<|bY<|bY<|aC<|have H:=H.drop 1;X5 ⟨E.to rfl,H,hs81,hr83,hr84,hm⟩
        ·exact wp_skip<|bY<|bY<|aC<|have H:=H.drop 0;X5 ⟨E.to rfl,H,(Y1 hs41),(t1 hr42),(t1 hr43),hm⟩
    ·clear E H hm
     rintro a w ⟨v44,v46,l45,l47,rs48,E,H,hs49,hr50,hr51,hm⟩
     unfold gP at hm
     exact wp_region_lit<|pr 2 E rfl fun a E=>nt<|⟨k1,Nat.lt_succ_self k1,X6 ⟨E.to rfl,H,hs49,hr50,hr51,hm⟩⟩
   ·refine wp_exit<|bH<|bH<|dG<|oJ E rfl<|?_
    cases hm
    exact ⟨_,_,rfl,H.reads (aA hr42 (aA hr43 (hs41)))⟩

def rP (l3:List aE) (l5:List aI) (l11:List aK) (l13:List aD) (l21:List cF):Option (aG×(List aE)×(List aI)×(List aK)×(List aD)):=
  (g9 (⟨l3,l5⟩:bB) l21).bind fun u34=>if (u34.2.2.1 != 0)=true then (some ((⟨u34.2.2.1,u34.2.2.2,false,0,[],(⟨[],[]⟩:bB),[],[],[]⟩:aG),l3,l5,l11,l13)) else ((vD l11 l13 l21 u34.2.1).bind fun u40=>some ((⟨0,0,false,0,u34.2.1,(⟨[],[]⟩:bB),[],[],[]⟩:aG),u34.1.Nodes,u34.1.Turns,u40.1,u40.2))
theorem m7 {w:World} {Fo:List Ob} {rs:List Rp} {p1:Nat} {v2 v4 v10 v12 v20 v22 v23 v24 v25 v26:Value} {l3:List aE} {l5:List aI} {l11:List aK} {l13:List aD} {l21:List cF} (H:Sep w (Blk p1 75 [v2,v4,v22,v23,v10,v12,v24,v25,v26]::Fo) rs) (hr27:rSl aF v2 l3 ∈ rs) (hr28:rSl aJ v4 l5 ∈ rs) (hr29:rSl aX v10 l11 ∈ rs) (hr30:rSl aO v12 l13 ∈ rs) (hr31:rSl cE v20 l21 ∈ rs) (hr32:xU Tryz.prog ∈ rs) {r:aG×(List aE)×(List aI)×(List aK)×(List aD)} (hm:rP l3 l5 l11 l13 l21=some r) :
    Calls Tryz.prog 70 [pt p1 0,v20].toArray w (Ret fun v w'=>∃ y2 y3 y4 y5 y6 y7 y8 y10 y12 y14,.agg (bC r.1 y2 y3 y4 y5 y6 y7).toArray=v∧Sep w' (Blk p1 75 [y8,y10,v22,v23,y12,y14,v24,v25,v26]::Fo) (rSl bE y2 r.1.Results::rSl aF y3 r.1.Store.Nodes::rSl aJ y4 r.1.Store.Turns::rSl aV y5 r.1.Events::rSl bL y6 r.1.Mounts::rSl (kI .i64) y7 r.1.Wounded::rSl aF y8 r.2.1::rSl aJ y10 r.2.2.1::rSl aX y12 r.2.2.2.1::rSl aO y14 r.2.2.2.2::rs)):=by
 unfold rP at hm
 refine ent Tryz.func70 rfl Tryz.ntmps70 rfl rfl fun a E=>sq<|al E H rfl rfl rfl rfl gN fun p33 w a H E=>nx<|pr 3 E rfl fun a E=>sv E rfl rfl rfl (cA (i:=1) (us:=[v2,v4]) E H rfl rfl rfl rfl U25 rfl dA) fun a E=>pr 1 E rfl fun a E=>bd hm fun u34 hx35 hm=>cG E rfl rfl rfl rfl rfl Kr (C7 (x1:=(⟨l3,l5⟩:bB)) H hr27 hr28 hr31 hr32 hx35)<|?_
 rintro _ w ⟨v36,v37,v38,rfl,H⟩ a E
 refine pr 5 E rfl fun a E=>al E H rfl rfl rfl rfl jN fun p39 w a H E=>aZ (i:=0) E H (wn rfl) rfl rfl rfl rfl rfl rfl dA rfl (jK H m0 mm1) fun w H=>pr 3 E rfl fun a E=>nt<|wp_seq<|sq<|pr 2 E rfl fun a E=>nt<|wif E hm rfl (fun hm=>?_) fun hm=>?_
 ·refine sq<|pr 2 E rfl fun a E=>sv E rfl rfl rfl (cI E rfl (E.evs rfl) (v:=.agg #[.int .i64 u34.2.2.1,.int .i64 u34.2.2.2,.bool false,.int .i64 0,.slice none 0 0,.slice none 0 0,.slice none 0 0,.slice none 0 0,.slice none 0 0,.slice none 0 0]) (by kernel_rfl)) fun a E=>aZ (i:=2) E H (wn rfl) rfl rfl rfl rfl rfl rfl bU rfl rfl fun w H=>nt<|wp_ret<|aP<|dH E rfl (cV (i:=2) (us:=[.int .i64 u34.2.2.1,.int .i64 u34.2.2.2,.bool false,.int .i64 0,.slice none 0 0,.slice none 0 0,.slice none 0 0,.slice none 0 0,.slice none 0 0,.slice none 0 0]) H rfl rfl rfl U48 rfl bU)<|have H:=H.nilSl bE;?_
  refine have H:=H.nilSl aF;have H:=H.nilSl aJ;have H:=H.nilSl aV;have H:=H.nilSl bL;have H:=H.nilSl (kI .i64);have H:=H.drs [0,0,0];?_
  cases hm
  exact X10 ⟨rfl,H.reads (aA mm5 (aA mm4 (aA mm3 (aA mm2 (aA mm1 (aA m0 (aA (t8 hr27) (aA (t8 hr28) (aA (t8 hr29) (aA (t8 hr30) (fun r hr=>(t8 hr))))))))))))⟩
 ·refine wp_skip<|aC<|sq<|pr 1 E rfl fun a E=>sv E rfl rfl rfl (cA (i:=0) (us:=[v36,v37]) E H rfl rfl rfl rfl U25 rfl dA) fun a E=>pr 2 E rfl fun a E=>aZ (i:=3) E H (wn rfl) rfl rfl rfl rfl rfl rfl dA rfl (jK H m0 mm1) fun w H=>nx<|pr 3 E rfl fun a E=>?_
  refine have H:=H.thaw (i:=1) rfl;have H:=H.frs [1,1,2] rfl;bd hm fun u40 hx41 hm=>cG E rfl rfl rfl rfl rfl Wg (N3 H (t3 hr29) (t3 hr30) (t3 hr31) m0 hx41)<|?_
  rintro _ w ⟨v42,v43,rfl,H⟩ a E
  refine nx<|pr 1 E rfl fun a E=>?_
  obtain ⟨q44,x45,rfl⟩:=H.slform mm2
  refine sv E rfl rfl rfl (cI E rfl (E.evs rfl) (v:=.agg #[.int .i64 0,.int .i64 0,.bool false,.int .i64 0,(.slice q44 u34.2.1.length x45),.slice none 0 0,.slice none 0 0,.slice none 0 0,.slice none 0 0,.slice none 0 0]) (by kernel_rfl)) fun a E=>aZ (i:=2) E H (wn rfl) rfl rfl rfl rfl rfl rfl bU rfl rfl fun w H=>nt<|wp_ret<|dH E rfl (cV (i:=2) (us:=[.int .i64 0,.int .i64 0,.bool false,.int .i64 0,(.slice q44 u34.2.1.length x45),.slice none 0 0,.slice none 0 0,.slice none 0 0,.slice none 0 0,.slice none 0 0]) H rfl rfl rfl U48 rfl bU)<|have H:=H.nilSl aF;have H:=H.nilSl aJ;have H:=H.nilSl aV;have H:=H.nilSl bL;?_
  refine have H:=H.nilSl (kI .i64);have H:=H.drs [1,1];?_
  cases hm
  exact X10 ⟨rfl,H.reads (aA (t1 mm6) (aA mm4 (aA mm3 (aA mm2 (aA mm1 (aA m0 (aA (t2 mm6) (aA (t3 mm6) (aA mm5 (aA mm6 (fun r hr=>(t2 (t8 hr)))))))))))))⟩

end Go.Cb
