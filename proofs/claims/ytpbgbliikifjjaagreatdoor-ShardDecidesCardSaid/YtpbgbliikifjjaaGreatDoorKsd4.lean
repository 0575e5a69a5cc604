/- Functions of the program, walked: each comes to its plain function. -/
import Derived.Test.YtpbgbliikifjjaaGreatDoorKsd3
import Derived.Test.YtpbgbliikifjjaaGreatDoorExsd
import Derived.Test.YtpbgbliikifjjaaGreatDoorNwsd
import Derived.Test.YtpbgbliikifjjaaGreatDoorSksd
set_option linter.unusedVariables false
set_option linter.unusedSimpArgs false
set_option maxRecDepth 20000
set_option maxHeartbeats 1000000
namespace Go.Cb
open Go.Proofs Go.RowKit

def fP (l2:List aN) (s4:ByteArray):Nat→Int→Option Int
  | 0,_=>none
  | k1+1,x6=>
    if (decide (x6 < (l2.length:Int)))=true then ((idx l2 x6).bind fun x9=>(a7 x9 s4).bind fun u12=>if u12=true then (some (x6)) else (fP l2 s4 k1 (IntKind.i64.wrap (x6+1)))) else (some ((-1)))
def jI (l2:List aN) (s4:ByteArray):Option Int:=
  fP l2 s4 (((l2.length:Int) - 0:Int).toNat+1) 0
theorem vH {w:World} {Fo:List Ob} {rs:List Rp} {v1:Value} {l2:List aN} {p3:Nat} {s4:ByteArray} (H:Sep w (Blk p3 9 [.string s4]::Fo) rs) (hr5:rSl bG v1 l2 ∈ rs) {r:Int} (hm:jI l2 s4=some r) :
    Calls Tryz.prog 120 [v1,.func (.func 121) #[] #[pt p3 0]].toArray w (Ret fun v w'=>.int .i64 r=v∧Sep w' (Blk p3 9 [.string s4]::Fo) (rs)):=by
 unfold jI at hm
 refine ent Tryz.func120 rfl Tryz.ntmps120 rfl rfl fun a E=>sq<|pr 1 E rfl fun a E=>nt<|wp_seq<|sq<|pr 1 E rfl fun a E=>sv E rfl rfl rfl (cR E H rfl rfl hr5 U62) fun a E=>pr 1 E rfl fun a E=>?_
 refine nt<|wp_block<|bX (fun k1 a w=>∃ x6 rs7,Env 19 a [(0,v1),(1,.func (.func 121) #[] #[pt p3 0]),(7,.int .i64 (l2.length:Int)),(8,.int .i64 x6)]∧Sep w (Blk p3 9 [.string s4]::Fo) rs7∧(∀ r,r ∈ rs→r ∈ rs7)∧fP l2 s4 k1 x6=some r) (((l2.length:Int) - 0:Int).toNat+1) ?_ ?_
 ·exact ⟨_,_,E.to rfl,H,Y0,hm⟩
 ·clear E H hm
  rintro k1 a w ⟨x6,rs7,E,H,hs8,hm⟩
  cases k1 with
  | zero=>exact (bT hm rfl).elim
  | succ k1=>
   unfold fP at hm
   refine sq<|pr 1 E rfl fun a E=>nt<|wp_seq<|wif E hm rfl (fun hm=>?_) fun hm=>?_
   ·refine wp_skip<|aC<|wp_seq<|wp_block<|sq<|pr 2 E rfl fun a E=>nx<|pr 3 E rfl fun a E=>bd hm fun x9 hx10 hm=>?_
    refine dE E H (wn rfl) rfl rfl rfl rfl rfl (hs8 _ hr5) U62 gQ hx10 fun q11 a H E=>ldf eC E H rfl rfl rfl rfl rfl m0 j8 rfl gQ fun a E=>bd hm fun u12 hx13 hm=>aU E (wn rfl) rfl rfl (bP E rfl rfl rfl (Vb _)) (Bo H hx13)<|?_
    rintro _ w ⟨rfl,H⟩ a E
    refine nt<|wif E hm rfl (fun hm=>?_) fun hm=>?_
    ·refine sq<|pr 2 E rfl fun a E=>nt<|wp_ret<|bV<|aP<|aP<|bV<|aP<|?_
     refine aY E rfl rfl<|?_
     cases hm
     exact ⟨rfl,H.reads (Y1 hs8)⟩
    ·exact wp_skip<|bY<|aC<|wp_region_lit<|pr 2 E rfl fun a E=>nt<|⟨k1,Nat.lt_succ_self k1,_,_,E.to rfl,H,(Y1 hs8),hm⟩
   ·refine wp_exit<|bH<|bH<|dG<|aC<|sq<|pr 1 E rfl fun a E=>nt<|wp_ret<|?_
    refine aY E rfl rfl<|?_
    cases hm
    exact ⟨rfl,H.reads hs8⟩

def r8 (l2:List aN) (s3:ByteArray):Option (Int×Bool):=
  (jI l2 s3).bind fun u6=>if (decide (u6 < 0))=true then (some (0,false)) else ((idx l2 u6).bind fun x8=>some (x8.Txn,true))
theorem Fc {w:World} {Fo:List Ob} {rs:List Rp} {v1:Value} {l2:List aN} {s3:ByteArray} (H:Sep w (Fo) rs) (hr4:rSl bG v1 l2 ∈ rs) {r:Int×Bool} (hm:r8 l2 s3=some r) :
    Calls Tryz.prog 68 [v1,.string s3].toArray w (Ret fun v w'=>.tuple #[.int .i64 r.1,.bool r.2]=v∧Sep w' (Fo) (rs)):=by
 unfold r8 at hm
 refine ent Tryz.func68 rfl Tryz.ntmps68 rfl rfl fun a E=>sq<|bS E H (wn rfl) rfl rfl rfl rfl rfl fun p5 w a H E=>pr 2 E rfl fun a E=>nx<|pr 1 E rfl fun a E=>sv E rfl rfl rfl (iP E rfl rfl rfl) fun a E=>bd hm fun u6 hx7 hm=>xk E rfl rfl rfl rfl rfl Ag (vH H hr4 hx7) fun w H a E=>?_
 refine pr 1 E rfl fun a E=>nt<|wp_seq<|sq<|pr 2 E rfl fun a E=>nt<|wif E hm rfl (fun hm=>?_) fun hm=>?_
 ·refine sq<|pr 2 E rfl fun a E=>nt<|wp_ret<|aP<|fX E rfl rfl rfl<|have H:=H.drop 0;?_
  cases hm
  exact ⟨rfl,H.reads Y0⟩
 ·refine wp_skip<|aC<|sq<|pr 2 E rfl fun a E=>bd hm fun x8 hx9 hm=>dE E H (wn rfl) rfl rfl rfl rfl rfl hr4 U62 gQ hx9 fun q10 a H E=>have H:=H.derive1 m0 (rAt (kI .i64) (q10.add 1) x8.Txn) (fun ok h=>Ba h);pr 1 E rfl fun a E=>sv E rfl rfl rfl (nT E H rfl rfl m0 U2 rfl) fun a E=>?_
  refine pr 2 E rfl fun a E=>nt<|wp_ret<|fX E rfl rfl rfl<|have H:=H.drop 0;?_
  cases hm
  exact ⟨rfl,H.reads (Y2 Y0)⟩

def uD (s1:ByteArray) (l11:List aN):Option Bool:=
  (r8 l11 s1).bind fun u31=>some (u31.2)
theorem K3 {w:World} {Fo:List Ob} {rs:List Rp} {s1:ByteArray} {p2 p3:Nat} {v10 v22 v23 v24 v25 v26 v27 v28 v29:Value} {l11:List aN} (H:Sep w (Blk p2 28 [pt p3 0]::Blk p3 75 [v22,v23,v24,v10,v25,v26,v27,v28,v29]::Fo) rs) (hr30:rSl bG v10 l11 ∈ rs) {r:Bool} (hm:uD s1 l11=some r) :
    Calls Tryz.prog 67 [.string s1,pt p2 0].toArray w (Ret fun v w'=>.bool r=v∧Sep w' (Blk p2 28 [pt p3 0]::Blk p3 75 [v22,v23,v24,v10,v25,v26,v27,v28,v29]::Fo) (rs)):=by
 unfold uD at hm
 refine ent Tryz.func67 rfl Tryz.ntmps67 rfl rfl fun a E=>sq<|pr 1 E rfl fun a E=>nx<|lb E H 0 rfl rfl rfl rfl rfl rfl rfl U28 rfl fun a E=>pr 2 E rfl fun a E=>lb E H 1 rfl rfl rfl rfl rfl rfl rfl U62 rfl fun a E=>pr 1 E rfl fun a E=>bd hm fun u31 hx32 hm=>?_
 refine xk E rfl rfl rfl rfl rfl Yn (Fc H hr30 hx32) fun w H a E=>pr 5 E rfl fun a E=>nx<|pr 2 E rfl fun a E=>nt<|wp_ret<|aY E rfl rfl<|?_
 cases hm
 exact ⟨rfl,H.reads Y0⟩

def gK (l2:List ByteArray) (l12:List aN):Nat→Int→Option Int
  | 0,_=>none
  | k1+1,x32=>
    if (decide (x32 < (l2.length:Int)))=true then ((idx l2 x32).bind fun x35=>(uD x35 l12).bind fun u40=>if u40=true then (some (x32)) else (gK l2 l12 k1 (IntKind.i64.wrap (x32+1)))) else (some ((-1)))
def lD (l2:List ByteArray) (l12:List aN):Option Int:=
  gK l2 l12 (((l2.length:Int) - 0:Int).toNat+1) 0
theorem yF {w:World} {Fo:List Ob} {rs:List Rp} {v1 v11 v23 v24 v25 v26 v27 v28 v29 v30:Value} {l2:List ByteArray} {p3 p4:Nat} {l12:List aN} (H:Sep w (Row 9 kS v1 l2::Blk p3 28 [pt p4 0]::Blk p4 75 [v23,v24,v25,v11,v26,v27,v28,v29,v30]::Fo) rs) (hr31:rSl bG v11 l12 ∈ rs) {r:Int} (hm:lD l2 l12=some r) :
    Calls Tryz.prog 119 [v1,.func (.func 67) #[] #[pt p3 0]].toArray w (Ret fun v w'=>.int .i64 r=v∧Sep w' (Blk p3 28 [pt p4 0]::Blk p4 75 [v23,v24,v25,v11,v26,v27,v28,v29,v30]::Row 9 kS v1 l2::Fo) (rs)):=by
 unfold lD at hm
 refine ent Tryz.func119 rfl Tryz.ntmps119 rfl rfl fun a E=>sq<|pr 1 E rfl fun a E=>nt<|wp_seq<|sq<|pr 1 E rfl fun a E=>sv E rfl rfl rfl (iZ (i:=0) E H rfl rfl rfl U33) fun a E=>pr 1 E rfl fun a E=>?_
 refine nt<|wp_block<|bX (fun k1 a w=>∃ x32 rs33,Env 19 a [(0,v1),(1,.func (.func 67) #[] #[pt p3 0]),(7,.int .i64 (l2.length:Int)),(8,.int .i64 x32)]∧Sep w (Row 9 kS v1 l2::Blk p3 28 [pt p4 0]::Blk p4 75 [v23,v24,v25,v11,v26,v27,v28,v29,v30]::Fo) rs33∧(∀ r,r ∈ rs→r ∈ rs33)∧gK l2 l12 k1 x32=some r) (((l2.length:Int) - 0:Int).toNat+1) ?_ ?_
 ·exact ⟨_,_,E.to rfl,H,Y0,hm⟩
 ·clear E H hm
  rintro k1 a w ⟨x32,rs33,E,H,hs34,hm⟩
  cases k1 with
  | zero=>exact (bT hm rfl).elim
  | succ k1=>
   unfold gK at hm
   refine sq<|pr 1 E rfl fun a E=>nt<|wp_seq<|wif E hm rfl (fun hm=>?_) fun hm=>?_
   ·refine wp_skip<|aC<|wp_seq<|wp_block<|sq<|pr 2 E rfl fun a E=>nx<|pr 3 E rfl fun a E=>bd hm fun x35 hx36 hm=>?_
    obtain ⟨p37,x38,hx39⟩:=H.rowformNE (i:=0) rfl hx36
    refine sv E rfl rfl rfl (cY (d:=kS) E hx39 rfl rfl rfl rfl U33 sz9 hx36) fun a E=>sv E rfl rfl rfl (mX (d:=kS) (i:=0) (k:=0) E H Mw hx39 rfl rfl rfl hx36 rfl U9 rfl) fun a E=>have H:=H.frs [0,2,2] rfl;bd hm fun u40 hx41 hm=>aU E (wn rfl) rfl rfl (bP E rfl rfl rfl (Ym _)) (K3 H (hs34 _ hr31) hx41)<|?_
    rintro _ w ⟨rfl,H⟩ a E
    refine nt<|wif E hm rfl (fun hm=>?_) fun hm=>?_
    ·refine sq<|pr 2 E rfl fun a E=>nt<|wp_ret<|bV<|aP<|aP<|bV<|aP<|?_
     refine aY E rfl rfl<|?_
     cases hm
     exact ⟨rfl,H.reads hs34⟩
    ·exact wp_skip<|bY<|aC<|wp_region_lit<|pr 2 E rfl fun a E=>nt<|have H:=H.frs [1,1,2] rfl;⟨k1,Nat.lt_succ_self k1,_,_,E.to rfl,H,hs34,hm⟩
   ·refine wp_exit<|bH<|bH<|dG<|aC<|sq<|pr 1 E rfl fun a E=>nt<|wp_ret<|?_
    refine aY E rfl rfl<|have H:=H.frs [0,2,2] rfl;?_
    cases hm
    exact ⟨rfl,H.reads hs34⟩

def jR (l2:List ByteArray) (l12:List aN):Option Bool:=
  (lD l2 l12).bind fun u32=>some (decide (u32 ≥ 0))
theorem wK {w:World} {Fo:List Ob} {rs:List Rp} {v1 v11 v23 v24 v25 v26 v27 v28 v29 v30:Value} {l2:List ByteArray} {p3 p4:Nat} {l12:List aN} (H:Sep w (Row 9 kS v1 l2::Blk p3 28 [pt p4 0]::Blk p4 75 [v23,v24,v25,v11,v26,v27,v28,v29,v30]::Fo) rs) (hr31:rSl bG v11 l12 ∈ rs) {r:Bool} (hm:jR l2 l12=some r) :
    Calls Tryz.prog 66 [v1,.func (.func 67) #[] #[pt p3 0]].toArray w (Ret fun v w'=>.bool r=v∧Sep w' (Blk p3 28 [pt p4 0]::Blk p4 75 [v23,v24,v25,v11,v26,v27,v28,v29,v30]::Row 9 kS v1 l2::Fo) (rs)):=by
 unfold jR at hm
 refine ent Tryz.func66 rfl Tryz.ntmps66 rfl rfl fun a E=>sq<|pr 1 E rfl fun a E=>nx<|pr 2 E rfl fun a E=>bd hm fun u32 hx33 hm=>xk E rfl rfl rfl rfl rfl Hl (yF H hr31 hx33) fun w H a E=>pr 2 E rfl fun a E=>nt<|?_
 refine wp_ret<|aY E rfl rfl<|?_
 cases hm
 exact ⟨rfl,H.reads Y0⟩

def pA (l3:List aE) (l5:List aI) (l11:List aK) (l13:List aD) (x20:bA) (x49:Int):Option (aG×(List aE)×(List aI)×(List aK)×(List aD)):=
  if (x49 != 0)=true then ((dM x49).bind fun u52=>some (u52,l3,l5,l11,l13)) else ((rP l3 l5 l11 l13 x20.Pieces).bind fun u60=>some (u60.1,u60.2.1,u60.2.2.1,u60.2.2.2.1,u60.2.2.2.2))
def pB (l3:List aE) (l5:List aI) (l11:List aK) (l13:List aD) (x20:bA) (u47:Int) (b72:Bool):Option (aG×(List aE)×(List aI)×(List aK)×(List aD)):=
  if b72=true then (pA l3 l5 l11 l13 x20 131) else (pA l3 l5 l11 l13 x20 u47)
def wX (l3:List aE) (l5:List aI) (l7:List aH) (l9:List aN) (l11:List aK) (l13:List aD) (x20:bA):Option (aG×(List aE)×(List aI)×(List aK)×(List aD)):=
  (zH x20.Pieces).bind fun u42=>(jR u42 l9).bind fun u45=>(pZ l7 u42).bind fun u47=>if (u47 == 0)=true then (pB l3 l5 l11 l13 x20 u47 u45) else (pB l3 l5 l11 l13 x20 u47 false)
theorem Q8 {w:World} {Fo:List Ob} {rs:List Rp} {p1:Nat} {v2 v4 v6 v8 v10 v12 v21 v22 v23 v24 v25 v26 v27:Value} {l3:List aE} {l5:List aI} {l7:List aH} {l9:List aN} {l11:List aK} {l13:List aD} {x20:bA} (H:Sep w (Blk p1 75 [v2,v4,v6,v8,v10,v12,v25,v26,v27]::Fo) rs) (hr28:rSl aF v2 l3 ∈ rs) (hr29:rSl aJ v4 l5 ∈ rs) (hr30:rSl aS v6 l7 ∈ rs) (hr31:rSl bG v8 l9 ∈ rs) (hr32:rSl aX v10 l11 ∈ rs) (hr33:rSl aO v12 l13 ∈ rs) (hr34:rSl cE v21 x20.Pieces ∈ rs) (hr38:xU Tryz.prog ∈ rs) {r:aG×(List aE)×(List aI)×(List aK)×(List aD)} (hm:wX l3 l5 l7 l9 l11 l13 x20=some r) :
    Calls Tryz.prog 25 [pt p1 0,.agg (aR x20 v21 v22 v23 v24).toArray].toArray w (Ret fun v w'=>∃ y2 y3 y4 y5 y6 y7 y8 y10 y12 y14,.agg (bC r.1 y2 y3 y4 y5 y6 y7).toArray=v∧Sep w' (Blk p1 75 [y8,y10,v6,v8,y12,y14,v25,v26,v27]::Fo) (rSl bE y2 r.1.Results::rSl aF y3 r.1.Store.Nodes::rSl aJ y4 r.1.Store.Turns::rSl aV y5 r.1.Events::rSl bL y6 r.1.Mounts::rSl (kI .i64) y7 r.1.Wounded::rSl aF y8 r.2.1::rSl aJ y10 r.2.2.1::rSl aX y12 r.2.2.2.1::rSl aO y14 r.2.2.2.2::rs)):=by
 unfold wX at hm
 refine ent Tryz.func25 rfl Tryz.ntmps25 rfl rfl fun a E=>sq<|bS E H (wn rfl) rfl rfl rfl rfl rfl fun p39 w a H E=>bS E H (wn rfl) rfl rfl rfl rfl rfl fun p40 w a H E=>al E H rfl rfl rfl rfl gN fun p41 w a H E=>nx<|pr 1 E rfl fun a E=>lb E H 1 rfl rfl rfl rfl rfl rfl rfl U26 rfl fun a E=>bd hm fun u42 hx43 hm=>?_
 refine cG E rfl rfl rfl rfl rfl Qy (N7 H hr34 hx43)<|?_
 rintro _ w ⟨v44,rfl,H⟩ a E
 refine pr 1 E rfl fun a E=>nx<|pr 1 E rfl fun a E=>sv E rfl rfl rfl (iP E rfl rfl rfl) fun a E=>have H:=H.frs [2,2,4,4,4] rfl;bd hm fun u45 hx46 hm=>xk E rfl rfl rfl rfl rfl Kq (wK H hr31 hx46) fun w H a E=>pr 1 E rfl fun a E=>nx<|?_
 refine lb E H 0 rfl rfl rfl rfl rfl rfl rfl U28 rfl fun a E=>pr 1 E rfl fun a E=>have H:=H.thaw (i:=2) rfl;have H:=H.frs [3,3,2,3] rfl;bd hm fun u47 hx48 hm=>xk E rfl rfl rfl rfl rfl Rb (zN H (t1 hr30) m0 hx48) fun w H a E=>pr 1 E rfl fun a E=>nt<|aT (fun a w=>∃ x49 rs50,Env 30 a [(2,pt p39 0),(3,pt p40 0),(4,pt p41 0),(7,.int .i64 x49)]∧Sep w (Blk p39 28 [pt p1 0]::Blk p40 37 (aR x20 v21 v22 v23 v24)::Blk p41 48 bN::Blk p1 75 [v2,v4,v6,v8,v10,v12,v25,v26,v27]::Fo) rs50∧(∀ r,r ∈ rs→r ∈ rs50)∧pA l3 l5 l11 l13 x20 x49=some r) ?_ ?_
 ·refine aT (fun a w=>∃ b72 rs73,Env 30 a [(2,pt p39 0),(3,pt p40 0),(4,pt p41 0),(7,.int .i64 u47),(21,.bool b72)]∧Sep w (Blk p39 28 [pt p1 0]::Blk p40 37 (aR x20 v21 v22 v23 v24)::Blk p41 48 bN::Blk p1 75 [v2,v4,v6,v8,v10,v12,v25,v26,v27]::Fo) rs73∧(∀ r,r ∈ rs→r ∈ rs73)∧pB l3 l5 l11 l13 x20 u47 b72=some r) ?_ ?_
  ·refine wp_region_lit<|pr 3 E rfl fun a E=>cs hm (fun hb75 hm=>?_) fun hb75 hm=>?_
   ·exact pk 2 E (kc 19 rfl hb75) rfl fun a E=>nt<|have H:=H.frs [0,2,3,3] rfl;⟨_,_,E.to rfl,H,(Y1 Y0),hm⟩
   ·exact pk 2 E (kc 19 rfl hb75) rfl fun a E=>nt<|have H:=H.frs [0,2,3,3] rfl;⟨_,_,E.to rfl,H,(Y1 Y0),hm⟩
  ·clear E H hm
   rintro a w ⟨b72,rs73,E,H,hs74,hm⟩
   unfold pB at hm
   refine wif E hm rfl (fun hm=>?_) fun hm=>?_
   ·exact wp_region_lit<|pr 1 E rfl fun a E=>nt<|⟨_,_,E.to rfl,H,hs74,hm⟩
   ·exact wp_skip<|aC<|⟨_,_,E.to rfl,H,hs74,hm⟩
 ·clear E H hm
  rintro a w ⟨x49,rs50,E,H,hs51,hm⟩
  unfold pA at hm
  refine wp_seq<|sq<|pr 2 E rfl fun a E=>nt<|wif E hm rfl (fun hm=>?_) fun hm=>?_
  ·refine sq<|pr 1 E rfl fun a E=>bd hm fun u52 hx53 hm=>cG E rfl rfl rfl rfl rfl tM (dT H hx53)<|?_
   rintro _ w ⟨v54,v55,v56,v57,v58,v59,rfl,H⟩ a E
   refine aZ (i:=2) E H (wn rfl) rfl rfl rfl rfl rfl rfl bU rfl (bF H m0 mm1 mm2 mm3 mm4 mm5) fun w H=>nt<|wp_ret<|aP<|dH E rfl (cV (i:=2) (us:=(bC u52 v54 v55 v56 v57 v58 v59)) H rfl rfl rfl U48 rfl bU)<|have H:=H.drs [0,0,0];?_
   cases hm
   exact X10 ⟨rfl,H.reads (aA m0 (aA mm1 (aA mm2 (aA mm3 (aA mm4 (aA mm5 (aA (t6 (hs51 _ hr28)) (aA (t6 (hs51 _ hr29)) (aA (t6 (hs51 _ hr32)) (aA (t6 (hs51 _ hr33)) (fun r hr=>(t6 (hs51 r hr)))))))))))))⟩
  ·refine wp_skip<|aC<|sq<|lb E H 0 rfl rfl rfl rfl rfl rfl rfl U28 rfl fun a E=>pr 1 E rfl fun a E=>lb E H 1 rfl rfl rfl rfl rfl rfl rfl U26 rfl fun a E=>have H:=H.frs [2,2,2,3] rfl;bd hm fun u60 hx61 hm=>cG E rfl rfl rfl rfl rfl Rc (m7 H (hs51 _ hr28) (hs51 _ hr29) (hs51 _ hr32) (hs51 _ hr33) (hs51 _ hr34) (hs51 _ hr38) hx61)<|?_
   rintro _ w ⟨v62,v63,v64,v65,v66,v67,v68,v69,v70,v71,rfl,H⟩ a E
   refine aZ (i:=3) E H (wn rfl) rfl rfl rfl rfl rfl rfl bU rfl (bF H m0 mm1 mm2 mm3 mm4 mm5) fun w H=>nt<|wp_ret<|dH E rfl (cV (i:=3) (us:=(bC u60.1 v62 v63 v64 v65 v66 v67)) H rfl rfl rfl U48 rfl bU)<|have H:=H.drs [1,1,1];?_
   cases hm
   exact X10 ⟨rfl,H.reads (aA m0 (aA mm1 (aA mm2 (aA mm3 (aA mm4 (aA mm5 (aA mm6 (aA (t1 mm6) (aA (t2 mm6) (aA (t3 mm6) (fun r hr=>(t2 (t8 (hs51 r hr))))))))))))))⟩

def mO (u77:aG×(List aE)×(List aI)×(List aK)×(List aD)) (x90:(List ((Int)×aG))):Option (aG×(List aE)×(List aI)×(List aK)×(List aD)×(List ((Int)×aG))):=
  some (u77.1,u77.2.1,u77.2.2.1,u77.2.2.2.1,u77.2.2.2.2,x90)
def jX (u77:aG×(List aE)×(List aI)×(List aK)×(List aD)) (l15:List ((Int)×aG)) (x20:bA) (b103:Bool):Option (aG×(List aE)×(List aI)×(List aK)×(List aD)×(List ((Int)×aG))):=
  if b103=true then ((mpt (kyI .i64) l15 x20.Id u77.1).bind fun l117=>mO u77 l117) else (mO u77 l15)
def mP (l15:List ((Int)×aG)) (x20:bA) (l3:List aE) (l5:List aI) (l11:List aK) (l13:List aD) (l7:List aH) (l9:List aN) (b66:Bool):Option (aG×(List aE)×(List aI)×(List aK)×(List aD)×(List ((Int)×aG))):=
  if b66=true then ((dM 2).bind fun u69=>some (u69,l3,l5,l11,l13,l15)) else ((wX l3 l5 l7 l9 l11 l13 x20).bind fun u77=>if (x20.Id != 0)=true then (if (u77.1.Err != 131)=true then (jX u77 l15 x20 (u77.1.Err != 132)) else (jX u77 l15 x20 false)) else (jX u77 l15 x20 false))
def qK (l15:List ((Int)×aG)) (x20:bA) (l3:List aE) (l5:List aI) (l11:List aK) (l13:List aD) (l7:List aH) (l9:List aN) (b41:Bool) (x42:Int) (x43:Int) (b44:Bool) (x45:Int) (l47:(List cL)) (l49:(List aE)) (l51:(List aI)) (l53:(List bK)) (l55:(List lQ)) (l57:(List Int)):Option (aG×(List aE)×(List aI)×(List aK)×(List aD)×(List ((Int)×aG))):=
  if b41=true then (some ((⟨x42,x43,b44,x45,l47,(⟨l49,l51⟩:bB),l53,l55,l57⟩:aG),l3,l5,l11,l13,l15)) else (if (x20.Id != 0)=true then (mP l15 x20 l3 l5 l11 l13 l7 l9 ((l15.length:Int) == 512)) else (mP l15 x20 l3 l5 l11 l13 l7 l9 false))
def sV (l3:List aE) (l5:List aI) (l7:List aH) (l9:List aN) (l11:List aK) (l13:List aD) (l15:List ((Int)×aG)) (x20:bA):Option (aG×(List aE)×(List aI)×(List aK)×(List aD)×(List ((Int)×aG))):=
  (o8 (kyI .i64) l15 x20.Id nP).bind fun x123=>qK l15 x20 l3 l5 l11 l13 l7 l9 x123.2 x123.1.Err x123.1.At x123.1.Yes x123.1.Epoch x123.1.Results x123.1.Store.Nodes x123.1.Store.Turns x123.1.Events x123.1.Mounts x123.1.Wounded
theorem I4 {w:World} {Fo:List Ob} {rs:List Rp} {p1 p14:Nat} {v2 v4 v6 v8 v10 v12 v21 v22 v23 v24 v25 v26:Value} {l3:List aE} {l5:List aI} {l7:List aH} {l9:List aN} {l11:List aK} {l13:List aD} {l15:List ((Int)×aG)} {x20:bA} (H:Sep w (Blk p1 75 [v2,v4,v6,v8,v10,v12,.map (some p14),v25,v26]::cB Tryz.prog 2 (kyI .i64) bI true p14 l15::Fo) rs) (hr27:rSl aF v2 l3 ∈ rs) (hr28:rSl aJ v4 l5 ∈ rs) (hr29:rSl aS v6 l7 ∈ rs) (hr30:rSl bG v8 l9 ∈ rs) (hr31:rSl aX v10 l11 ∈ rs) (hr32:rSl aO v12 l13 ∈ rs) (hr33:rSl cE v21 x20.Pieces ∈ rs) (hr37:xU Tryz.prog ∈ rs) {r:aG×(List aE)×(List aI)×(List aK)×(List aD)×(List ((Int)×aG))} (hm:sV l3 l5 l7 l9 l11 l13 l15 x20=some r) :
    Calls Tryz.prog 37 [pt p1 0,.agg (aR x20 v21 v22 v23 v24).toArray,.func (.func 25) #[] #[]].toArray w (Ret fun v w'=>∃ y2 y3 y4 y5 y6 y7 y8 y10 y12 y14,.agg (bC r.1 y2 y3 y4 y5 y6 y7).toArray=v∧Sep w' (Blk p1 75 [y8,y10,v6,v8,y12,y14,.map (some p14),v25,v26]::cB Tryz.prog 2 (kyI .i64) bI true p14 r.2.2.2.2.2::Fo) (rSl bE y2 r.1.Results::rSl aF y3 r.1.Store.Nodes::rSl aJ y4 r.1.Store.Turns::rSl aV y5 r.1.Events::rSl bL y6 r.1.Mounts::rSl (kI .i64) y7 r.1.Wounded::rSl aF y8 r.2.1::rSl aJ y10 r.2.2.1::rSl aX y12 r.2.2.2.1::rSl aO y14 r.2.2.2.2.1::rs)):=by
 unfold sV at hm
 refine ent Tryz.func37 rfl Tryz.ntmps37 rfl rfl fun a E=>sq<|bS E H (wn rfl) rfl rfl rfl rfl rfl fun p38 w a H E=>al E H rfl rfl rfl rfl gN fun p39 w a H E=>nt<|wp_seq<|aT (fun a w=>∃ p40 v46 v48 v50 v52 v54 v56 b41 x42 x43 b44 x45 l47 l49 l51 l53 l55 l57 rs58,Env 59 a [(0,pt p1 0),(2,.func (.func 25) #[] #[]),(4,pt p38 0),(6,pt p39 0),(7,pt p40 0),(8,.bool b41)]∧Sep w (Blk p1 75 [v2,v4,v6,v8,v10,v12,.map (some p14),v25,v26]::Blk p38 37 (aR x20 v21 v22 v23 v24)::Blk p39 48 bN::Blk p40 48 [.int .i64 x42,.int .i64 x43,.bool b44,.int .i64 x45,v46,v48,v50,v52,v54,v56]::cB Tryz.prog 2 (kyI .i64) bI true p14 l15::Fo) rs58∧(∀ r,r ∈ rs→r ∈ rs58)∧rSl bE v46 l47 ∈ rs58∧rSl aF v48 l49 ∈ rs58∧rSl aJ v50 l51 ∈ rs58∧rSl aV v52 l53 ∈ rs58∧rSl bL v54 l55 ∈ rs58∧rSl (kI .i64) v56 l57 ∈ rs58∧qK l15 x20 l3 l5 l11 l13 l7 l9 b41 x42 x43 b44 x45 l47 l49 l51 l53 l55 l57=some r) ?_ ?_
 ·refine bd hm fun x123 hx121 hm=>?_
  have hI:dP [Blk p38 37 (aR x20 v21 v22 v23 v24),Blk p1 75 [v2,v4,v6,v8,v10,v12,.map (some p14),v25,v26]] [] { w with drawn:=w.drawn+1 }:=⟨_,_,H.kept (Kp.drawn _ w _),(aB mm1 (aB mm2 (aL))),(aM)⟩
  refine jY _ (.go 0 0 (.go 1 0 (.go 2 0 (.go 3 0 (.go 4 0 (.go 5 0 (.alt 6 (.go 7 0 (.go 8 0 (.go 9 0 (.go 10 1 (.go 11 1 (.go 12 2 .nil)))))) 10 (.go 6 1 (.go 7 0 (.go 8 0 (.go 9 0 (.go 11 1 (.go 12 2 .nil))))))))))))) [12] kG (by kernel_rfl) (fun _ _ _ h=>False.elim h.2) hI<|have H:=H.kept (Kp.drawn _ w (w.drawn+1));?_
  generalize ({ w with drawn:=w.drawn+1 }:World)=w at H hI ⊢
  replace hI:∃ W,dP [Blk p38 37 (aR x20 v21 v22 v23 v24),Blk p1 75 [v2,v4,v6,v8,v10,v12,.map (some p14),v25,v26]] [] W:=⟨_,hI⟩
  obtain ⟨W0,hI⟩:=hI
  refine aW E rfl (wn rfl) rfl rfl (fun w hW=>(bD E rfl rfl)) fun a E=>aW E rfl (wn rfl) rfl rfl (fun w hW=>(sF E rfl rfl)) fun a E=>aW E rfl (wn rfl) rfl rfl (fun w hW=>iY E rfl rfl (v:=pt p1 6) (L7 _ _)) fun a E=>aW E rfl (wn rfl) rfl rfl (fun w hW=>eZ E rfl rfl (kD mm1 rfl U68 rfl w hW)) fun a E=>aW E rfl (wn rfl) rfl rfl (fun w hW=>iY E rfl rfl (v:=pt p38 1) (L6 _ _)) fun a E=>aW E rfl (wn rfl) rfl rfl (fun w hW=>eZ E rfl rfl (kD m0 rfl U2 rfl w hW)) fun a E=>?_
  refine kM rfl rfl ?_ ?_
  ·refine lR (i:=3) (K:=(kyI .i64)) E H (wn rfl) rfl rfl rfl rfl rfl rfl (dX U2) U68 yV q3 hx121 fun u146 a H E=>?_
   obtain ⟨v147,v148,v149,v150,v151,v152,rfl,h⟩:=jC H;clear H;have H:=h
   refine nt<|?_
   refine ⟨⟨_,_,H,(aB mm1 (aB mm2 (aL))),(aM)⟩,?_⟩
   refine aW E rfl (wn rfl) rfl rfl (fun w hW=>(bD E rfl rfl)) fun a E=>aW E rfl (wn rfl) rfl rfl (fun w hW=>(cX E rfl rfl rfl)) fun a E=>aW E rfl (wn rfl) rfl rfl (fun w hW=>(cX E rfl rfl rfl)) fun a E=>cJ rfl<|al E H rfl rfl rfl rfl gN fun p153 w a H E=>nt<|?_
   refine ⟨⟨_,_,H,(aB mm2 (aB mm3 (aL))),(aM)⟩,?_⟩
   refine cJ rfl<|aZ (i:=0) E H (wn rfl) rfl rfl rfl rfl rfl rfl bU rfl (bF H mm5 mm4 mm3 mm2 mm1 m0) fun w H=>nt<|?_
   refine ⟨⟨_,_,H,(aB mm2 (aB mm3 (aL))),(aM)⟩,?_⟩
   refine cP rfl<|pr 1 E rfl fun a E=>nt<|dW<|?_
   clear hI
   exact aC<|have H:=H.frs [4,1,2,3,4] rfl;X19 ⟨E.to rfl,H,(Y7 Y0),mm5,mm4,mm3,mm2,mm1,m0,hm⟩
  ·refine al E H rfl rfl rfl rfl gN fun p154 w a H E=>nt<|?_
   refine ⟨⟨_,_,H,(aB mm2 (aB mm3 (aL))),(aM)⟩,?_⟩
   refine cJ rfl<|lR (i:=4) (K:=(kyI .i64)) E H (wn rfl) rfl rfl rfl rfl rfl rfl (dX U2) U68 yV q3 hx121 fun u158 a H E=>?_
   obtain ⟨v159,v160,v161,v162,v163,v164,rfl,h⟩:=jC H;clear H;have H:=h
   refine nt<|?_
   refine ⟨⟨_,_,H,(aB mm2 (aB mm3 (aL))),(aM)⟩,?_⟩
   refine aW E rfl (wn rfl) rfl rfl (fun w hW=>(bD E rfl rfl)) fun a E=>aW E rfl (wn rfl) rfl rfl (fun w hW=>(cX E rfl rfl rfl)) fun a E=>aW E rfl (wn rfl) rfl rfl (fun w hW=>(cX E rfl rfl rfl)) fun a E=>cJ rfl<|aZ (i:=0) E H (wn rfl) rfl rfl rfl rfl rfl rfl bU rfl (bF H mm5 mm4 mm3 mm2 mm1 m0) fun w H=>nt<|?_
   refine ⟨⟨_,_,H,(aB mm2 (aB mm3 (aL))),(aM)⟩,?_⟩
   refine cP rfl<|pr 1 E rfl fun a E=>nt<|dW<|?_
   clear hI
   exact aC<|have H:=H.frs [4,1,2,3,4] rfl;X19 ⟨E.to rfl,H,(Y7 Y0),mm5,mm4,mm3,mm2,mm1,m0,hm⟩
 ·clear E H hm
  rintro a w ⟨p40,v46,v48,v50,v52,v54,v56,b41,x42,x43,b44,x45,l47,l49,l51,l53,l55,l57,rs58,E,H,hs59,hr60,hr61,hr62,hr63,hr64,hr65,hm⟩
  unfold qK at hm
  refine sq<|pr 1 E rfl fun a E=>nt<|wif E hm rfl (fun hm=>?_) fun hm=>?_
  ·refine sq<|sv E rfl rfl rfl (cA (i:=3) (us:=[.int .i64 x42,.int .i64 x43,.bool b44,.int .i64 x45,v46,v48,v50,v52,v54,v56]) E H rfl rfl rfl rfl U48 rfl bU) fun a E=>aZ (i:=2) E H (wn rfl) rfl rfl rfl rfl rfl rfl bU rfl (bF H hr60 hr61 hr62 hr63 hr64 hr65) fun w H=>nt<|wp_ret<|aP<|dH E rfl (cV (i:=2) (us:=[.int .i64 x42,.int .i64 x43,.bool b44,.int .i64 x45,v46,v48,v50,v52,v54,v56]) H rfl rfl rfl U48 rfl bU)<|have H:=H.drs [1,1,1];?_
   cases hm
   exact X10 ⟨rfl,H.reads (aA hr60 (aA hr61 (aA hr62 (aA hr63 (aA hr64 (aA hr65 (aA (hs59 _ hr27) (aA (hs59 _ hr28) (aA (hs59 _ hr31) (aA (hs59 _ hr32) (hs59)))))))))))⟩
  ·refine wp_skip<|aC<|wp_seq<|aT (fun a w=>∃ b66 rs67,Env 59 a [(0,pt p1 0),(2,.func (.func 25) #[] #[]),(4,pt p38 0),(6,pt p39 0),(32,.bool b66)]∧Sep w (Blk p1 75 [v2,v4,v6,v8,v10,v12,.map (some p14),v25,v26]::Blk p38 37 (aR x20 v21 v22 v23 v24)::Blk p39 48 bN::cB Tryz.prog 2 (kyI .i64) bI true p14 l15::Fo) rs67∧(∀ r,r ∈ rs→r ∈ rs67)∧mP l15 x20 l3 l5 l11 l13 l7 l9 b66=some r) ?_ ?_
   ·refine wp_region_lit<|pr 1 E rfl fun a E=>lb E H 1 rfl rfl rfl rfl rfl rfl rfl U2 rfl fun a E=>pr 2 E rfl fun a E=>cs hm (fun hb120 hm=>?_) fun hb120 hm=>?_
    ·exact pk 3 E (kc 25 rfl hb120) rfl fun a E=>aQ E (ws' (d:=25) E rfl rfl rfl rfl hb120) rfl rfl (cD (i:=0) E H rfl rfl rfl rfl U68 rfl) fun a E=>aQ E (ws' (d:=25) E rfl rfl rfl rfl hb120) rfl rfl (i1 (i:=4) E H rfl rfl rfl U68) fun a E=>pk 2 E (kc 25 rfl hb120) rfl fun a E=>nt<|have H:=H.drop 3;⟨_,_,E.to rfl,H,hs59,hm⟩
    ·exact pk 7 E (kc 25 rfl hb120) rfl fun a E=>nt<|have H:=H.drop 3;⟨_,_,E.to rfl,H,hs59,hm⟩
   ·clear E H hm
    rintro a w ⟨b66,rs67,E,H,hs68,hm⟩
    unfold mP at hm
    refine wif E hm rfl (fun hm=>?_) fun hm=>?_
    ·refine sq<|bd hm fun u69 hx70 hm=>cG E rfl rfl rfl rfl rfl tM (dT H hx70)<|?_
     rintro _ w ⟨v71,v72,v73,v74,v75,v76,rfl,H⟩ a E
     refine aZ (i:=2) E H (wn rfl) rfl rfl rfl rfl rfl rfl bU rfl (bF H m0 mm1 mm2 mm3 mm4 mm5) fun w H=>nt<|wp_ret<|aP<|dH E rfl (cV (i:=2) (us:=(bC u69 v71 v72 v73 v74 v75 v76)) H rfl rfl rfl U48 rfl bU)<|have H:=H.drs [1,1];?_
     cases hm
     exact X10 ⟨rfl,H.reads (aA m0 (aA mm1 (aA mm2 (aA mm3 (aA mm4 (aA mm5 (aA (t6 (hs68 _ hr27)) (aA (t6 (hs68 _ hr28)) (aA (t6 (hs68 _ hr31)) (aA (t6 (hs68 _ hr32)) (fun r hr=>(t6 (hs68 r hr)))))))))))))⟩
    ·refine wp_skip<|aC<|sq<|pr 2 E rfl fun a E=>sv E rfl rfl rfl (cA (i:=1) (us:=(aR x20 v21 v22 v23 v24)) E H rfl rfl rfl rfl U37 rfl j6) fun a E=>bd hm fun u77 hx78 hm=>aU E (wn rfl) rfl rfl (bP E rfl rfl rfl (Yk _)) (Q8 H (hs68 _ hr27) (hs68 _ hr28) (hs68 _ hr29) (hs68 _ hr30) (hs68 _ hr31) (hs68 _ hr32) (hs68 _ hr33) (hs68 _ hr37) hx78)<|?_
     rintro _ w ⟨v79,v80,v81,v82,v83,v84,v85,v86,v87,v88,rfl,H⟩ a E
     refine al E H rfl rfl rfl rfl gN fun p89 w a H E=>aZ (i:=0) E H (wn rfl) rfl rfl rfl rfl rfl rfl bU rfl (bF H m0 mm1 mm2 mm3 mm4 mm5) fun w H=>nt<|aT (fun a w=>∃ x90 rs91,Env 59 a [(6,pt p39 0),(9,pt p89 0)]∧Sep w (Blk p39 48 bN::Blk p89 48 (bC u77.1 v79 v80 v81 v82 v83 v84)::Blk p1 75 [v85,v86,v6,v8,v87,v88,.map (some p14),v25,v26]::cB Tryz.prog 2 (kyI .i64) bI true p14 x90::Fo) rs91∧(∀ r,r ∈ rs→r ∈ rs91)∧rSl bE v79 u77.1.Results ∈ rs91∧rSl aF v80 u77.1.Store.Nodes ∈ rs91∧rSl aJ v81 u77.1.Store.Turns ∈ rs91∧rSl aV v82 u77.1.Events ∈ rs91∧rSl bL v83 u77.1.Mounts ∈ rs91∧rSl (kI .i64) v84 u77.1.Wounded ∈ rs91∧rSl aF v85 u77.2.1 ∈ rs91∧rSl aJ v86 u77.2.2.1 ∈ rs91∧rSl aX v87 u77.2.2.2.1 ∈ rs91∧rSl aO v88 u77.2.2.2.2 ∈ rs91∧mO u77 x90=some r) ?_ ?_
     ·refine aT (fun a w=>∃ b103 rs104,Env 59 a [(0,pt p1 0),(4,pt p38 0),(6,pt p39 0),(9,pt p89 0),(50,.bool b103)]∧Sep w (Blk p1 75 [v85,v86,v6,v8,v87,v88,.map (some p14),v25,v26]::Blk p38 37 (aR x20 v21 v22 v23 v24)::Blk p39 48 bN::Blk p89 48 (bC u77.1 v79 v80 v81 v82 v83 v84)::cB Tryz.prog 2 (kyI .i64) bI true p14 l15::Fo) rs104∧(∀ r,r ∈ rs→r ∈ rs104)∧rSl aF v85 u77.2.1 ∈ rs104∧rSl aJ v86 u77.2.2.1 ∈ rs104∧rSl aX v87 u77.2.2.2.1 ∈ rs104∧rSl aO v88 u77.2.2.2.2 ∈ rs104∧rSl bE v79 u77.1.Results ∈ rs104∧rSl aF v80 u77.1.Store.Nodes ∈ rs104∧rSl aJ v81 u77.1.Store.Turns ∈ rs104∧rSl aV v82 u77.1.Events ∈ rs104∧rSl bL v83 u77.1.Mounts ∈ rs104∧rSl (kI .i64) v84 u77.1.Wounded ∈ rs104∧jX u77 l15 x20 b103=some r) ?_ ?_
      ·refine wp_region_lit<|pr 1 E rfl fun a E=>lb E H 2 rfl rfl rfl rfl rfl rfl rfl U2 rfl fun a E=>pr 2 E rfl fun a E=>cs hm (fun hb118 hm=>?_) fun hb118 hm=>?_
       ·refine pk 1 E (kc 41 rfl hb118) rfl fun a E=>aQ E (ws' (d:=41) E rfl rfl rfl rfl hb118) rfl rfl (cD (i:=0) E H rfl rfl rfl rfl U41 rfl) fun a E=>pk 3 E (kc 41 rfl hb118) rfl fun a E=>cs hm (fun hb119 hm=>?_) fun hb119 hm=>?_
        ·exact pk 1 E (kc 46 rfl hb119) rfl fun a E=>aQ E (ws' (d:=46) E rfl rfl rfl rfl hb119) rfl rfl (cD (i:=0) E H rfl rfl rfl rfl U41 rfl) fun a E=>pk 2 E (kc 46 rfl hb119) rfl fun a E=>nt<|have H:=H.frs [4,1,4,4,4] rfl;⟨_,_,E.to rfl,H,(Y2 (Y8 hs68)),mm6,(t1 mm6),(t2 mm6),(t3 mm6),m0,mm1,mm2,mm3,mm4,mm5,hm⟩
        ·exact pk 4 E (kc 46 rfl hb119) rfl fun a E=>nt<|have H:=H.frs [4,1,4,4,4] rfl;⟨_,_,E.to rfl,H,(Y2 (Y8 hs68)),mm6,(t1 mm6),(t2 mm6),(t3 mm6),m0,mm1,mm2,mm3,mm4,mm5,hm⟩
       ·exact pk 9 E (kc 41 rfl hb118) rfl fun a E=>nt<|have H:=H.frs [4,1,4,4,4] rfl;⟨_,_,E.to rfl,H,(Y2 (Y8 hs68)),mm6,(t1 mm6),(t2 mm6),(t3 mm6),m0,mm1,mm2,mm3,mm4,mm5,hm⟩
      ·clear E H hm
       rintro a w ⟨b103,rs104,E,H,hs105,hr106,hr107,hr108,hr109,hr110,hr111,hr112,hr113,hr114,hr115,hm⟩
       unfold jX at hm
       refine wif E hm rfl (fun hm=>?_) fun hm=>?_
       ·refine dw [(0,0),(1,0),(2,0),(3,0),(4,0),(5,0),(6,0),(7,2)] [0,1,3] [] H (by kernel_rfl) (fun _ _ _ h=>False.elim h.2) fun w W0 hI H=>fn 3 E rfl fun a E=>fb E rfl (wn rfl) rfl rfl rfl rfl m0 rfl U68 rfl fun a E=>fn 1 E rfl fun a E=>fb E rfl (wn rfl) rfl rfl rfl rfl mm1 rfl U2 rfl fun a E=>fbn E (bC u77.1 v79 v80 v81 v82 v83 v84) rfl (wn rfl) rfl rfl rfl rfl mm2 rfl U48 rfl bU fun a E=>bQ rfl<|bd hm fun l117 hx116 hm=>zR (i:=4) (K:=(kyI .i64)) (v:=u77.1) (cs:=[.int .i64 u77.1.Err,.int .i64 u77.1.At,.bool u77.1.Yes,.int .i64 u77.1.Epoch,v79,v80,v81,v82,v83,v84]) E H (wn rfl) rfl rfl rfl rfl rfl rfl (dX U2) U68 hx116 (fun ok hr=>(lS (hr _ hr110) (hr _ hr111) (hr _ hr112) (hr _ hr113) (hr _ hr114) (hr _ hr115))) fun w H=>?_
        refine nt<|bR<|?_
        clear hI
        exact aC<|have H:=H.drop 1;have H:=H.frs [3,1,3,3] rfl;⟨_,_,E.to rfl,H,hs105,hr110,hr111,hr112,hr113,hr114,hr115,hr106,hr107,hr108,hr109,hm⟩
       ·exact wp_skip<|aC<|have H:=H.drop 1;have H:=H.frs [3,1,3,3] rfl;⟨_,_,E.to rfl,H,hs105,hr110,hr111,hr112,hr113,hr114,hr115,hr106,hr107,hr108,hr109,hm⟩
     ·clear E H hm
      rintro a w ⟨x90,rs91,E,H,hs92,hr93,hr94,hr95,hr96,hr97,hr98,hr99,hr100,hr101,hr102,hm⟩
      unfold mO at hm
      refine sq<|sv E rfl rfl rfl (cA (i:=1) (us:=(bC u77.1 v79 v80 v81 v82 v83 v84)) E H rfl rfl rfl rfl U48 rfl bU) fun a E=>aZ (i:=0) E H (wn rfl) rfl rfl rfl rfl rfl rfl bU rfl (bF H hr93 hr94 hr95 hr96 hr97 hr98) fun w H=>nt<|wp_ret<|dH E rfl (cV (i:=0) (us:=(bC u77.1 v79 v80 v81 v82 v83 v84)) H rfl rfl rfl U48 rfl bU)<|have H:=H.drs [0,0];?_
      cases hm
      exact X10 ⟨rfl,H.reads (aA hr93 (aA hr94 (aA hr95 (aA hr96 (aA hr97 (aA hr98 (aA hr99 (aA hr100 (aA hr101 (aA hr102 (hs92)))))))))))⟩

def pE (x1:Int):Option Bool:=
  if (decide (x1 ≥ 0))=true then (some (decide (x1 ≤ 281474976710656))) else (some (false))
theorem wL {w:World} {Fo:List Ob} {rs:List Rp} {x1:Int} (H:Sep w (Fo) rs) {r:Bool} (hm:pE x1=some r) :
    Calls Tryz.prog 130 [.int .i64 x1].toArray w (Ret fun v w'=>.bool r=v∧Sep w' (Fo) (rs)):=by
 unfold pE at hm
 refine ent Tryz.func130 rfl Tryz.ntmps130 rfl rfl fun a E=>sq<|pr 1 E rfl fun a E=>nx<|pr 3 E rfl fun a E=>cs hm (fun hb2 hm=>?_) fun hb2 hm=>?_
 ·refine pk 4 E (kc 5 rfl hb2) rfl fun a E=>nt<|wp_ret<|aY E rfl rfl<|?_
  cases hm
  exact ⟨rfl,H.reads Y0⟩
 ·refine pk 4 E (kc 5 rfl hb2) rfl fun a E=>nt<|wp_ret<|aY E rfl rfl<|?_
  cases hm
  exact ⟨rfl,H.reads Y0⟩

def gG (rec_1:Int→(List ((Int)×Int))→Option Bool) (x6:(List ((Int)×Int))) (x9:aN) (x5:Int) (b15:Bool):Option Bool:=
  if b15=true then (some (false)) else ((mpt (kyI .i64) x6 x9.Txn x9.Age).bind fun l19=>rec_1 (IntKind.i64.wrap (x5+1)) l19)
def eN (l2:List aN):Nat→Int→(List ((Int)×Int))→Option Bool
  | 0,_,_=>none
  | k1+1,x5,x6=>
    if (decide (x5 < (l2.length:Int)))=true then ((idx l2 x5).bind fun x9=>(mlk (kyI .i64) x6 x9.Txn).bind fun u14=>(fA x9.Dir).bind fun u21=>if (!u21)=true then (gG (eN l2 k1) x6 x9 x5 true) else ((pE x9.Txn).bind fun u24=>if (!u24)=true then (gG (eN l2 k1) x6 x9 x5 true) else ((pE x9.Age).bind fun u27=>if (!u27)=true then (gG (eN l2 k1) x6 x9 x5 true) else (if u14.isSome=true then (if ((u14.getD 0) != x9.Age)=true then (gG (eN l2 k1) x6 x9 x5 true) else (if (decide (x5 > 0))=true then ((idx l2 (IntKind.i64.wrap (x5 - 1))).bind fun x33=>gG (eN l2 k1) x6 x9 x5 (!(sLt x33.Dir x9.Dir))) else (gG (eN l2 k1) x6 x9 x5 false))) else (if (decide (x5 > 0))=true then ((idx l2 (IntKind.i64.wrap (x5 - 1))).bind fun x41=>gG (eN l2 k1) x6 x9 x5 (!(sLt x41.Dir x9.Dir))) else (gG (eN l2 k1) x6 x9 x5 false)))))) else (some (true))
def l0 (l2:List aN):Option Bool:=
  eN l2 (((l2.length:Int) - 0:Int).toNat+1) 0 []
theorem Cr {w:World} {Fo:List Ob} {rs:List Rp} {v1:Value} {l2:List aN} (H:Sep w (Fo) rs) (hr3:rSl bG v1 l2 ∈ rs) {r:Bool} (hm:l0 l2=some r) :
    Calls Tryz.prog 129 [v1].toArray w (Ret fun v w'=>.bool r=v∧Sep w' (Fo) (rs)):=by
 unfold l0 at hm
 refine ent Tryz.func129 rfl Tryz.ntmps129 rfl rfl fun a E=>sq<|pr 1 E rfl fun a E=>nx<|tK (k:=2) (K:=(kyI .i64)) (d:=(kI .i64)) (g:=false) E H (wn rfl) rfl rfl rfl fun p4 w a H E=>pr 1 E rfl fun a E=>nt<|wp_seq<|sq<|?_
 refine pr 1 E rfl fun a E=>sv E rfl rfl rfl (cR E H rfl rfl hr3 U62) fun a E=>pr 1 E rfl fun a E=>nt<|wp_block<|bX (fun k1 a w=>∃ x5 x6 rs7,Env 69 a [(0,v1),(3,.map (some p4)),(9,v1),(10,.int .i64 (l2.length:Int)),(11,.int .i64 x5)]∧Sep w (cB Tryz.prog 2 (kyI .i64) (kI .i64) false p4 x6::Fo) rs7∧(∀ r,r ∈ rs→r ∈ rs7)∧eN l2 k1 x5 x6=some r) (((l2.length:Int) - 0:Int).toNat+1) ?_ ?_
 ·exact X3 ⟨E.to rfl,H,Y0,hm⟩
 ·clear E H hm
  rintro k1 a w ⟨x5,x6,rs7,E,H,hs8,hm⟩
  cases k1 with
  | zero=>exact (bT hm rfl).elim
  | succ k1=>
   unfold eN at hm
   refine sq<|pr 1 E rfl fun a E=>nt<|wp_seq<|wif E hm rfl (fun hm=>?_) fun hm=>?_
   ·refine wp_skip<|aC<|wp_seq<|wp_block<|sq<|pr 1 E rfl fun a E=>bd hm fun x9 hx10 hm=>dE E H (wn rfl) rfl rfl rfl rfl rfl (hs8 _ hr3) U62 gQ hx10 fun q11 a H E=>ldf eC E H rfl rfl rfl rfl rfl m0 j8 rfl gQ fun a E=>?_
    refine al E H rfl rfl rfl rfl Hz fun p12 w a H E=>pr 1 E rfl fun a E=>aZ (i:=0) E H (wn rfl) rfl rfl rfl rfl rfl rfl gQ rfl rfl fun w H=>nx<|pr 2 E rfl fun a E=>lb E H 0 rfl rfl rfl rfl rfl rfl rfl U2 rfl fun a E=>bd hm fun u14 hx13 hm=>sv E rfl rfl rfl (Mv (i:=1) (K:=(kyI .i64)) (z0:=0) (u:=u14) E H rfl rfl rfl rfl (dX U2) Rw Zf hx13) fun a E=>pr 5 E rfl fun a E=>?_
    refine nt<|wp_seq<|aT (fun a w=>∃ b15 rs16,Env 69 a [(0,v1),(3,.map (some p4)),(5,pt p12 0),(9,v1),(10,.int .i64 (l2.length:Int)),(11,.int .i64 x5),(62,.bool b15)]∧Sep w (cB Tryz.prog 2 (kyI .i64) (kI .i64) false p4 x6::Blk p12 103 (nG x9)::Fo) rs16∧(∀ r,r ∈ rs→r ∈ rs16)∧gG (eN l2 k1) x6 x9 x5 b15=some r) ?_ ?_
    ·obtain ⟨u20,H⟩:=H.raw (t1 (hs8 _ hr3))
     refine dw [(0,0),(1,0),(2,1),(3,0),(4,0),(5,0),(6,0),(7,1),(8,0),(9,0),(10,0),(11,0),(12,0),(13,1),(14,0),(15,0),(16,0),(17,0),(18,0),(19,0),(20,0),(21,0),(22,0),(23,0),(24,0),(25,0),(26,0),(27,0),(28,0),(29,0),(30,0),(31,0),(32,0),(33,0),(34,0),(35,0),(36,0),(37,0),(38,0),(39,0)] [0] [0] H (by kernel_rfl) (fun _ _ _ h=>False.elim h.2) fun w W0 hI H=>fn 1 E rfl fun a E=>fb E rfl (wn rfl) rfl rfl rfl rfl m0 rfl U9 rfl fun a E=>bZ rfl<|bd hm fun u21 hx22 hm=>xk E rfl rfl rfl rfl rfl yU (gC H hx22) fun w H a E=>nt<|?_
     refine ⟨⟨_,_,H,(aB m0 (aL)),(aA m0 (aM))⟩,?_⟩
     refine fn 2 E rfl fun a E=>cs hm (fun hb23 hm=>?_) fun hb23 hm=>?_
     ·refine fk 2 E (kc 27 rfl hb23) rfl fun a E=>bZ rfl<|pk 1 E (kc 27 rfl hb23) rfl fun a E=>nt<|?_
      refine ⟨⟨_,_,H,(aB m0 (aL)),(aA m0 (aM))⟩,?_⟩
      refine fk 5 E (kc 27 rfl hb23) rfl fun a E=>bZ rfl<|pr 1 E rfl fun a E=>nt<|?_
      refine ⟨⟨_,_,H,(aB m0 (aL)),(aA m0 (aM))⟩,?_⟩
      refine fn 26 E rfl fun a E=>bR<|?_
      clear hI
      exact aC<|have H:=H.frs [0,1] rfl;⟨_,_,E.to rfl,H,(Y2 hs8),hm⟩
     ·refine fk 1 E (kc 27 rfl hb23) rfl fun a E=>fb E rfl (ws' (d:=27) E rfl rfl rfl rfl hb23) rfl rfl rfl rfl m0 rfl U2 rfl fun a E=>bZ rfl<|bd hm fun u24 hx25 hm=>aU E (ws' (d:=27) E rfl rfl rfl rfl hb23) rfl rfl (cC E rfl rfl (Dh _)) (wL H hx25)<|?_
      rintro _ w ⟨rfl,H⟩ a E
      refine nt<|?_
      refine ⟨⟨_,_,H,(aB m0 (aL)),(aA m0 (aM))⟩,?_⟩
      refine fk 3 E (kc 27 rfl hb23) rfl fun a E=>cs hm (fun hb26 hm=>?_) fun hb26 hm=>?_
      ·refine fk 2 E (kc 33 rfl hb26) rfl fun a E=>bZ rfl<|pk 1 E (kc 33 rfl hb26) rfl fun a E=>nt<|?_
       refine ⟨⟨_,_,H,(aB m0 (aL)),(aA m0 (aM))⟩,?_⟩
       refine fk 26 E (kc 33 rfl hb26) rfl fun a E=>bR<|?_
       clear hI
       exact aC<|have H:=H.frs [0,1] rfl;⟨_,_,E.to rfl,H,(Y2 hs8),hm⟩
      ·refine fk 1 E (kc 33 rfl hb26) rfl fun a E=>fb E rfl (ws' (d:=33) E rfl rfl rfl rfl hb26) rfl rfl rfl rfl m0 rfl U2 rfl fun a E=>bZ rfl<|bd hm fun u27 hx28 hm=>aU E (ws' (d:=33) E rfl rfl rfl rfl hb26) rfl rfl (cC E rfl rfl (Dh _)) (wL H hx28)<|?_
       rintro _ w ⟨rfl,H⟩ a E
       refine nt<|?_
       refine ⟨⟨_,_,H,(aB m0 (aL)),(aA m0 (aM))⟩,?_⟩
       refine fk 3 E (kc 33 rfl hb26) rfl fun a E=>cs hm (fun hb29 hm=>?_) fun hb29 hm=>?_
       ·refine fk 23 E (kc 39 rfl hb29) rfl fun a E=>bR<|?_
        clear hI
        exact aC<|have H:=H.frs [0,1] rfl;⟨_,_,E.to rfl,H,(Y2 hs8),hm⟩
       ·refine fk 2 E (kc 39 rfl hb29) rfl fun a E=>cs hm (fun hb30 hm=>?_) fun hb30 hm=>?_
        ·refine fk 2 E (kc 41 rfl hb30) rfl fun a E=>fb E rfl (ws' (d:=41) E rfl rfl rfl rfl hb30) rfl rfl rfl rfl m0 rfl U2 rfl fun a E=>fk 4 E (kc' (kc 41 rfl hb30) 39 rfl hb29) rfl fun a E=>cs hm (fun hb31 hm=>?_) fun hb31 hm=>?_
         ·refine fk 14 E (kc 48 rfl hb31) rfl fun a E=>bR<|?_
          clear hI
          exact aC<|have H:=H.frs [0,1] rfl;⟨_,_,E.to rfl,H,(Y2 hs8),hm⟩
         ·refine fk 3 E (kc 48 rfl hb31) rfl fun a E=>cs hm (fun hb32 hm=>?_) fun hb32 hm=>?_
          ·refine fk 3 E (kc 51 rfl hb32) rfl fun a E=>bd hm fun x33 hx34 hm=>?_
           obtain ⟨q35,u38,hx36,hx37⟩:=oO (P:=Tryz.prog) (k:=.i64) hI (oN (.head _)) U62 gQ hx34
           refine bW E rfl (ws' (d:=51) E rfl rfl rfl rfl hb32) rfl rfl (fun w hW=>rI E rfl rfl rfl (hx36 w)) fun a E=>?_
           have hx39:=uU hx37 (fun _ _ _ h=>D8 h)
           refine fk 1 E (kc 51 rfl hb32) rfl fun a E=>fa E rfl (ws' (d:=51) E rfl rfl rfl rfl hb32) rfl rfl rfl rfl hx39 U9 rfl fun a E=>fk 1 E (kc 51 rfl hb32) rfl fun a E=>fb E rfl (ws' (d:=51) E rfl rfl rfl rfl hb32) rfl rfl rfl rfl m0 rfl U9 rfl fun a E=>fk 3 E (kc' (kc 51 rfl hb32) 48 rfl hb31) rfl fun a E=>bR<|?_
           clear hI
           exact aC<|have H:=H.frs [0,1] rfl;⟨_,_,E.to rfl,H,(Y2 hs8),hm⟩
          ·refine fk 11 E (kc' (kc 51 rfl hb32) 48 rfl hb31) rfl fun a E=>bR<|?_
           clear hI
           exact aC<|have H:=H.frs [0,1] rfl;⟨_,_,E.to rfl,H,(Y2 hs8),hm⟩
        ·refine fk 10 E (kc' (kc 41 rfl hb30) 39 rfl hb29) rfl fun a E=>cs hm (fun hb40 hm=>?_) fun hb40 hm=>?_
         ·refine fk 3 E (kc 51 rfl hb40) rfl fun a E=>bd hm fun x41 hx42 hm=>?_
          obtain ⟨q43,u46,hx44,hx45⟩:=oO (P:=Tryz.prog) (k:=.i64) hI (oN (.head _)) U62 gQ hx42
          refine bW E rfl (ws' (d:=51) E rfl rfl rfl rfl hb40) rfl rfl (fun w hW=>rI E rfl rfl rfl (hx44 w)) fun a E=>?_
          have hx47:=uU hx45 (fun _ _ _ h=>D8 h)
          refine fk 1 E (kc 51 rfl hb40) rfl fun a E=>fa E rfl (ws' (d:=51) E rfl rfl rfl rfl hb40) rfl rfl rfl rfl hx47 U9 rfl fun a E=>fk 1 E (kc 51 rfl hb40) rfl fun a E=>fb E rfl (ws' (d:=51) E rfl rfl rfl rfl hb40) rfl rfl rfl rfl m0 rfl U9 rfl fun a E=>fk 3 E (kc 51 rfl hb40) rfl fun a E=>bR<|?_
          clear hI
          exact aC<|have H:=H.frs [0,1] rfl;⟨_,_,E.to rfl,H,(Y2 hs8),hm⟩
         ·refine fk 11 E (kc 51 rfl hb40) rfl fun a E=>bR<|?_
          clear hI
          exact aC<|have H:=H.frs [0,1] rfl;⟨_,_,E.to rfl,H,(Y2 hs8),hm⟩
    ·clear E H hm
     rintro a w ⟨b15,rs16,E,H,hs17,hm⟩
     unfold gG at hm
     refine wif E hm rfl (fun hm=>?_) fun hm=>?_
     ·refine sq<|pr 1 E rfl fun a E=>nt<|wp_ret<|aP<|bV<|aP<|aP<|bV<|?_
      refine aP<|aY E rfl rfl<|have H:=H.drs [0,0];?_
      cases hm
      exact ⟨rfl,H.reads hs17⟩
     ·refine wp_skip<|aC<|wp_region_lit<|pr 2 E rfl fun a E=>lb E H 1 rfl rfl rfl rfl rfl rfl rfl U2 rfl fun a E=>pr 1 E rfl fun a E=>lb E H 1 rfl rfl rfl rfl rfl rfl rfl U2 rfl fun a E=>bd hm fun l19 hx18 hm=>Gb (i:=0) (K:=(kyI .i64)) (v:=x9.Age) E H (wn rfl) rfl rfl rfl rfl rfl rfl (dX U2) Rw hx18 fun w H=>?_
      exact wpList_nil<|bY<|aC<|wp_region_lit<|pr 2 E rfl fun a E=>nt<|have H:=H.drop 1;⟨k1,Nat.lt_succ_self k1,X3 ⟨E.to rfl,H,hs17,hm⟩⟩
   ·refine wp_exit<|bH<|bH<|dG<|aC<|sq<|pr 1 E rfl fun a E=>nt<|wp_ret<|?_
    refine aY E rfl rfl<|have H:=H.drop 0;?_
    cases hm
    exact ⟨rfl,H.reads hs8⟩

def jS (l2:List ((Int)×Int)):Option Unit:=
  some ()
theorem wM {w:World} {Fo:List Ob} {rs:List Rp} {p1:Nat} {l2:List ((Int)×Int)} (H:Sep w (cB Tryz.prog 2 (kyI .i64) (kI .i64) false p1 l2::Fo) rs) {r:Unit} (hm:jS l2=some r) :
    Calls Tryz.prog 134 [.map (some p1)].toArray w (Ret fun v w'=>∃ p5001,.func (.func 190) #[] #[pt p5001 0]=v∧Sep w' (Blk p5001 183 [.map (some p1)]::cB Tryz.prog 2 (kyI .i64) (kI .i64) false p1 l2::Fo) (rs)):=by
 unfold jS at hm
 refine ent Tryz.func134 rfl Tryz.ntmps134 rfl rfl fun a E=>sq<|bS E H (wn rfl) rfl rfl rfl rfl rfl fun p3 w a H E=>pr 1 E rfl fun a E=>nx<|sv E rfl rfl rfl (iP E rfl rfl rfl) fun a E=>pr 1 E rfl fun a E=>nt<|wp_ret<|?_
 refine aY E rfl rfl<|?_
 cases hm
 exact ⟨_,rfl,H.reads Y0⟩

def wN (x1:aN) (s2:ByteArray):Option Int:=
  (jZ x1.Dir s2).bind fun u4=>some (u4)
theorem F5 {w:World} {Fo:List Ob} {rs:List Rp} {x1:aN} {s2:ByteArray} (H:Sep w (Fo) rs) {r:Int} (hm:wN x1 s2=some r) :
    Calls Tryz.prog 136 [.agg (nG x1).toArray,.string s2].toArray w (Ret fun v w'=>.int .i64 r=v∧Sep w' (Fo) (rs)):=by
 unfold wN at hm
 refine ent Tryz.func136 rfl Tryz.ntmps136 rfl rfl fun a E=>sq<|bS E H (wn rfl) rfl rfl rfl rfl rfl fun p3 w a H E=>pr 1 E rfl fun a E=>nx<|pr 1 E rfl fun a E=>lb E H 0 rfl rfl rfl rfl rfl rfl rfl U9 rfl fun a E=>pr 1 E rfl fun a E=>bd hm fun u4 hx5 hm=>?_
 refine xk E rfl rfl rfl rfl rfl Er (oP H hx5) fun w H a E=>pr 1 E rfl fun a E=>nt<|wp_ret<|aY E rfl rfl<|have H:=H.drop 0;?_
 cases hm
 exact ⟨rfl,H.reads Y0⟩

def dD (l2:List aN) (s3:ByteArray):Nat→Int→Int→Option (Int×Bool)
  | 0,_,_=>none
  | k1+1,x4,x5=>
    if (decide (x4 < x5))=true then ((idx l2 (IntKind.i64.wrap (pH .u64 (IntKind.u64.wrap (IntKind.i64.wrap (x4+x5))) 1))).bind fun x8=>(wN x8 s3).bind fun u13=>if (decide (u13 < 0))=true then (dD l2 s3 k1 (IntKind.i64.wrap ((IntKind.i64.wrap (pH .u64 (IntKind.u64.wrap (IntKind.i64.wrap (x4+x5))) 1))+1)) x5) else (dD l2 s3 k1 x4 (IntKind.i64.wrap (pH .u64 (IntKind.u64.wrap (IntKind.i64.wrap (x4+x5))) 1)))) else (if (decide (x4 < (l2.length:Int)))=true then ((idx l2 x4).bind fun x16=>(wN x16 s3).bind fun u21=>some (x4,u21 == 0)) else (some (x4,false)))
def fK (l2:List aN) (s3:ByteArray):Option (Int×Bool):=
  dD l2 s3 (((l2.length:Int) - 0:Int).toNat+1) 0 (l2.length:Int)
theorem pC {w:World} {Fo:List Ob} {rs:List Rp} {v1:Value} {l2:List aN} {s3:ByteArray} (H:Sep w (Row 103 bG v1 l2::Fo) rs) {r:Int×Bool} (hm:fK l2 s3=some r) :
    Calls Tryz.prog 135 [v1,.string s3,.func (.func 136) #[] #[]].toArray w (Ret fun v w'=>.tuple #[.int .i64 r.1,.bool r.2]=v∧Sep w' (Row 103 bG v1 l2::Fo) (rs)):=by
 unfold fK at hm
 refine ent Tryz.func135 rfl Tryz.ntmps135 rfl rfl fun a E=>sq<|pr 2 E rfl fun a E=>nx<|pr 1 E rfl fun a E=>sv E rfl rfl rfl (iZ (i:=0) E H rfl rfl rfl U62) fun a E=>pr 1 E rfl fun a E=>nx<|pr 3 E rfl fun a E=>?_
 refine nt<|wp_seq<|wp_block<|bX (fun k1 a w=>∃ x4 x5 rs6,Env 49 a [(0,v1),(1,.string s3),(2,.func (.func 136) #[] #[]),(8,.int .i64 (l2.length:Int)),(9,.int .i64 x4),(10,.int .i64 x5)]∧Sep w (Row 103 bG v1 l2::Fo) rs6∧(∀ r,r ∈ rs→r ∈ rs6)∧dD l2 s3 k1 x4 x5=some r) (((l2.length:Int) - 0:Int).toNat+1) ?_ ?_
 ·exact X3 ⟨E.to rfl,H,Y0,hm⟩
 ·clear E H hm
  rintro k1 a w ⟨x4,x5,rs6,E,H,hs7,hm⟩
  cases k1 with
  | zero=>exact (bT hm rfl).elim
  | succ k1=>
   unfold dD at hm
   refine wp_seq<|sq<|pr 3 E rfl fun a E=>nt<|wif E hm rfl (fun hm=>?_) fun hm=>?_
   ·refine wp_skip<|aC<|wp_block<|sq<|pr 4 E rfl fun a E=>sv E rfl rfl rfl (F7 E rfl rfl rfl (by decide)) fun a E=>pr 2 E rfl fun a E=>nx<|pr 3 E rfl fun a E=>?_
    refine bd hm fun x8 hx9 hm=>?_
    obtain ⟨p10,x11,hx12⟩:=H.rowformNE (i:=0) rfl hx9
    refine sv E rfl rfl rfl (cY (d:=bG) E hx12 rfl rfl rfl rfl U62 gQ hx9) fun a E=>sv E rfl rfl rfl (fZ (i:=0) E H eC hx12 rfl rfl rfl hx9 (us:=[.string x8.Dir,.int .i64 x8.Txn,.int .i64 x8.Age]) rfl j8 rfl gQ) fun a E=>pr 1 E rfl fun a E=>bd hm fun u13 hx14 hm=>aU E (wn rfl) rfl rfl (bP E rfl rfl rfl (Mg _)) (F5 H hx14)<|?_
    rintro _ w ⟨rfl,H⟩ a E
    refine pr 1 E rfl fun a E=>nt<|wif E hm rfl (fun hm=>?_) fun hm=>?_
    ·exact wp_region_lit<|pr 3 E rfl fun a E=>wpList_nil<|bY<|aC<|⟨k1,Nat.lt_succ_self k1,X3 ⟨E.to rfl,H,hs7,hm⟩⟩
    ·exact wp_region_lit<|pr 2 E rfl fun a E=>wpList_nil<|bY<|aC<|⟨k1,Nat.lt_succ_self k1,X3 ⟨E.to rfl,H,hs7,hm⟩⟩
   ·refine wp_exit<|bH<|bH<|dG<|aC<|sq<|pr 5 E rfl fun a E=>cs hm (fun hb15 hm=>?_) fun hb15 hm=>?_
    ·refine pk 3 E (kc 39 rfl hb15) rfl fun a E=>bd hm fun x16 hx17 hm=>?_
     obtain ⟨p18,x19,hx20⟩:=H.rowformNE (i:=0) rfl hx17
     refine aQ E (ws' (d:=39) E rfl rfl rfl rfl hb15) rfl rfl (cY (d:=bG) E hx20 rfl rfl rfl rfl U62 gQ hx17) fun a E=>aQ E (ws' (d:=39) E rfl rfl rfl rfl hb15) rfl rfl (fZ (i:=0) E H eC hx20 rfl rfl rfl hx17 (us:=[.string x16.Dir,.int .i64 x16.Txn,.int .i64 x16.Age]) rfl j8 rfl gQ) fun a E=>pk 1 E (kc 39 rfl hb15) rfl fun a E=>bd hm fun u21 hx22 hm=>aU E (ws' (d:=39) E rfl rfl rfl rfl hb15) rfl rfl (bP E rfl rfl rfl (Mg _)) (F5 H hx22)<|?_
     rintro _ w ⟨rfl,H⟩ a E
     refine pk 4 E (kc 39 rfl hb15) rfl fun a E=>nt<|wp_ret<|fX E rfl rfl rfl<|?_
     cases hm
     exact ⟨rfl,H.reads hs7⟩
    ·refine pk 11 E (kc 39 rfl hb15) rfl fun a E=>nt<|wp_ret<|fX E rfl rfl rfl<|?_
     cases hm
     exact ⟨rfl,H.reads hs7⟩

def a8 (x1:aN) (x3:Int) (x5:Int):Option Bool:=
  if (x1.Txn == x3)=true then (some (x1.Age != x5)) else (some (false))
theorem Bp {w:World} {Fo:List Ob} {rs:List Rp} {x1:aN} {p2 p4:Nat} {x3 x5:Int} (H:Sep w (Blk p2 2 [.int .i64 x3]::Blk p4 2 [.int .i64 x5]::Fo) rs) {r:Bool} (hm:a8 x1 x3 x5=some r) :
    Calls Tryz.prog 128 [.agg (nG x1).toArray,pt p2 0,pt p4 0].toArray w (Ret fun v w'=>.bool r=v∧Sep w' (Blk p2 2 [.int .i64 x3]::Blk p4 2 [.int .i64 x5]::Fo) (rs)):=by
 unfold a8 at hm
 refine ent Tryz.func128 rfl Tryz.ntmps128 rfl rfl fun a E=>sq<|bS E H (wn rfl) rfl rfl rfl rfl rfl fun p6 w a H E=>pr 1 E rfl fun a E=>nx<|pr 1 E rfl fun a E=>lb E H 0 rfl rfl rfl rfl rfl rfl rfl U2 rfl fun a E=>lb E H 1 rfl rfl rfl rfl rfl rfl rfl U2 rfl fun a E=>pr 2 E rfl fun a E=>cs hm (fun hb7 hm=>?_) fun hb7 hm=>?_
 ·refine pk 1 E (kc 9 rfl hb7) rfl fun a E=>aQ E (ws' (d:=9) E rfl rfl rfl rfl hb7) rfl rfl (cD (i:=0) E H rfl rfl rfl rfl U2 rfl) fun a E=>aQ E (ws' (d:=9) E rfl rfl rfl rfl hb7) rfl rfl (cD (i:=2) E H rfl rfl rfl rfl U2 rfl) fun a E=>pk 3 E (kc 9 rfl hb7) rfl fun a E=>nt<|wp_ret<|aY E rfl rfl<|have H:=H.drop 0;?_
  cases hm
  exact ⟨rfl,H.reads Y0⟩
 ·refine pk 6 E (kc 9 rfl hb7) rfl fun a E=>nt<|wp_ret<|aY E rfl rfl<|have H:=H.drop 0;?_
  cases hm
  exact ⟨rfl,H.reads Y0⟩

def eY (l2:List aN) (x4:Int) (x6:Int):Nat→Int→Option Int
  | 0,_=>none
  | k1+1,x8=>
    if (decide (x8 < (l2.length:Int)))=true then ((idx l2 x8).bind fun x11=>(a8 x11 x4 x6).bind fun u14=>if u14=true then (some (x8)) else (eY l2 x4 x6 k1 (IntKind.i64.wrap (x8+1)))) else (some ((-1)))
def iO (l2:List aN) (x4:Int) (x6:Int):Option Int:=
  eY l2 x4 x6 (((l2.length:Int) - 0:Int).toNat+1) 0
theorem uE {w:World} {Fo:List Ob} {rs:List Rp} {v1:Value} {l2:List aN} {p3 p5:Nat} {x4 x6:Int} (H:Sep w (Blk p3 2 [.int .i64 x4]::Blk p5 2 [.int .i64 x6]::Fo) rs) (hr7:rSl bG v1 l2 ∈ rs) {r:Int} (hm:iO l2 x4 x6=some r) :
    Calls Tryz.prog 120 [v1,.func (.func 128) #[] #[pt p3 0,pt p5 0]].toArray w (Ret fun v w'=>.int .i64 r=v∧Sep w' (Blk p3 2 [.int .i64 x4]::Blk p5 2 [.int .i64 x6]::Fo) (rs)):=by
 unfold iO at hm
 refine ent Tryz.func120 rfl Tryz.ntmps120 rfl rfl fun a E=>sq<|pr 1 E rfl fun a E=>nt<|wp_seq<|sq<|pr 1 E rfl fun a E=>sv E rfl rfl rfl (cR E H rfl rfl hr7 U62) fun a E=>pr 1 E rfl fun a E=>?_
 refine nt<|wp_block<|bX (fun k1 a w=>∃ x8 rs9,Env 19 a [(0,v1),(1,.func (.func 128) #[] #[pt p3 0,pt p5 0]),(7,.int .i64 (l2.length:Int)),(8,.int .i64 x8)]∧Sep w (Blk p3 2 [.int .i64 x4]::Blk p5 2 [.int .i64 x6]::Fo) rs9∧(∀ r,r ∈ rs→r ∈ rs9)∧eY l2 x4 x6 k1 x8=some r) (((l2.length:Int) - 0:Int).toNat+1) ?_ ?_
 ·exact ⟨_,_,E.to rfl,H,Y0,hm⟩
 ·clear E H hm
  rintro k1 a w ⟨x8,rs9,E,H,hs10,hm⟩
  cases k1 with
  | zero=>exact (bT hm rfl).elim
  | succ k1=>
   unfold eY at hm
   refine sq<|pr 1 E rfl fun a E=>nt<|wp_seq<|wif E hm rfl (fun hm=>?_) fun hm=>?_
   ·refine wp_skip<|aC<|wp_seq<|wp_block<|sq<|pr 2 E rfl fun a E=>nx<|pr 3 E rfl fun a E=>bd hm fun x11 hx12 hm=>?_
    refine dE E H (wn rfl) rfl rfl rfl rfl rfl (hs10 _ hr7) U62 gQ hx12 fun q13 a H E=>ldf eC E H rfl rfl rfl rfl rfl m0 j8 rfl gQ fun a E=>bd hm fun u14 hx15 hm=>aU E (wn rfl) rfl rfl (bP E rfl rfl rfl (Wz _)) (Bp H hx15)<|?_
    rintro _ w ⟨rfl,H⟩ a E
    refine nt<|wif E hm rfl (fun hm=>?_) fun hm=>?_
    ·refine sq<|pr 2 E rfl fun a E=>nt<|wp_ret<|bV<|aP<|aP<|bV<|aP<|?_
     refine aY E rfl rfl<|?_
     cases hm
     exact ⟨rfl,H.reads (Y1 hs10)⟩
    ·exact wp_skip<|bY<|aC<|wp_region_lit<|pr 2 E rfl fun a E=>nt<|⟨k1,Nat.lt_succ_self k1,_,_,E.to rfl,H,(Y1 hs10),hm⟩
   ·refine wp_exit<|bH<|bH<|dG<|aC<|sq<|pr 1 E rfl fun a E=>nt<|wp_ret<|?_
    refine aY E rfl rfl<|?_
    cases hm
    exact ⟨rfl,H.reads hs10⟩

def gV (l2:List aN) (x4:Int) (x6:Int):Option Bool:=
  (iO l2 x4 x6).bind fun u8=>some (decide (u8 ≥ 0))
theorem sE {w:World} {Fo:List Ob} {rs:List Rp} {v1:Value} {l2:List aN} {p3 p5:Nat} {x4 x6:Int} (H:Sep w (Blk p3 2 [.int .i64 x4]::Blk p5 2 [.int .i64 x6]::Fo) rs) (hr7:rSl bG v1 l2 ∈ rs) {r:Bool} (hm:gV l2 x4 x6=some r) :
    Calls Tryz.prog 127 [v1,.func (.func 128) #[] #[pt p3 0,pt p5 0]].toArray w (Ret fun v w'=>.bool r=v∧Sep w' (Blk p3 2 [.int .i64 x4]::Blk p5 2 [.int .i64 x6]::Fo) (rs)):=by
 unfold gV at hm
 refine ent Tryz.func127 rfl Tryz.ntmps127 rfl rfl fun a E=>sq<|pr 1 E rfl fun a E=>nx<|pr 2 E rfl fun a E=>bd hm fun u8 hx9 hm=>xk E rfl rfl rfl rfl rfl Ag (uE H hr7 hx9) fun w H a E=>pr 2 E rfl fun a E=>nt<|?_
 refine wp_ret<|aY E rfl rfl<|?_
 cases hm
 exact ⟨rfl,H.reads Y0⟩

def b9 (s1:ByteArray):Option Bool:=
  (fA s1).bind fun u2=>some (!u2)
theorem Bq {w:World} {Fo:List Ob} {rs:List Rp} {s1:ByteArray} (H:Sep w (Fo) rs) {r:Bool} (hm:b9 s1=some r) :
    Calls Tryz.prog 126 [.string s1].toArray w (Ret fun v w'=>.bool r=v∧Sep w' (Fo) (rs)):=by
 unfold b9 at hm
 refine ent Tryz.func126 rfl Tryz.ntmps126 rfl rfl fun a E=>sq<|pr 1 E rfl fun a E=>nx<|pr 1 E rfl fun a E=>bd hm fun u2 hx3 hm=>xk E rfl rfl rfl rfl rfl yU (gC H hx3) fun w H a E=>pr 2 E rfl fun a E=>nt<|?_
 refine wp_ret<|aY E rfl rfl<|?_
 cases hm
 exact ⟨rfl,H.reads Y0⟩

def fS (l2:List ByteArray):Nat→Int→Option Int
  | 0,_=>none
  | k1+1,x4=>
    if (decide (x4 < (l2.length:Int)))=true then ((idx l2 x4).bind fun x7=>(b9 x7).bind fun u10=>if u10=true then (some (x4)) else (fS l2 k1 (IntKind.i64.wrap (x4+1)))) else (some ((-1)))
def kC (l2:List ByteArray):Option Int:=
  fS l2 (((l2.length:Int) - 0:Int).toNat+1) 0
theorem wY {w:World} {Fo:List Ob} {rs:List Rp} {v1:Value} {l2:List ByteArray} (H:Sep w (Fo) rs) (hr3:rSl kS v1 l2 ∈ rs) {r:Int} (hm:kC l2=some r) :
    Calls Tryz.prog 119 [v1,.func (.func 126) #[] #[]].toArray w (Ret fun v w'=>.int .i64 r=v∧Sep w' (Fo) (rs)):=by
 unfold kC at hm
 refine ent Tryz.func119 rfl Tryz.ntmps119 rfl rfl fun a E=>sq<|pr 1 E rfl fun a E=>nt<|wp_seq<|sq<|pr 1 E rfl fun a E=>sv E rfl rfl rfl (cR E H rfl rfl hr3 U33) fun a E=>pr 1 E rfl fun a E=>?_
 refine nt<|wp_block<|bX (fun k1 a w=>∃ x4 rs5,Env 19 a [(0,v1),(1,.func (.func 126) #[] #[]),(7,.int .i64 (l2.length:Int)),(8,.int .i64 x4)]∧Sep w (Fo) rs5∧(∀ r,r ∈ rs→r ∈ rs5)∧fS l2 k1 x4=some r) (((l2.length:Int) - 0:Int).toNat+1) ?_ ?_
 ·exact ⟨_,_,E.to rfl,H,Y0,hm⟩
 ·clear E H hm
  rintro k1 a w ⟨x4,rs5,E,H,hs6,hm⟩
  cases k1 with
  | zero=>exact (bT hm rfl).elim
  | succ k1=>
   unfold fS at hm
   refine sq<|pr 1 E rfl fun a E=>nt<|wp_seq<|wif E hm rfl (fun hm=>?_) fun hm=>?_
   ·refine wp_skip<|aC<|wp_seq<|wp_block<|sq<|pr 2 E rfl fun a E=>nx<|pr 3 E rfl fun a E=>bd hm fun x7 hx8 hm=>?_
    refine dE E H (wn rfl) rfl rfl rfl rfl rfl (hs6 _ hr3) U33 sz9 hx8 fun q9 a H E=>sv E rfl rfl rfl (nT E H rfl rfl m0 U9 rfl) fun a E=>bd hm fun u10 hx11 hm=>aU E (wn rfl) rfl rfl (bP E rfl rfl rfl (Wy _)) (Bq H hx11)<|?_
    rintro _ w ⟨rfl,H⟩ a E
    refine nt<|wif E hm rfl (fun hm=>?_) fun hm=>?_
    ·refine sq<|pr 2 E rfl fun a E=>nt<|wp_ret<|bV<|aP<|aP<|bV<|aP<|?_
     refine aY E rfl rfl<|?_
     cases hm
     exact ⟨rfl,H.reads (Y1 hs6)⟩
    ·exact wp_skip<|bY<|aC<|wp_region_lit<|pr 2 E rfl fun a E=>nt<|⟨k1,Nat.lt_succ_self k1,_,_,E.to rfl,H,(Y1 hs6),hm⟩
   ·refine wp_exit<|bH<|bH<|dG<|aC<|sq<|pr 1 E rfl fun a E=>nt<|wp_ret<|?_
    refine aY E rfl rfl<|?_
    cases hm
    exact ⟨rfl,H.reads hs6⟩

def iW (l2:List ByteArray):Option Bool:=
  (kC l2).bind fun u4=>some (decide (u4 ≥ 0))
theorem uS {w:World} {Fo:List Ob} {rs:List Rp} {v1:Value} {l2:List ByteArray} (H:Sep w (Fo) rs) (hr3:rSl kS v1 l2 ∈ rs) {r:Bool} (hm:iW l2=some r) :
    Calls Tryz.prog 66 [v1,.func (.func 126) #[] #[]].toArray w (Ret fun v w'=>.bool r=v∧Sep w' (Fo) (rs)):=by
 unfold iW at hm
 refine ent Tryz.func66 rfl Tryz.ntmps66 rfl rfl fun a E=>sq<|pr 1 E rfl fun a E=>nx<|pr 2 E rfl fun a E=>bd hm fun u4 hx5 hm=>xk E rfl rfl rfl rfl rfl Hl (wY H hr3 hx5) fun w H a E=>pr 2 E rfl fun a E=>nt<|?_
 refine wp_ret<|aY E rfl rfl<|?_
 cases hm
 exact ⟨rfl,H.reads Y0⟩

def iD (l2:List ByteArray) (s3:ByteArray):Nat→Int→Option Int
  | 0,_=>none
  | k1+1,x5=>
    if (decide (x5 < (l2.length:Int)))=true then ((idx l2 x5).bind fun x8=>if (sEq s3 x8)=true then (some (x5)) else (iD l2 s3 k1 (IntKind.i64.wrap (x5+1)))) else (some ((-1)))
def nD (l2:List ByteArray) (s3:ByteArray):Option Int:=
  iD l2 s3 (((l2.length:Int) - 0:Int).toNat+1) 0
theorem c8 {w:World} {Fo:List Ob} {rs:List Rp} {v1:Value} {l2:List ByteArray} {s3:ByteArray} (H:Sep w (Fo) rs) (hr4:rSl kS v1 l2 ∈ rs) {r:Int} (hm:nD l2 s3=some r) :
    Calls Tryz.prog 186 [v1,.string s3].toArray w (Ret fun v w'=>.int .i64 r=v∧Sep w' (Fo) (rs)):=by
 unfold nD at hm
 refine ent Tryz.func186 rfl Tryz.ntmps186 rfl rfl fun a E=>sq<|pr 1 E rfl fun a E=>nt<|wp_seq<|sq<|pr 1 E rfl fun a E=>sv E rfl rfl rfl (cR E H rfl rfl hr4 U33) fun a E=>pr 1 E rfl fun a E=>?_
 refine nt<|wp_block<|bX (fun k1 a w=>∃ x5 rs6,Env 19 a [(0,v1),(1,.string s3),(7,.int .i64 (l2.length:Int)),(8,.int .i64 x5)]∧Sep w (Fo) rs6∧(∀ r,r ∈ rs→r ∈ rs6)∧iD l2 s3 k1 x5=some r) (((l2.length:Int) - 0:Int).toNat+1) ?_ ?_
 ·exact ⟨_,_,E.to rfl,H,Y0,hm⟩
 ·clear E H hm
  rintro k1 a w ⟨x5,rs6,E,H,hs7,hm⟩
  cases k1 with
  | zero=>exact (bT hm rfl).elim
  | succ k1=>
   unfold iD at hm
   refine sq<|pr 1 E rfl fun a E=>nt<|wp_seq<|wif E hm rfl (fun hm=>?_) fun hm=>?_
   ·refine wp_skip<|aC<|wp_seq<|wp_block<|sq<|pr 2 E rfl fun a E=>nx<|pr 3 E rfl fun a E=>bd hm fun x8 hx9 hm=>?_
    refine dE E H (wn rfl) rfl rfl rfl rfl rfl (hs7 _ hr4) U33 sz9 hx9 fun q10 a H E=>sv E rfl rfl rfl (nT E H rfl rfl m0 U9 rfl) fun a E=>pr 1 E rfl fun a E=>nt<|wif E hm rfl (fun hm=>?_) fun hm=>?_
    ·refine sq<|pr 2 E rfl fun a E=>nt<|wp_ret<|bV<|aP<|aP<|bV<|aP<|?_
     refine aY E rfl rfl<|?_
     cases hm
     exact ⟨rfl,H.reads (Y1 hs7)⟩
    ·exact wp_skip<|bY<|aC<|wp_region_lit<|pr 2 E rfl fun a E=>nt<|⟨k1,Nat.lt_succ_self k1,_,_,E.to rfl,H,(Y1 hs7),hm⟩
   ·refine wp_exit<|bH<|bH<|dG<|aC<|sq<|pr 1 E rfl fun a E=>nt<|wp_ret<|?_
    refine aY E rfl rfl<|?_
    cases hm
    exact ⟨rfl,H.reads hs7⟩

def lP (l2:List ByteArray) (s3:ByteArray):Option Bool:=
  (nD l2 s3).bind fun u5=>some (decide (u5 ≥ 0))
theorem yK {w:World} {Fo:List Ob} {rs:List Rp} {v1:Value} {l2:List ByteArray} {s3:ByteArray} (H:Sep w (Fo) rs) (hr4:rSl kS v1 l2 ∈ rs) {r:Bool} (hm:lP l2 s3=some r) :
    Calls Tryz.prog 131 [v1,.string s3].toArray w (Ret fun v w'=>.bool r=v∧Sep w' (Fo) (rs)):=by
 unfold lP at hm
 refine ent Tryz.func131 rfl Tryz.ntmps131 rfl rfl fun a E=>sq<|pr 1 E rfl fun a E=>nx<|pr 2 E rfl fun a E=>bd hm fun u5 hx6 hm=>xk E rfl rfl rfl rfl rfl Xc (c8 H hr4 hx6) fun w H a E=>pr 2 E rfl fun a E=>nt<|?_
 refine wp_ret<|aY E rfl rfl<|?_
 cases hm
 exact ⟨rfl,H.reads Y0⟩

def qZ (rec_1:Bool→Int→(List ((Int)×Int))→Option ((List aN)×(List Int)×Bool)) (x20:Int) (b24:Bool) (x25:(List ((Int)×Int))):Option ((List aN)×(List Int)×Bool):=
  rec_1 b24 (IntKind.i64.wrap (x20+1)) x25
def uN (rec_1:Bool→Int→(List ((Int)×Int))→Option ((List aN)×(List Int)×Bool)) (x20:Int) (x28:aN) (x4:Int) (x3:Int) (x21:(List ((Int)×Int))) (b19:Bool) (b32:Bool):Option ((List aN)×(List Int)×Bool):=
  if b32=true then ((ck (Ie x28.Age x28.Txn x4 x3)).bind fun u35=>if (Am x28.Age x28.Txn x4 x3)=true then ((mlk (kyI .i64) x21 x28.Txn).bind fun u38=>(mpt (kyI .i64) x21 x28.Txn (IntKind.i64.wrap ((u38.getD 0)+1))).bind fun l40=>qZ rec_1 x20 false l40) else (qZ rec_1 x20 false x21)) else (qZ rec_1 x20 b19 x21)
def uO (rec_2:(List aN)→Int→Option ((List aN)×(List Int)×Bool)) (x55:Int) (l59:(List aN)):Option ((List aN)×(List Int)×Bool):=
  rec_2 l59 (IntKind.i64.wrap (x55+1))
def oI (l6:List ByteArray) (x3:Int) (x4:Int):Nat→(List aN)→Int→Option ((List aN)×(List Int)×Bool)
  | 0,_,_=>none
  | k2+1,l54,x55=>
    if (decide (x55 < (l6.length:Int)))=true then ((idx l6 x55).bind fun x62=>(fK l54 x62).bind fun u65=>if (!u65.2)=true then ((ck (0 ≤ u65.1∧u65.1 ≤ l54.length∧l54.length ≤ 1000000)).bind fun u68=>uO (oI l6 x3 x4 k2) x55 (l54.take u65.1.toNat ++ (⟨x62,x3,x4⟩:aN)::l54.drop u65.1.toNat)) else (uO (oI l6 x3 x4 k2) x55 l54)) else (some (l54,[],true))
def lY (x4:Int) (x3:Int) (l6:List ByteArray) (l2:List aN):Nat→Bool→Int→(List ((Int)×Int))→Option ((List aN)×(List Int)×Bool)
  | 0,_,_,_=>none
  | k1+1,b19,x20,x21=>
    if (decide (x20 < (l2.length:Int)))=true then ((idx l2 x20).bind fun x28=>if (x28.Txn != x3)=true then ((lP l6 x28.Dir).bind fun u42=>uN (lY x4 x3 l6 l2 k1) x20 x28 x4 x3 x21 b19 u42) else (uN (lY x4 x3 l6 l2 k1) x20 x28 x4 x3 x21 b19 false)) else (if (!b19)=true then ((jS x21).bind fun u44=>(ck (x21.length ≤ 1000000)).bind fun u47=>some (l2,Dl (x21.map (·.1)),false)) else ((ck (l2.length ≤ LIM)).bind fun u51=>oI l6 x3 x4 (((l6.length:Int) - 0:Int).toNat+1) l2 0))
def lZ (x4:Int) (x3:Int) (l6:List ByteArray) (l2:List aN) (b15:Bool):Option ((List aN)×(List Int)×Bool):=
  if b15=true then (some (([]:List aN),[],false)) else (lY x4 x3 l6 l2 (((l2.length:Int) - 0:Int).toNat+1) true 0 [])
def r9 (l2:List aN) (x3:Int) (x4:Int) (l6:List ByteArray):Option ((List aN)×(List Int)×Bool):=
  (iW l6).bind fun u11=>(gV l2 x3 x4).bind fun u13=>(l0 l2).bind fun u71=>if (!u71)=true then (lZ x4 x3 l6 l2 true) else ((pE x3).bind fun u74=>if (!u74)=true then (lZ x4 x3 l6 l2 true) else ((pE x4).bind fun u77=>if (!u77)=true then (lZ x4 x3 l6 l2 true) else (if u11=true then (lZ x4 x3 l6 l2 true) else (lZ x4 x3 l6 l2 u13))))
theorem Fd {w:World} {Fo:List Ob} {rs:List Rp} {v1 v5:Value} {l2:List aN} {x3 x4:Int} {l6:List ByteArray} (H:Sep w (Fo) rs) (hr7:rSl bG v1 l2 ∈ rs) (hr8:rSl kS v5 l6 ∈ rs) {r:(List aN)×(List Int)×Bool} (hm:r9 l2 x3 x4 l6=some r) :
    Calls Tryz.prog 71 [v1,.int .i64 x3,.int .i64 x4,v5].toArray w (Ret fun v w'=>∃ y1 y3,.tuple #[y1,y3,.bool r.2.2]=v∧Sep w' (Row 2 (kI .i64) y3 r.2.1::Fo) (rSl bG y1 r.1::rs)):=by
 unfold r9 at hm
 refine ent Tryz.func71 rfl Tryz.ntmps71 rfl rfl fun a E=>sq<|bS E H (wn rfl) rfl rfl rfl rfl rfl fun p9 w a H E=>bS E H (wn rfl) rfl rfl rfl rfl rfl fun p10 w a H E=>pr 3 E rfl fun a E=>nx<|pr 1 E rfl fun a E=>bd hm fun u11 hx12 hm=>xk E rfl rfl rfl rfl rfl Kq (uS H hr8 hx12) fun w H a E=>?_
 refine pr 1 E rfl fun a E=>nx<|pr 1 E rfl fun a E=>sv E rfl rfl rfl (iP E rfl rfl rfl) fun a E=>have H:=H.frs [0,1] rfl;bd hm fun u13 hx14 hm=>xk E rfl rfl rfl rfl rfl Hy (sE H hr7 hx14) fun w H a E=>pr 1 E rfl fun a E=>nt<|?_
 refine wp_seq<|aT (fun a w=>∃ b15 rs16,Env 108 a [(0,v1),(3,v5),(5,pt p9 0),(6,pt p10 0),(45,.bool b15)]∧Sep w (Blk p9 2 [.int .i64 x3]::Blk p10 2 [.int .i64 x4]::Fo) rs16∧(∀ r,r ∈ rs→r ∈ rs16)∧lZ x4 x3 l6 l2 b15=some r) ?_ ?_
 ·refine wp_region_lit<|pr 1 E rfl fun a E=>bd hm fun u71 hx72 hm=>xk E rfl rfl rfl rfl rfl Xa (Cr H hr7 hx72) fun w H a E=>pr 2 E rfl fun a E=>cs hm (fun hb73 hm=>?_) fun hb73 hm=>?_
  ·exact pk 15 E (kc 30 rfl hb73) rfl fun a E=>nt<|⟨_,_,E.to rfl,H,Y0,hm⟩
  ·refine aQ E (ws' (d:=30) E rfl rfl rfl rfl hb73) rfl rfl (cD (i:=0) E H rfl rfl rfl rfl U2 rfl) fun a E=>bd hm fun u74 hx75 hm=>aU E (ws' (d:=30) E rfl rfl rfl rfl hb73) rfl rfl (cC E rfl rfl (Dh _)) (wL H hx75)<|?_
   rintro _ w ⟨rfl,H⟩ a E
   refine pk 3 E (kc 30 rfl hb73) rfl fun a E=>cs hm (fun hb76 hm=>?_) fun hb76 hm=>?_
   ·exact pk 10 E (kc 35 rfl hb76) rfl fun a E=>nt<|⟨_,_,E.to rfl,H,Y0,hm⟩
   ·refine aQ E (ws' (d:=35) E rfl rfl rfl rfl hb76) rfl rfl (cD (i:=1) E H rfl rfl rfl rfl U2 rfl) fun a E=>bd hm fun u77 hx78 hm=>aU E (ws' (d:=35) E rfl rfl rfl rfl hb76) rfl rfl (cC E rfl rfl (Dh _)) (wL H hx78)<|?_
    rintro _ w ⟨rfl,H⟩ a E
    refine pk 3 E (kc 35 rfl hb76) rfl fun a E=>cs hm (fun hb79 hm=>?_) fun hb79 hm=>?_
    ·exact pk 5 E (kc 40 rfl hb79) rfl fun a E=>nt<|⟨_,_,E.to rfl,H,Y0,hm⟩
    ·refine pk 3 E (kc 40 rfl hb79) rfl fun a E=>cs hm (fun hb80 hm=>?_) fun hb80 hm=>?_
     ·exact pk 2 E (kc 43 rfl hb80) rfl fun a E=>nt<|⟨_,_,E.to rfl,H,Y0,hm⟩
     ·exact pk 2 E (kc 43 rfl hb80) rfl fun a E=>nt<|⟨_,_,E.to rfl,H,Y0,hm⟩
 ·clear E H hm
  rintro a w ⟨b15,rs16,E,H,hs17,hm⟩
  unfold lZ at hm
  refine wif E hm rfl (fun hm=>?_) fun hm=>?_
  ·refine sq<|pr 3 E rfl fun a E=>nt<|wp_ret<|aP<|Dp E rfl rfl rfl rfl<|have H:=H.nilSl bG;have H:=H.nilRow 2 (kI .i64);have H:=H.drs [1,1];?_
   cases hm
   exact ⟨_,_,rfl,H.reads (aA m0 (fun r hr=>(t1 (hs17 r hr))))⟩
  ·refine wp_skip<|aC<|sq<|tK (k:=2) (K:=(kyI .i64)) (d:=(kI .i64)) (g:=false) E H (wn rfl) rfl rfl rfl fun p18 w a H E=>pr 1 E rfl fun a E=>nx<|pr 1 E rfl fun a E=>nt<|wp_seq<|?_
   refine sq<|pr 1 E rfl fun a E=>sv E rfl rfl rfl (cR E H rfl rfl (hs17 _ hr7) U62) fun a E=>pr 1 E rfl fun a E=>nt<|wp_block<|bX (fun k1 a w=>∃ b19 x20 x21 rs22,Env 108 a [(0,v1),(3,v5),(5,pt p9 0),(6,pt p10 0),(13,.map (some p18)),(14,.bool b19),(47,v1),(48,.int .i64 (l2.length:Int)),(49,.int .i64 x20)]∧Sep w (Blk p9 2 [.int .i64 x3]::Blk p10 2 [.int .i64 x4]::cB Tryz.prog 2 (kyI .i64) (kI .i64) false p18 x21::Fo) rs22∧(∀ r,r ∈ rs→r ∈ rs22)∧lY x4 x3 l6 l2 k1 b19 x20 x21=some r) (((l2.length:Int) - 0:Int).toNat+1) ?_ ?_
   ·exact have H:=H.frs [0,2,2] rfl;X4 ⟨E.to rfl,H,hs17,hm⟩
   ·clear E H hm
    rintro k1 a w ⟨b19,x20,x21,rs22,E,H,hs23,hm⟩
    cases k1 with
    | zero=>exact (bT hm rfl).elim
    | succ k1=>
     unfold lY at hm
     refine sq<|pr 1 E rfl fun a E=>nt<|wp_seq<|wif E hm rfl (fun hm=>?_) fun hm=>?_
     ·refine wp_skip<|aC<|aT (fun a w=>∃ b24 x25 rs26,Env 108 a [(0,v1),(3,v5),(5,pt p9 0),(6,pt p10 0),(13,.map (some p18)),(14,.bool b24),(47,v1),(48,.int .i64 (l2.length:Int)),(49,.int .i64 x20)]∧Sep w (Blk p9 2 [.int .i64 x3]::Blk p10 2 [.int .i64 x4]::cB Tryz.prog 2 (kyI .i64) (kI .i64) false p18 x25::Fo) rs26∧(∀ r,r ∈ rs→r ∈ rs26)∧qZ (lY x4 x3 l6 l2 k1) x20 b24 x25=some r) ?_ ?_
      ·refine wp_block<|sq<|bd hm fun x28 hx29 hm=>dE E H (wn rfl) rfl rfl rfl rfl rfl (hs23 _ hr7) U62 gQ hx29 fun q30 a H E=>ldf eC E H rfl rfl rfl rfl rfl m0 j8 rfl gQ fun a E=>al E H rfl rfl rfl rfl Hz fun p31 w a H E=>aZ (i:=0) E H (wn rfl) rfl rfl rfl rfl rfl rfl gQ rfl rfl fun w H=>nt<|aT (fun a w=>∃ b32 rs33,Env 108 a [(0,v1),(3,v5),(5,pt p9 0),(6,pt p10 0),(13,.map (some p18)),(14,.bool b19),(16,pt p31 0),(47,v1),(48,.int .i64 (l2.length:Int)),(49,.int .i64 x20),(62,.bool b32)]∧Sep w (Blk p9 2 [.int .i64 x3]::Blk p10 2 [.int .i64 x4]::cB Tryz.prog 2 (kyI .i64) (kI .i64) false p18 x21::Blk p31 103 (nG x28)::Fo) rs33∧(∀ r,r ∈ rs→r ∈ rs33)∧uN (lY x4 x3 l6 l2 k1) x20 x28 x4 x3 x21 b19 b32=some r) ?_ ?_
       ·refine wp_region_lit<|pr 1 E rfl fun a E=>lb E H 0 rfl rfl rfl rfl rfl rfl rfl U2 rfl fun a E=>lb E H 1 rfl rfl rfl rfl rfl rfl rfl U2 rfl fun a E=>pr 2 E rfl fun a E=>cs hm (fun hb41 hm=>?_) fun hb41 hm=>?_
        ·refine pk 2 E (kc 57 rfl hb41) rfl fun a E=>aQ E (ws' (d:=57) E rfl rfl rfl rfl hb41) rfl rfl (cD (i:=0) E H rfl rfl rfl rfl U9 rfl) fun a E=>bd hm fun u42 hx43 hm=>aU E (ws' (d:=57) E rfl rfl rfl rfl hb41) rfl rfl (cC E rfl rfl (Xb _)) (yK H (t1 (hs23 _ hr8)) hx43)<|?_
         rintro _ w ⟨rfl,H⟩ a E
         exact pk 1 E (kc 57 rfl hb41) rfl fun a E=>nt<|have H:=H.frs [0,3,3,3] rfl;⟨_,_,E.to rfl,H,(Y1 hs23),hm⟩
        ·exact pk 5 E (kc 57 rfl hb41) rfl fun a E=>nt<|have H:=H.frs [0,3,3,3] rfl;⟨_,_,E.to rfl,H,(Y1 hs23),hm⟩
       ·clear E H hm
        rintro a w ⟨b32,rs33,E,H,hs34,hm⟩
        unfold uN at hm
        refine wif E hm rfl (fun hm=>?_) fun hm=>?_
        ·refine sq<|pr 1 E rfl fun a E=>nx<|pr 1 E rfl fun a E=>lb E H 3 rfl rfl rfl rfl rfl rfl rfl U2 rfl fun a E=>pr 1 E rfl fun a E=>lb E H 3 rfl rfl rfl rfl rfl rfl rfl U2 rfl fun a E=>lb E H 1 rfl rfl rfl rfl rfl rfl rfl U2 rfl fun a E=>lb E H 0 rfl rfl rfl rfl rfl rfl rfl U2 rfl fun a E=>?_
         refine bk hm fun hx36 hm=>cG E rfl rfl rfl rfl rfl Xd (Oh H hx36)<|?_
         rintro _ w ⟨rfl,H⟩ a E
         refine nt<|wif E hm rfl (fun hm=>?_) fun hm=>?_
         ·refine wp_region_lit<|pr 2 E rfl fun a E=>lb E H 3 rfl rfl rfl rfl rfl rfl rfl U2 rfl fun a E=>bd hm fun u38 hx37 hm=>sv E rfl rfl rfl (Ef (i:=2) (K:=(kyI .i64)) (z0:=0) (u:=u38) E H rfl rfl rfl rfl (dX U2) Rx Eo hx37) fun a E=>pr 1 E rfl fun a E=>bd hm fun l40 hx39 hm=>Gb (i:=2) (K:=(kyI .i64)) (v:=IntKind.i64.wrap ((u38.getD 0)+1)) E H (wn rfl) rfl rfl rfl rfl rfl rfl (dX U2) Rx hx39 fun w H=>wpList_nil<|?_
          exact bY<|aC<|have H:=H.drop 3;X3 ⟨E.to rfl,H,hs34,hm⟩
         ·exact wp_skip<|bY<|aC<|have H:=H.drop 3;X3 ⟨E.to rfl,H,hs34,hm⟩
        ·exact wp_skip<|bY<|aC<|have H:=H.drop 3;X3 ⟨E.to rfl,H,hs34,hm⟩
      ·clear E H hm
       rintro a w ⟨b24,x25,rs26,E,H,hs27,hm⟩
       unfold qZ at hm
       exact wp_region_lit<|pr 2 E rfl fun a E=>nt<|⟨k1,Nat.lt_succ_self k1,X4 ⟨E.to rfl,H,hs27,hm⟩⟩
     ·refine wp_exit<|bH<|bH<|dG<|aC<|wp_seq<|sq<|pr 2 E rfl fun a E=>nt<|wif E hm rfl (fun hm=>?_) fun hm=>?_
      ·refine sq<|pr 2 E rfl fun a E=>have H:=H.frs [1,1,2] rfl;bd hm fun u44 hx45 hm=>cG E rfl rfl rfl rfl rfl Xe (wM H hx45)<|?_
       rintro _ w ⟨p46,rfl,H⟩ a E
       refine bk hm fun hx48 hm=>aU E (wn rfl) rfl rfl (cC E rfl rfl (Xf _)) (Lf (ip:=0) (im:=1) H rfl rfl hx48) fun v49 w H a E=>pr 3 E rfl fun a E=>nt<|wp_ret<|aP<|Dp E rfl rfl rfl rfl<|have H:=H.drs [1,1,1,1];?_
       cases hm
       exact ⟨_,_,rfl,H.reads (aA (hs23 _ hr7) (hs23))⟩
      ·refine wp_skip<|aC<|sq<|pr 1 E rfl fun a E=>bk hm fun hx52 hm=>aU E (wn rfl) rfl rfl (cC E rfl rfl (Kv _)) (iS H (hs23 _ hr7) hx52) fun v50 w H a E=>pr 1 E rfl fun a E=>nt<|wp_seq<|?_
       refine sq<|pr 1 E rfl fun a E=>sv E rfl rfl rfl (cR E H rfl rfl (hs23 _ hr8) U33) fun a E=>pr 1 E rfl fun a E=>nt<|wp_block<|bX (fun k2 a w=>∃ v53 l54 x55 rs56,Env 108 a [(5,pt p9 0),(6,pt p10 0),(17,v53),(84,v5),(85,.int .i64 (l6.length:Int)),(86,.int .i64 x55)]∧Sep w (Blk p9 2 [.int .i64 x3]::Blk p10 2 [.int .i64 x4]::Row 103 bG v53 l54::Fo) rs56∧(∀ r,r ∈ rs→r ∈ rs56)∧oI l6 x3 x4 k2 l54 x55=some r) (((l6.length:Int) - 0:Int).toNat+1) ?_ ?_
       ·exact have H:=H.drop 3;have H:=H.frs [0,2,2] rfl;X4 ⟨E.to rfl,H,hs23,hm⟩
       ·clear E H hm
        rintro k2 a w ⟨v53,l54,x55,rs56,E,H,hs57,hm⟩
        cases k2 with
        | zero=>exact (bT hm rfl).elim
        | succ k2=>
         unfold oI at hm
         refine sq<|pr 1 E rfl fun a E=>nt<|wp_seq<|wif E hm rfl (fun hm=>?_) fun hm=>?_
         ·refine wp_skip<|aC<|aT (fun a w=>∃ v58 l59 rs60,Env 108 a [(5,pt p9 0),(6,pt p10 0),(17,v58),(84,v5),(85,.int .i64 (l6.length:Int)),(86,.int .i64 x55)]∧Sep w (Blk p9 2 [.int .i64 x3]::Blk p10 2 [.int .i64 x4]::Row 103 bG v58 l59::Fo) rs60∧(∀ r,r ∈ rs→r ∈ rs60)∧uO (oI l6 x3 x4 k2) x55 l59=some r) ?_ ?_
          ·refine wp_block<|sq<|bd hm fun x62 hx63 hm=>dE E H (wn rfl) rfl rfl rfl rfl rfl (hs57 _ hr8) U33 sz9 hx63 fun q64 a H E=>sv E rfl rfl rfl (nT E H rfl rfl m0 U9 rfl) fun a E=>pr 1 E rfl fun a E=>nx<|pr 2 E rfl fun a E=>have H:=H.frs [1,1,2] rfl;?_
           refine bd hm fun u65 hx66 hm=>xk E rfl rfl rfl rfl rfl Xg (pC H hx66) fun w H a E=>pr 5 E rfl fun a E=>nx<|pr 2 E rfl fun a E=>nt<|wif E hm rfl (fun hm=>?_) fun hm=>?_
           ·refine wp_region_lit<|pr 3 E rfl fun a E=>lb E H 1 rfl rfl rfl rfl rfl rfl rfl U2 rfl fun a E=>lb E H 2 rfl rfl rfl rfl rfl rfl rfl U2 rfl fun a E=>sv E rfl rfl rfl (cI E rfl (E.evs rfl) (v:=.agg #[.string x62,.int .i64 x3,.int .i64 x4]) (by kernel_rfl)) fun a E=>fY (e:=103) (d:=bG) (cs:=[.string x62,.int .i64 x3,.int .i64 x4]) (xs:=[(⟨x62,x3,x4⟩:aN)]) E H (wn rfl) rfl rfl rfl (E.evs rfl) (by kernel_rfl) rfl rfl (fun ok hr=>(Rows.single (d:=bG) (cs:=[.string x62,.int .i64 x3,.int .i64 x4]) (x:=(⟨x62,x3,x4⟩:aN)) I7)) fun v67 w a H E=>bk hm fun hx69 hm=>aU E (wn rfl) rfl rfl (cC E rfl rfl (Xh _)) (Ho.insert_a (ix:=1) (iu:=0) H rfl rfl (by decide) hx69) fun v70 w H a E=>pr 1 E rfl fun a E=>?_
            exact wpList_nil<|bY<|aC<|have H:=H.drop 0;have H:=H.frs [0,2,2] rfl;X3 ⟨E.to rfl,H,(Y1 hs57),hm⟩
           ·exact wp_skip<|bY<|aC<|have H:=H.frs [0,2,2] rfl;X3 ⟨E.to rfl,H,(Y1 hs57),hm⟩
          ·clear E H hm
           rintro a w ⟨v58,l59,rs60,E,H,hs61,hm⟩
           unfold uO at hm
           exact wp_region_lit<|pr 2 E rfl fun a E=>nt<|⟨k2,Nat.lt_succ_self k2,X4 ⟨E.to rfl,H,hs61,hm⟩⟩
         ·refine wp_exit<|bH<|bH<|dG<|aC<|sq<|pr 4 E rfl fun a E=>nt<|wp_ret<|?_
          refine Dp E rfl rfl rfl rfl<|have H:=H.thaw (i:=2) rfl;have H:=H.nilRow 2 (kI .i64);have H:=H.drs [1,1];?_
          cases hm
          exact ⟨_,_,rfl,H.reads (aA m0 (fun r hr=>(t1 (hs57 r hr))))⟩

def pR (l17:List ((Int)×bO)) (x20:bA) (u95:(List aN)×(List Int)×Bool) (x101:Int) (l103:(List cL)) (x104:Int):Option (aG×(List aN)×(List ((Int)×bO))):=
  (mpt (kyI .i64) l17 x20.Txn (⟨false,x20.Pieces,(⟨x101,x104,x101 == 0,0,l103,(⟨[],[]⟩:bB),[],[],[]⟩:aG)⟩:bO)).bind fun l116=>some ((⟨x101,x104,x101 == 0,0,l103,(⟨[],[]⟩:bB),[],[],[]⟩:aG),u95.1,l116)
def mA (l17:List ((Int)×bO)) (x20:bA) (l9:List aN) (u78:(List ByteArray)) (l3:List aE) (l5:List aI) (x83:Int):Option (aG×(List aN)×(List ((Int)×bO))):=
  if (x83 != 0)=true then ((dM x83).bind fun u87=>some (u87,l9,l17)) else ((r9 l9 x20.Txn x20.Age u78).bind fun u95=>if (!u95.2.2)=true then (some ((⟨131,0,false,0,[],(⟨[],[]⟩:bB),[],[],u95.2.1⟩:aG),l9,l17)) else ((g9 (⟨l3,l5⟩:bB) x20.Pieces).bind fun u117=>pR l17 x20 u95 u117.2.2.1 u117.2.1 u117.2.2.2))
def mB (l17:List ((Int)×bO)) (x20:bA) (l9:List aN) (u78:(List ByteArray)) (l3:List aE) (l5:List aI) (u81:Int) (b141:Bool):Option (aG×(List aN)×(List ((Int)×bO))):=
  if b141=true then (mA l17 x20 l9 u78 l3 l5 2) else (mA l17 x20 l9 u78 l3 l5 u81)
def pS (l17:List ((Int)×bO)) (x20:bA) (l9:List aN) (l3:List aE) (l5:List aI) (l7:List aH) (b41:Bool) (b42:Bool) (l44:(List cF)) (x45:Int) (x46:Int) (b47:Bool) (x48:Int) (l50:(List cL)) (l52:(List aE)) (l54:(List aI)) (l56:(List bK)) (l58:(List lQ)) (l60:(List Int)):Option (aG×(List aN)×(List ((Int)×bO))):=
  if b41=true then (if b42=true then ((dM 133).bind fun u70=>some (u70,l9,l17)) else (some ((⟨x45,x46,b47,x48,l50,(⟨l52,l54⟩:bB),l56,l58,l60⟩:aG),l9,l17))) else ((zH x20.Pieces).bind fun u78=>(pZ l7 u78).bind fun u81=>if (u81 == 0)=true then (mB l17 x20 l9 u78 l3 l5 u81 ((l17.length:Int) == 128)) else (mB l17 x20 l9 u78 l3 l5 u81 false))
def sA (l3:List aE) (l5:List aI) (l7:List aH) (l9:List aN) (l17:List ((Int)×bO)) (x20:bA):Option (aG×(List aN)×(List ((Int)×bO))):=
  (o8 (kyI .i64) l17 x20.Txn A8).bind fun x148=>pS l17 x20 l9 l3 l5 l7 x148.2 x148.1.over_ x148.1.pieces_ x148.1.a_.Err x148.1.a_.At x148.1.a_.Yes x148.1.a_.Epoch x148.1.a_.Results x148.1.a_.Store.Nodes x148.1.a_.Store.Turns x148.1.a_.Events x148.1.a_.Mounts x148.1.a_.Wounded
theorem F6 {w:World} {Fo:List Ob} {rs:List Rp} {p1 p16:Nat} {v2 v4 v6 v8 v21 v22 v23 v24 v25 v26 v27 v28:Value} {l3:List aE} {l5:List aI} {l7:List aH} {l9:List aN} {l17:List ((Int)×bO)} {x20:bA} (H:Sep w (Blk p1 75 [v2,v4,v6,v8,v25,v26,v27,.map (some p16),v28]::cB Tryz.prog 2 (kyI .i64) cQ true p16 l17::Fo) rs) (hr29:rSl aF v2 l3 ∈ rs) (hr30:rSl aJ v4 l5 ∈ rs) (hr31:rSl aS v6 l7 ∈ rs) (hr32:rSl bG v8 l9 ∈ rs) (hr33:rSl cE v21 x20.Pieces ∈ rs) (hr37:xU Tryz.prog ∈ rs) {r:aG×(List aN)×(List ((Int)×bO))} (hm:sA l3 l5 l7 l9 l17 x20=some r) :
    Calls Tryz.prog 26 [pt p1 0,.agg (aR x20 v21 v22 v23 v24).toArray].toArray w (Ret fun v w'=>∃ y2 y3 y4 y5 y6 y7 y8,.agg (bC r.1 y2 y3 y4 y5 y6 y7).toArray=v∧Sep w' (Blk p1 75 [v2,v4,v6,y8,v25,v26,v27,.map (some p16),v28]::cB Tryz.prog 2 (kyI .i64) cQ true p16 r.2.2::Fo) (rSl bE y2 r.1.Results::rSl aF y3 r.1.Store.Nodes::rSl aJ y4 r.1.Store.Turns::rSl aV y5 r.1.Events::rSl bL y6 r.1.Mounts::rSl (kI .i64) y7 r.1.Wounded::rSl bG y8 r.2.1::rs)):=by
 unfold sA at hm
 refine ent Tryz.func26 rfl Tryz.ntmps26 rfl rfl fun a E=>sq<|bS E H (wn rfl) rfl rfl rfl rfl rfl fun p38 w a H E=>al E H rfl rfl rfl rfl gN fun p39 w a H E=>nt<|wp_seq<|aT (fun a w=>∃ p40 v43 v49 v51 v53 v55 v57 v59 b41 b42 l44 x45 x46 b47 x48 l50 l52 l54 l56 l58 l60 rs61,Env 103 a [(0,pt p1 0),(3,pt p38 0),(4,pt p39 0),(5,pt p40 0),(6,.bool b41)]∧Sep w (Blk p1 75 [v2,v4,v6,v8,v25,v26,v27,.map (some p16),v28]::Blk p38 37 (aR x20 v21 v22 v23 v24)::Blk p39 48 bN::Blk p40 128 [.bool b42,v43,.int .i64 x45,.int .i64 x46,.bool b47,.int .i64 x48,v49,v51,v53,v55,v57,v59]::cB Tryz.prog 2 (kyI .i64) cQ true p16 l17::Fo) rs61∧(∀ r,r ∈ rs→r ∈ rs61)∧rSl bE v49 l50 ∈ rs61∧rSl aF v51 l52 ∈ rs61∧rSl aJ v53 l54 ∈ rs61∧rSl aV v55 l56 ∈ rs61∧rSl bL v57 l58 ∈ rs61∧rSl (kI .i64) v59 l60 ∈ rs61∧pS l17 x20 l9 l3 l5 l7 b41 b42 l44 x45 x46 b47 x48 l50 l52 l54 l56 l58 l60=some r) ?_ ?_
 ·refine bd hm fun x148 hx146 hm=>?_
  have hI:dP [Blk p38 37 (aR x20 v21 v22 v23 v24),Blk p1 75 [v2,v4,v6,v8,v25,v26,v27,.map (some p16),v28]] [] { w with drawn:=w.drawn+1 }:=⟨_,_,H.kept (Kp.drawn _ w _),(aB mm1 (aB mm2 (aL))),(aM)⟩
  refine jY _ (.go 0 0 (.go 1 0 (.go 2 0 (.go 3 0 (.go 4 0 (.go 5 0 (.alt 6 (.go 7 0 (.go 8 0 (.go 9 0 (.go 10 1 (.go 11 1 (.go 12 2 .nil)))))) 10 (.go 6 1 (.go 7 0 (.go 8 0 (.go 9 0 (.go 11 1 (.go 12 2 .nil))))))))))))) [12] kG (by kernel_rfl) (fun _ _ _ h=>False.elim h.2) hI<|have H:=H.kept (Kp.drawn _ w (w.drawn+1));?_
  generalize ({ w with drawn:=w.drawn+1 }:World)=w at H hI ⊢
  replace hI:∃ W,dP [Blk p38 37 (aR x20 v21 v22 v23 v24),Blk p1 75 [v2,v4,v6,v8,v25,v26,v27,.map (some p16),v28]] [] W:=⟨_,hI⟩
  obtain ⟨W0,hI⟩:=hI
  refine aW E rfl (wn rfl) rfl rfl (fun w hW=>(bD E rfl rfl)) fun a E=>aW E rfl (wn rfl) rfl rfl (fun w hW=>(sF E rfl rfl)) fun a E=>aW E rfl (wn rfl) rfl rfl (fun w hW=>iY E rfl rfl (v:=pt p1 7) (Es _ _)) fun a E=>aW E rfl (wn rfl) rfl rfl (fun w hW=>eZ E rfl rfl (kD mm1 rfl U69 rfl w hW)) fun a E=>aW E rfl (wn rfl) rfl rfl (fun w hW=>iY E rfl rfl (v:=pt p38 2) (Ac _ _)) fun a E=>aW E rfl (wn rfl) rfl rfl (fun w hW=>eZ E rfl rfl (kD m0 rfl U2 rfl w hW)) fun a E=>?_
  refine kM rfl rfl ?_ ?_
  ·refine lR (i:=3) (K:=(kyI .i64)) E H (wn rfl) rfl rfl rfl rfl rfl rfl (dX U2) U69 Ak De hx146 fun u173 a H E=>?_
   obtain ⟨v174,v175,v176,v177,v178,v179,v180,rfl,h⟩:=d8 H;clear H;have H:=h
   refine nt<|?_
   refine ⟨⟨_,_,H,(aB mm1 (aB mm2 (aL))),(aM)⟩,?_⟩
   refine aW E rfl (wn rfl) rfl rfl (fun w hW=>(bD E rfl rfl)) fun a E=>aW E rfl (wn rfl) rfl rfl (fun w hW=>(cX E rfl rfl rfl)) fun a E=>aW E rfl (wn rfl) rfl rfl (fun w hW=>(cX E rfl rfl rfl)) fun a E=>cJ rfl<|al E H rfl rfl rfl rfl Df fun p181 w a H E=>nt<|?_
   refine ⟨⟨_,_,H,(aB mm2 (aB mm3 (aL))),(aM)⟩,?_⟩
   refine cJ rfl<|aZ (i:=0) E H (wn rfl) rfl rfl rfl rfl rfl rfl Dg rfl (xH H mm6 mm5 mm4 mm3 mm2 mm1 m0) fun w H=>nt<|?_
   refine ⟨⟨_,_,H,(aB mm2 (aB mm3 (aL))),(aM)⟩,?_⟩
   refine cP rfl<|pr 1 E rfl fun a E=>nt<|dW<|?_
   clear hI
   exact aC<|have H:=H.frs [4,1,2,3,4] rfl;X22 ⟨E.to rfl,H,(Y8 Y0),mm5,mm4,mm3,mm2,mm1,m0,hm⟩
  ·refine al E H rfl rfl rfl rfl Df fun p182 w a H E=>nt<|?_
   refine ⟨⟨_,_,H,(aB mm2 (aB mm3 (aL))),(aM)⟩,?_⟩
   refine cJ rfl<|lR (i:=4) (K:=(kyI .i64)) E H (wn rfl) rfl rfl rfl rfl rfl rfl (dX U2) U69 Ak De hx146 fun u186 a H E=>?_
   obtain ⟨v187,v188,v189,v190,v191,v192,v193,rfl,h⟩:=d8 H;clear H;have H:=h
   refine nt<|?_
   refine ⟨⟨_,_,H,(aB mm2 (aB mm3 (aL))),(aM)⟩,?_⟩
   refine aW E rfl (wn rfl) rfl rfl (fun w hW=>(bD E rfl rfl)) fun a E=>aW E rfl (wn rfl) rfl rfl (fun w hW=>(cX E rfl rfl rfl)) fun a E=>aW E rfl (wn rfl) rfl rfl (fun w hW=>(cX E rfl rfl rfl)) fun a E=>cJ rfl<|aZ (i:=0) E H (wn rfl) rfl rfl rfl rfl rfl rfl Dg rfl (xH H mm6 mm5 mm4 mm3 mm2 mm1 m0) fun w H=>nt<|?_
   refine ⟨⟨_,_,H,(aB mm2 (aB mm3 (aL))),(aM)⟩,?_⟩
   refine cP rfl<|pr 1 E rfl fun a E=>nt<|dW<|?_
   clear hI
   exact aC<|have H:=H.frs [4,1,2,3,4] rfl;X22 ⟨E.to rfl,H,(Y8 Y0),mm5,mm4,mm3,mm2,mm1,m0,hm⟩
 ·clear E H hm
  rintro a w ⟨p40,v43,v49,v51,v53,v55,v57,v59,b41,b42,l44,x45,x46,b47,x48,l50,l52,l54,l56,l58,l60,rs61,E,H,hs62,hr64,hr65,hr66,hr67,hr68,hr69,hm⟩
  unfold pS at hm
  refine sq<|pr 1 E rfl fun a E=>nt<|wif E hm rfl (fun hm=>?_) fun hm=>?_
  ·refine wp_seq<|sq<|pr 1 E rfl fun a E=>lb E H 3 rfl rfl rfl rfl rfl rfl rfl U4 rfl fun a E=>nt<|wif E hm rfl (fun hm=>?_) fun hm=>?_
   ·refine sq<|bd hm fun u70 hx71 hm=>cG E rfl rfl rfl rfl rfl tM (dT H hx71)<|?_
    rintro _ w ⟨v72,v73,v74,v75,v76,v77,rfl,H⟩ a E
    refine aZ (i:=2) E H (wn rfl) rfl rfl rfl rfl rfl rfl bU rfl (bF H m0 mm1 mm2 mm3 mm4 mm5) fun w H=>nt<|wp_ret<|aP<|aP<|dH E rfl (cV (i:=2) (us:=(bC u70 v72 v73 v74 v75 v76 v77)) H rfl rfl rfl U48 rfl bU)<|have H:=H.drs [1,1,1];?_
    cases hm
    exact X7 ⟨rfl,H.reads (aA m0 (aA mm1 (aA mm2 (aA mm3 (aA mm4 (aA mm5 (aA (t6 (hs62 _ hr32)) (fun r hr=>(t6 (hs62 r hr))))))))))⟩
   ·refine wp_skip<|aC<|sq<|pr 1 E rfl fun a E=>sv E rfl rfl rfl (cA (i:=3) (us:=[.int .i64 x45,.int .i64 x46,.bool b47,.int .i64 x48,v49,v51,v53,v55,v57,v59]) E H rfl rfl rfl rfl U48 rfl bU) fun a E=>aZ (i:=2) E H (wn rfl) rfl rfl rfl rfl rfl rfl bU rfl (bF H hr64 hr65 hr66 hr67 hr68 hr69) fun w H=>nt<|wp_ret<|aP<|?_
    refine dH E rfl (cV (i:=2) (us:=[.int .i64 x45,.int .i64 x46,.bool b47,.int .i64 x48,v49,v51,v53,v55,v57,v59]) H rfl rfl rfl U48 rfl bU)<|have H:=H.drs [1,1,1];?_
    cases hm
    exact X7 ⟨rfl,H.reads (aA hr64 (aA hr65 (aA hr66 (aA hr67 (aA hr68 (aA hr69 (aA (hs62 _ hr32) (hs62))))))))⟩
  ·refine wp_skip<|aC<|sq<|pr 1 E rfl fun a E=>lb E H 1 rfl rfl rfl rfl rfl rfl rfl U26 rfl fun a E=>bd hm fun u78 hx79 hm=>cG E rfl rfl rfl rfl rfl Qy (N7 H (hs62 _ hr33) hx79)<|?_
   rintro _ w ⟨v80,rfl,H⟩ a E
   refine pr 1 E rfl fun a E=>nx<|pr 2 E rfl fun a E=>have H:=H.thaw (i:=0) rfl;bd hm fun u81 hx82 hm=>xk E rfl rfl rfl rfl rfl Rb (zN H (t1 (hs62 _ hr31)) m0 hx82) fun w H a E=>pr 1 E rfl fun a E=>nt<|aT (fun a w=>∃ x83 rs84,Env 103 a [(0,pt p1 0),(3,pt p38 0),(4,pt p39 0),(7,v80),(8,.int .i64 x83)]∧Sep w (Blk p1 75 [v2,v4,v6,v8,v25,v26,v27,.map (some p16),v28]::Blk p38 37 (aR x20 v21 v22 v23 v24)::Blk p39 48 bN::cB Tryz.prog 2 (kyI .i64) cQ true p16 l17::Fo) rs84∧(∀ r,r ∈ rs→r ∈ rs84)∧rSl kS v80 u78 ∈ rs84∧mA l17 x20 l9 u78 l3 l5 x83=some r) ?_ ?_
   ·refine aT (fun a w=>∃ b141 rs142,Env 103 a [(0,pt p1 0),(3,pt p38 0),(4,pt p39 0),(7,v80),(8,.int .i64 u81),(47,.bool b141)]∧Sep w (Blk p1 75 [v2,v4,v6,v8,v25,v26,v27,.map (some p16),v28]::Blk p38 37 (aR x20 v21 v22 v23 v24)::Blk p39 48 bN::cB Tryz.prog 2 (kyI .i64) cQ true p16 l17::Fo) rs142∧(∀ r,r ∈ rs→r ∈ rs142)∧rSl kS v80 u78 ∈ rs142∧mB l17 x20 l9 u78 l3 l5 u81 b141=some r) ?_ ?_
    ·refine wp_region_lit<|pr 3 E rfl fun a E=>cs hm (fun hb145 hm=>?_) fun hb145 hm=>?_
     ·exact pk 3 E (kc 40 rfl hb145) rfl fun a E=>aQ E (ws' (d:=40) E rfl rfl rfl rfl hb145) rfl rfl (cD (i:=0) E H rfl rfl rfl rfl U69 rfl) fun a E=>aQ E (ws' (d:=40) E rfl rfl rfl rfl hb145) rfl rfl (i1 (i:=4) E H rfl rfl rfl U69) fun a E=>pk 2 E (kc 40 rfl hb145) rfl fun a E=>nt<|have H:=H.drop 3;⟨_,_,E.to rfl,H,(Y1 hs62),m0,hm⟩
     ·exact pk 7 E (kc 40 rfl hb145) rfl fun a E=>nt<|have H:=H.drop 3;⟨_,_,E.to rfl,H,(Y1 hs62),m0,hm⟩
    ·clear E H hm
     rintro a w ⟨b141,rs142,E,H,hs143,hr144,hm⟩
     unfold mB at hm
     refine wif E hm rfl (fun hm=>?_) fun hm=>?_
     ·exact wp_region_lit<|pr 1 E rfl fun a E=>nt<|⟨_,_,E.to rfl,H,hs143,hr144,hm⟩
     ·exact wp_skip<|aC<|⟨_,_,E.to rfl,H,hs143,hr144,hm⟩
   ·clear E H hm
    rintro a w ⟨x83,rs84,E,H,hs85,hr86,hm⟩
    unfold mA at hm
    refine wp_seq<|sq<|pr 2 E rfl fun a E=>nt<|wif E hm rfl (fun hm=>?_) fun hm=>?_
    ·refine sq<|pr 1 E rfl fun a E=>bd hm fun u87 hx88 hm=>cG E rfl rfl rfl rfl rfl tM (dT H hx88)<|?_
     rintro _ w ⟨v89,v90,v91,v92,v93,v94,rfl,H⟩ a E
     refine aZ (i:=2) E H (wn rfl) rfl rfl rfl rfl rfl rfl bU rfl (bF H m0 mm1 mm2 mm3 mm4 mm5) fun w H=>nt<|wp_ret<|aP<|dH E rfl (cV (i:=2) (us:=(bC u87 v89 v90 v91 v92 v93 v94)) H rfl rfl rfl U48 rfl bU)<|have H:=H.drs [1,1];?_
     cases hm
     exact X7 ⟨rfl,H.reads (aA m0 (aA mm1 (aA mm2 (aA mm3 (aA mm4 (aA mm5 (aA (t6 (hs85 _ hr32)) (fun r hr=>(t6 (hs85 r hr))))))))))⟩
    ·refine wp_skip<|aC<|wp_seq<|dw [(0,0),(1,0),(2,0),(3,0),(4,0),(5,0),(6,0),(7,0),(8,0),(9,1),(10,0),(11,0),(12,0),(13,0),(14,1),(15,1),(16,2)] [0,1] [] H (by kernel_rfl) (fun _ _ _ h=>False.elim h.2) fun w W0 hI H=>fn 3 E rfl fun a E=>fb E rfl (wn rfl) rfl rfl rfl rfl m0 rfl U62 rfl fun a E=>fn 1 E rfl fun a E=>fb E rfl (wn rfl) rfl rfl rfl rfl mm1 rfl U2 rfl fun a E=>fn 1 E rfl fun a E=>?_
     refine fb E rfl (wn rfl) rfl rfl rfl rfl mm1 rfl U2 rfl fun a E=>fn 1 E rfl fun a E=>bZ rfl<|bd hm fun u95 hx96 hm=>cG E rfl rfl rfl rfl rfl Ze (Fd H (hs85 _ hr32) hr86 hx96)<|?_
     rintro _ w ⟨v97,v98,rfl,H⟩ a E
     refine nt<|?_
     refine ⟨⟨_,_,H,(aB mm1 (aB mm2 (aL))),(aM)⟩,?_⟩
     refine fn 4 E rfl fun a E=>bZ rfl<|pr 1 E rfl fun a E=>nt<|?_
     refine ⟨⟨_,_,H,(aB mm1 (aB mm2 (aL))),(aM)⟩,?_⟩
     refine bZ rfl<|pr 1 E rfl fun a E=>nt<|?_
     refine ⟨⟨_,_,H,(aB mm1 (aB mm2 (aL))),(aM)⟩,?_⟩
     refine bQ rfl<|pr 1 E rfl fun a E=>nt<|bR<|?_
     clear hI
     refine aC<|wp_seq<|sq<|pr 2 E rfl fun a E=>nt<|wif E hm rfl (fun hm=>?_) fun hm=>?_
     ·refine sq<|pr 1 E rfl fun a E=>?_
      obtain ⟨q99,x100,rfl⟩:=H.rowform (i:=0) rfl
      refine sv E rfl rfl rfl (cI E rfl (E.evs rfl) (v:=.agg #[.int .i64 131,.int .i64 0,.bool false,.int .i64 0,.slice none 0 0,.slice none 0 0,.slice none 0 0,.slice none 0 0,.slice none 0 0,(.slice q99 u95.2.1.length x100)]) (by kernel_rfl)) fun a E=>aZ (i:=3) E H (wn rfl) rfl rfl rfl rfl rfl rfl bU rfl rfl fun w H=>nt<|wp_ret<|aP<|dH E rfl (cV (i:=3) (us:=[.int .i64 131,.int .i64 0,.bool false,.int .i64 0,.slice none 0 0,.slice none 0 0,.slice none 0 0,.slice none 0 0,.slice none 0 0,(.slice q99 u95.2.1.length x100)]) H rfl rfl rfl U48 rfl bU)<|have H:=H.thaw (i:=0) rfl;have H:=H.nilSl bE;have H:=H.nilSl aF;?_
      refine have H:=H.nilSl aJ;have H:=H.nilSl aV;have H:=H.nilSl bL;have H:=H.drs [1,1];?_
      cases hm
      exact X7 ⟨rfl,H.reads (aA mm4 (aA mm3 (aA mm2 (aA mm1 (aA m0 (aA mm5 (aA (t7 (hs85 _ hr32)) (fun r hr=>(t7 (hs85 r hr))))))))))⟩
     ·refine wp_skip<|aC<|aT (fun a w=>∃ v102 x101 l103 x104 rs105,Env 103 a [(0,pt p1 0),(3,pt p38 0),(4,pt p39 0),(8,.int .i64 x101),(9,v97),(13,v102),(14,.int .i64 x104)]∧Sep w (Blk p1 75 [v2,v4,v6,v8,v25,v26,v27,.map (some p16),v28]::Blk p38 37 (aR x20 v21 v22 v23 v24)::Blk p39 48 bN::Row 81 bE v102 l103::cB Tryz.prog 2 (kyI .i64) cQ true p16 l17::Fo) rs105∧(∀ r,r ∈ rs→r ∈ rs105)∧rSl bG v97 u95.1 ∈ rs105∧pR l17 x20 u95 x101 l103 x104=some r) ?_ ?_
      ·refine bd hm fun u117 hx118 hm=>?_
       have hI:dP [Blk p1 75 [v2,v4,v6,v8,v25,v26,v27,.map (some p16),v28],Blk p38 37 (aR x20 v21 v22 v23 v24)] [] { w with drawn:=w.drawn+1 }:=⟨_,_,H.kept (Kp.drawn _ w _),(aB mm1 (aB mm2 (aL))),(aM)⟩
       refine jY _ (.go 0 0 (.go 1 0 (.go 2 0 (.go 3 0 (.go 4 0 (.go 5 0 (.alt 6 (.go 7 0 (.go 8 0 (.go 9 0 (.go 10 0 (.go 11 0 (.go 12 1 (.go 13 1 (.go 14 1 (.go 15 1 (.go 16 2 .nil)))))))))) 12 (.go 6 1 (.go 7 0 (.go 8 0 (.go 9 0 (.go 10 0 (.go 11 0 (.go 13 1 (.go 14 1 (.go 15 1 (.go 16 2 .nil))))))))))))))))) [16] kG (by kernel_rfl) (fun _ _ _ h=>False.elim h.2) hI<|have H:=H.kept (Kp.drawn _ w (w.drawn+1));?_
       generalize ({ w with drawn:=w.drawn+1 }:World)=w at H hI ⊢
       replace hI:∃ W,dP [Blk p1 75 [v2,v4,v6,v8,v25,v26,v27,.map (some p16),v28],Blk p38 37 (aR x20 v21 v22 v23 v24)] [] W:=⟨_,hI⟩
       obtain ⟨W0,hI⟩:=hI
       refine aW E rfl (wn rfl) rfl rfl (fun w hW=>(bD E rfl rfl)) fun a E=>aW E rfl (wn rfl) rfl rfl (fun w hW=>(sF E rfl rfl)) fun a E=>aW E rfl (wn rfl) rfl rfl (fun w hW=>iY E rfl rfl (v:=pt p1 0) (Ah _ _)) fun a E=>aW E rfl (wn rfl) rfl rfl (fun w hW=>eZ E rfl rfl (yN (us:=[v2,v4]) m0 rfl U25 rfl dA w hW)) fun a E=>aW E rfl (wn rfl) rfl rfl (fun w hW=>iY E rfl rfl (v:=pt p38 5) (Iz _ _)) fun a E=>aW E rfl (wn rfl) rfl rfl (fun w hW=>eZ E rfl rfl (kD mm1 rfl U26 rfl w hW)) fun a E=>?_
       refine kM rfl rfl ?_ ?_
       ·refine cG E rfl rfl rfl rfl rfl Kr (C7 (x1:=(⟨l3,l5⟩:bB)) H (t1 (hs85 _ hr29)) (t1 (hs85 _ hr30)) (t1 (hs85 _ hr33)) (t1 (hs85 _ hr37)) hx118)<|?_
        rintro _ w ⟨v131,v132,v133,rfl,H⟩ a E
        refine nt<|?_
        refine ⟨⟨_,_,H,(aB mm2 (aB mm3 (aL))),(aM)⟩,?_⟩
        refine aW E rfl (wn rfl) rfl rfl (fun w hW=>(bD E rfl rfl)) fun a E=>aW E rfl (wn rfl) rfl rfl (fun w hW=>(cX E rfl rfl rfl)) fun a E=>aW E rfl (wn rfl) rfl rfl (fun w hW=>(cX E rfl rfl rfl)) fun a E=>aW E rfl (wn rfl) rfl rfl (fun w hW=>(cX E rfl rfl rfl)) fun a E=>aW E rfl (wn rfl) rfl rfl (fun w hW=>(cX E rfl rfl rfl)) fun a E=>cJ rfl<|al E H rfl rfl rfl rfl jN fun p134 w a H E=>nt<|?_
        refine ⟨⟨_,_,H,(aB mm3 (aB mm4 (aL))),(aM)⟩,?_⟩
        refine cJ rfl<|aZ (i:=0) E H (wn rfl) rfl rfl rfl rfl rfl rfl dA rfl (jK H m0 mm1) fun w H=>nt<|?_
        refine ⟨⟨_,_,H,(aB mm3 (aB mm4 (aL))),(aM)⟩,?_⟩
        refine cJ rfl<|pr 1 E rfl fun a E=>nt<|?_
        refine ⟨⟨_,_,H,(aB mm3 (aB mm4 (aL))),(aM)⟩,?_⟩
        refine cJ rfl<|pr 1 E rfl fun a E=>nt<|?_
        refine ⟨⟨_,_,H,(aB mm3 (aB mm4 (aL))),(aM)⟩,?_⟩
        refine cP rfl<|pr 1 E rfl fun a E=>nt<|dW<|?_
        clear hI
        exact aC<|have H:=H.drs [0,1];have H:=H.frs [4,1,4,4,4] rfl;X5 ⟨E.to rfl,H,(Y3 hs85),mm2,hm⟩
       ·refine al E H rfl rfl rfl rfl jN fun p135 w a H E=>nt<|?_
        refine ⟨⟨_,_,H,(aB mm2 (aB mm3 (aL))),(aM)⟩,?_⟩
        refine cJ rfl<|cG E rfl rfl rfl rfl rfl Kr (C7 (x1:=(⟨l3,l5⟩:bB)) H (t1 (hs85 _ hr29)) (t1 (hs85 _ hr30)) (t1 (hs85 _ hr33)) (t1 (hs85 _ hr37)) hx118)<|?_
        rintro _ w ⟨v138,v139,v140,rfl,H⟩ a E
        refine nt<|?_
        refine ⟨⟨_,_,H,(aB mm3 (aB mm4 (aL))),(aM)⟩,?_⟩
        refine aW E rfl (wn rfl) rfl rfl (fun w hW=>(bD E rfl rfl)) fun a E=>aW E rfl (wn rfl) rfl rfl (fun w hW=>(cX E rfl rfl rfl)) fun a E=>aW E rfl (wn rfl) rfl rfl (fun w hW=>(cX E rfl rfl rfl)) fun a E=>aW E rfl (wn rfl) rfl rfl (fun w hW=>(cX E rfl rfl rfl)) fun a E=>aW E rfl (wn rfl) rfl rfl (fun w hW=>(cX E rfl rfl rfl)) fun a E=>cJ rfl<|aZ (i:=1) E H (wn rfl) rfl rfl rfl rfl rfl rfl dA rfl (jK H m0 mm1) fun w H=>nt<|?_
        refine ⟨⟨_,_,H,(aB mm3 (aB mm4 (aL))),(aM)⟩,?_⟩
        refine cJ rfl<|pr 1 E rfl fun a E=>nt<|?_
        refine ⟨⟨_,_,H,(aB mm3 (aB mm4 (aL))),(aM)⟩,?_⟩
        refine cJ rfl<|pr 1 E rfl fun a E=>nt<|?_
        refine ⟨⟨_,_,H,(aB mm3 (aB mm4 (aL))),(aM)⟩,?_⟩
        refine cP rfl<|pr 1 E rfl fun a E=>nt<|dW<|?_
        clear hI
        exact aC<|have H:=H.drs [1,1];have H:=H.frs [4,1,4,4,4] rfl;X5 ⟨E.to rfl,H,(Y3 hs85),mm2,hm⟩
      ·clear E H hm
       rintro a w ⟨v102,x101,l103,x104,rs105,E,H,hs106,hr107,hm⟩
       unfold pR at hm
       refine sq<|pr 5 E rfl fun a E=>?_
       obtain ⟨q108,x109,rfl⟩:=H.rowform (i:=3) rfl
       refine sv E rfl rfl rfl (cI E rfl (E.evs rfl) (v:=.agg #[.int .i64 x101,.int .i64 x104,.bool (x101 == 0),.int .i64 0,(.slice q108 l103.length x109),.slice none 0 0,.slice none 0 0,.slice none 0 0,.slice none 0 0,.slice none 0 0]) (by kernel_rfl)) fun a E=>al E H rfl rfl rfl rfl gN fun p110 w a H E=>aZ (i:=0) E H (wn rfl) rfl rfl rfl rfl rfl rfl bU rfl rfl fun w H=>nx<|pr 4 E rfl fun a E=>?_
       obtain ⟨q111,x112,rfl⟩:=H.slform hr107
       refine aZ (i:=1) E H (wn rfl) rfl rfl rfl rfl rfl rfl Ru rfl rfl fun w H=>nt<|wp_seq<|dw [(0,0),(1,0),(2,0),(3,0),(4,0),(5,0),(6,0),(7,0),(8,0),(9,0),(10,2)] [0,1,2] [] H (by kernel_rfl) (fun _ _ _ h=>False.elim h.2) fun w W0 hI H=>fn 3 E rfl fun a E=>fb E rfl (wn rfl) rfl rfl rfl rfl mm1 rfl U69 rfl fun a E=>fn 1 E rfl fun a E=>fb E rfl (wn rfl) rfl rfl rfl rfl mm2 rfl U2 rfl fun a E=>fn 1 E rfl fun a E=>?_
       refine fb E rfl (wn rfl) rfl rfl rfl rfl mm2 rfl U26 rfl fun a E=>fbn E [.int .i64 x101,.int .i64 x104,.bool (x101 == 0),.int .i64 0,(.slice q108 l103.length x109),.slice none 0 0,.slice none 0 0,.slice none 0 0,.slice none 0 0,.slice none 0 0] rfl (wn rfl) rfl rfl rfl rfl m0 rfl U48 rfl bU fun a E=>?_
       obtain ⟨q113,x114,rfl⟩:=H.slform (hs106 _ hr33)
       refine bW E rfl (wn rfl) rfl rfl (fun w hW=>(cI E rfl (E.evs rfl) (v:=.agg #[.bool false,(.slice q113 x20.Pieces.length x114),.int .i64 x101,.int .i64 x104,.bool (x101 == 0),.int .i64 0,(.slice q108 l103.length x109),.slice none 0 0,.slice none 0 0,.slice none 0 0,.slice none 0 0,.slice none 0 0]) (by kernel_rfl))) fun a E=>?_
       refine bQ rfl<|have H:=H.thaw (i:=4) rfl;bd hm fun l116 hx115 hm=>zR (i:=4) (K:=(kyI .i64)) (v:=(⟨false,x20.Pieces,(⟨x101,x104,x101 == 0,0,l103,(⟨[],[]⟩:bB),[],[],[]⟩:aG)⟩:bO)) (cs:=[.bool false,(.slice q113 x20.Pieces.length x114),.int .i64 x101,.int .i64 x104,.bool (x101 == 0),.int .i64 0,(.slice q108 l103.length x109),.slice none 0 0,.slice none 0 0,.slice none 0 0,.slice none 0 0,.slice none 0 0]) E H (wn rfl) rfl rfl rfl rfl rfl rfl (dX U2) U69 hx115 (fun ok hr=>(zT (hr _ (t1 (hs106 _ hr33))) (hr _ m0) (Sl.nil _ _ _) (Sl.nil _ _ _) (Sl.nil _ _ _) (Sl.nil _ _ _) (Sl.nil _ _ _))) fun w H=>nt<|bR<|?_
       clear hI
       refine aC<|sq<|sv E rfl rfl rfl (cA (i:=0) (us:=[.int .i64 x101,.int .i64 x104,.bool (x101 == 0),.int .i64 0,(.slice q108 l103.length x109),.slice none 0 0,.slice none 0 0,.slice none 0 0,.slice none 0 0,.slice none 0 0]) E H rfl rfl rfl rfl U48 rfl bU) fun a E=>aZ (i:=3) E H (wn rfl) rfl rfl rfl rfl rfl rfl bU rfl rfl fun w H=>nt<|wp_ret<|dH E rfl (cV (i:=3) (us:=[.int .i64 x101,.int .i64 x104,.bool (x101 == 0),.int .i64 0,(.slice q108 l103.length x109),.slice none 0 0,.slice none 0 0,.slice none 0 0,.slice none 0 0,.slice none 0 0]) H rfl rfl rfl U48 rfl bU)<|have H:=H.nilSl aF;have H:=H.nilSl aJ;?_
       refine have H:=H.nilSl aV;have H:=H.nilSl bL;have H:=H.nilSl (kI .i64);have H:=H.drs [0,1,1];?_
       cases hm
       exact X7 ⟨rfl,H.reads (aA mm5 (aA mm4 (aA mm3 (aA mm2 (aA mm1 (aA m0 (aA (t6 hr107) (fun r hr=>(t6 (hs106 r hr))))))))))⟩

def mU (l3:List aE) (l5:List aI) (l7:List aH) (l9:List aN) (l11:List aK) (l13:List aD) (l15:List ((Int)×aG)) (l17:List ((Int)×bO)) (l19:List ((Int)×aG)) (x20:bA) (b99:Bool):Option (aG×(List aE)×(List aI)×(List aH)×(List aN)×(List aK)×(List aD)×(List ((Int)×aG))×(List ((Int)×bO))×(List ((Int)×aG))):=
  if b99=true then ((dM 1).bind fun u102=>some (u102,l3,l5,l7,l9,l11,l13,l15,l17,l19)) else (if (x20.Kind == 2)=true then ((sA l3 l5 l7 l9 l17 x20).bind fun u162=>some (u162.1,l3,l5,l7,u162.2.1,l11,l13,l15,u162.2.2,l19)) else (if (x20.Kind == 3)=true then ((sO l3 l5 l9 l11 l13 l17 x20).bind fun u148=>some (u148.1,u148.2.1,u148.2.2.1,l7,u148.2.2.2.1,u148.2.2.2.2.1,u148.2.2.2.2.2.1,l15,u148.2.2.2.2.2.2,l19)) else (if (x20.Kind == 4)=true then ((fF l19 x20).bind fun u139=>some (u139.1,l3,l5,l7,l9,l11,l13,l15,l17,u139.2)) else (if (x20.Kind == 5)=true then ((sR l3 l5 l7 l9 x20).bind fun u129=>some (u129.1,l3,l5,u129.2,l9,l11,l13,l15,l17,l19)) else (if (x20.Kind == 6)=true then ((rW l3 l5 l7 l9 x20).bind fun u117=>some (u117.1,u117.2.1,u117.2.2.1,u117.2.2.2,l9,l11,l13,l15,l17,l19)) else (if (x20.Kind == 7)=true then ((uZ l3 l5 l7 x20).bind fun u111=>some ((⟨0,0,false,0,[],(⟨[],[]⟩:bB),[],[],[]⟩:aG),u111.1,u111.2.1,u111.2.2,l9,l11,l13,l15,l17,l19)) else none))))))
def mV (l3:List aE) (l5:List aI) (l7:List aH) (l9:List aN) (l11:List aK) (l13:List aD) (l15:List ((Int)×aG)) (l17:List ((Int)×bO)) (l19:List ((Int)×aG)) (x20:bA) (b50:Bool):Option (aG×(List aE)×(List aI)×(List aH)×(List aN)×(List aK)×(List aD)×(List ((Int)×aG))×(List ((Int)×bO))×(List ((Int)×aG))):=
  if b50=true then (if (x20.Kind == 1)=true then ((sV l3 l5 l7 l9 l11 l13 l15 x20).bind fun u87=>some (u87.1,u87.2.1,u87.2.2.1,l7,l9,u87.2.2.2.1,u87.2.2.2.2.1,u87.2.2.2.2.2,l17,l19)) else (if (x20.Kind == 8)=true then ((sU l11 l13 l15 x20).bind fun u76=>some (u76.1,l3,l5,l7,l9,u76.2.1,u76.2.2.1,u76.2.2.2,l17,l19)) else (if (x20.Kind == 9)=true then ((sT l11 l13 l15 x20).bind fun u65=>some (u65.1,l3,l5,l7,l9,u65.2.1,u65.2.2.1,u65.2.2.2,l17,l19)) else (if (x20.Kind == 10)=true then ((vG l11 l13 l15 x20).bind fun u54=>some (u54.1,l3,l5,l7,l9,u54.2.1,u54.2.2.1,u54.2.2.2,l17,l19)) else none)))) else (if (decide (x20.Kind ≥ 5))=true then (mU l3 l5 l7 l9 l11 l13 l15 l17 l19 x20 (sEq x20.Prefix (ByteArray.mk #[]))) else (mU l3 l5 l7 l9 l11 l13 l15 l17 l19 x20 false))
def mW (l3:List aE) (l5:List aI) (l7:List aH) (l9:List aN) (l11:List aK) (l13:List aD) (l15:List ((Int)×aG)) (l17:List ((Int)×bO)) (l19:List ((Int)×aG)) (x20:bA) (b39:Bool):Option (aG×(List aE)×(List aI)×(List aH)×(List aN)×(List aK)×(List aD)×(List ((Int)×aG))×(List ((Int)×bO))×(List ((Int)×aG))):=
  if b39=true then ((dM 1).bind fun u42=>some (u42,l3,l5,l7,l9,l11,l13,l15,l17,l19)) else (if (x20.Kind == 1)=true then (mV l3 l5 l7 l9 l11 l13 l15 l17 l19 x20 (x20.Kind == 1)) else (mV l3 l5 l7 l9 l11 l13 l15 l17 l19 x20 (decide (x20.Kind ≥ 8))))
def eO (l3:List aE) (l5:List aI) (l7:List aH) (l9:List aN) (l11:List aK) (l13:List aD) (l15:List ((Int)×aG)) (l17:List ((Int)×bO)) (l19:List ((Int)×aG)) (x20:bA):Option (aG×(List aE)×(List aI)×(List aH)×(List aN)×(List aK)×(List aD)×(List ((Int)×aG))×(List ((Int)×bO))×(List ((Int)×aG))):=
  (qQ x20).bind fun u172=>if (!u172)=true then (mW l3 l5 l7 l9 l11 l13 l15 l17 l19 x20 (!u172)) else (mW l3 l5 l7 l9 l11 l13 l15 l17 l19 x20 (decide (x20.Kind > 10)))
theorem jJ {w:World} {Fo:List Ob} {rs:List Rp} {p1 p14 p16 p18:Nat} {v2 v4 v6 v8 v10 v12 v21 v22 v23 v24:Value} {l3:List aE} {l5:List aI} {l7:List aH} {l9:List aN} {l11:List aK} {l13:List aD} {l15 l19:List ((Int)×aG)} {l17:List ((Int)×bO)} {x20:bA} (H:Sep w (Blk p1 75 [v2,v4,v6,v8,v10,v12,.map (some p14),.map (some p16),.map (some p18)]::cB Tryz.prog 2 (kyI .i64) bI true p14 l15::cB Tryz.prog 2 (kyI .i64) cQ true p16 l17::cB Tryz.prog 2 (kyI .i64) bI true p18 l19::Fo) rs) (hr25:rSl aF v2 l3 ∈ rs) (hr26:rSl aJ v4 l5 ∈ rs) (hr27:rSl aS v6 l7 ∈ rs) (hr28:rSl bG v8 l9 ∈ rs) (hr29:rSl aX v10 l11 ∈ rs) (hr30:rSl aO v12 l13 ∈ rs) (hr31:rSl cE v21 x20.Pieces ∈ rs) (hr32:rSl aF v22 x20.Store.Nodes ∈ rs) (hr33:rSl aJ v23 x20.Store.Turns ∈ rs) (hr34:rSl kS v24 x20.Gone ∈ rs) (hr35:xU Tryz.prog ∈ rs) {r:aG×(List aE)×(List aI)×(List aH)×(List aN)×(List aK)×(List aD)×(List ((Int)×aG))×(List ((Int)×bO))×(List ((Int)×aG))} (hm:eO l3 l5 l7 l9 l11 l13 l15 l17 l19 x20=some r) :
    Calls Tryz.prog 11 [pt p1 0,.agg (aR x20 v21 v22 v23 v24).toArray].toArray w (Ret fun v w'=>∃ y2 y3 y4 y5 y6 y7 y8 y10 y12 y14 y16 y18,.agg (bC r.1 y2 y3 y4 y5 y6 y7).toArray=v∧Sep w' (Blk p1 75 [y8,y10,y12,y14,y16,y18,.map (some p14),.map (some p16),.map (some p18)]::cB Tryz.prog 2 (kyI .i64) bI true p14 r.2.2.2.2.2.2.2.1::cB Tryz.prog 2 (kyI .i64) cQ true p16 r.2.2.2.2.2.2.2.2.1::cB Tryz.prog 2 (kyI .i64) bI true p18 r.2.2.2.2.2.2.2.2.2::Fo) (rSl bE y2 r.1.Results::rSl aF y3 r.1.Store.Nodes::rSl aJ y4 r.1.Store.Turns::rSl aV y5 r.1.Events::rSl bL y6 r.1.Mounts::rSl (kI .i64) y7 r.1.Wounded::rSl aF y8 r.2.1::rSl aJ y10 r.2.2.1::rSl aS y12 r.2.2.2.1::rSl bG y14 r.2.2.2.2.1::rSl aX y16 r.2.2.2.2.2.1::rSl aO y18 r.2.2.2.2.2.2.1::rs)):=by
 unfold eO at hm
 refine ent Tryz.func11 rfl Tryz.ntmps11 rfl rfl fun a E=>sq<|bS E H (wn rfl) rfl rfl rfl rfl rfl fun p36 w a H E=>al E H rfl rfl rfl rfl gN fun p37 w a H E=>nx<|sv E rfl rfl rfl (cI E rfl (E.evs rfl) (v:=.agg #[.nilFunc,.func (.func 25) #[] #[],.func (.func 26) #[] #[],.func (.func 27) #[] #[],.func (.func 28) #[] #[],.func (.func 29) #[] #[],.func (.func 30) #[] #[],.func (.func 31) #[] #[],.func (.func 32) #[] #[],.func (.func 33) #[] #[],.func (.func 34) #[] #[]]) (by kernel_rfl)) fun a E=>al E H rfl rfl rfl rfl Xz fun p38 w a H E=>aZ (i:=0) E H (wn rfl) rfl rfl rfl rfl rfl rfl Ya rfl rfl fun w H=>nt<|?_
 refine wp_seq<|wp_block<|aT (fun a w=>∃ b39 rs40,Env 46 a [(0,pt p1 0),(3,pt p36 0),(4,pt p37 0),(5,pt p38 0),(7,.bool b39)]∧Sep w (Blk p1 75 [v2,v4,v6,v8,v10,v12,.map (some p14),.map (some p16),.map (some p18)]::Blk p36 37 (aR x20 v21 v22 v23 v24)::Blk p37 48 bN::Blk p38 89 [.nilFunc,.func (.func 25) #[] #[],.func (.func 26) #[] #[],.func (.func 27) #[] #[],.func (.func 28) #[] #[],.func (.func 29) #[] #[],.func (.func 30) #[] #[],.func (.func 31) #[] #[],.func (.func 32) #[] #[],.func (.func 33) #[] #[],.func (.func 34) #[] #[]]::cB Tryz.prog 2 (kyI .i64) bI true p14 l15::cB Tryz.prog 2 (kyI .i64) cQ true p16 l17::cB Tryz.prog 2 (kyI .i64) bI true p18 l19::Fo) rs40∧(∀ r,r ∈ rs→r ∈ rs40)∧mW l3 l5 l7 l9 l11 l13 l15 l17 l19 x20 b39=some r) ?_ ?_
 ·refine sq<|sv E rfl rfl rfl (cA (i:=2) (us:=(aR x20 v21 v22 v23 v24)) E H rfl rfl rfl rfl U37 rfl j6) fun a E=>bd hm fun u172 hx173 hm=>xk E rfl rfl rfl rfl rfl Yb (Ap H hr31 hr32 hr33 hr34 hx173) fun w H a E=>pr 2 E rfl fun a E=>nt<|wif E hm rfl (fun hm=>?_) fun hm=>?_
  ·exact wp_skip<|aC<|have H:=H.frs [6,6,6,3,4,5,6] rfl;⟨_,_,E.to rfl,H,Y0,hm⟩
  ·exact wp_region_lit<|pr 1 E rfl fun a E=>lb E H 2 rfl rfl rfl rfl rfl rfl rfl U3 rfl fun a E=>pr 2 E rfl fun a E=>nt<|have H:=H.frs [6,6,6,3,4,5,6] rfl;⟨_,_,E.to rfl,H,Y0,hm⟩
 ·clear E H hm
  rintro a w ⟨b39,rs40,E,H,hs41,hm⟩
  unfold mW at hm
  refine wif E hm rfl (fun hm=>?_) fun hm=>?_
  ·refine sq<|bd hm fun u42 hx43 hm=>cG E rfl rfl rfl rfl rfl tM (dT H hx43)<|?_
   rintro _ w ⟨v44,v45,v46,v47,v48,v49,rfl,H⟩ a E
   refine aZ (i:=2) E H (wn rfl) rfl rfl rfl rfl rfl rfl bU rfl (bF H m0 mm1 mm2 mm3 mm4 mm5) fun w H=>nt<|wp_ret<|bV<|aP<|dH E rfl (cV (i:=2) (us:=(bC u42 v44 v45 v46 v47 v48 v49)) H rfl rfl rfl U48 rfl bU)<|have H:=H.drs [1,1,1];?_
   cases hm
   exact X12 ⟨rfl,H.reads (aA m0 (aA mm1 (aA mm2 (aA mm3 (aA mm4 (aA mm5 (aA (t6 (hs41 _ hr25)) (aA (t6 (hs41 _ hr26)) (aA (t6 (hs41 _ hr27)) (aA (t6 (hs41 _ hr28)) (aA (t6 (hs41 _ hr29)) (aA (t6 (hs41 _ hr30)) (fun r hr=>(t6 (hs41 r hr)))))))))))))))⟩
  ·refine aT (fun a w=>∃ b50 rs51,Env 46 a [(0,pt p1 0),(3,pt p36 0),(4,pt p37 0),(5,pt p38 0),(15,.bool b50)]∧Sep w (Blk p1 75 [v2,v4,v6,v8,v10,v12,.map (some p14),.map (some p16),.map (some p18)]::Blk p36 37 (aR x20 v21 v22 v23 v24)::Blk p37 48 bN::Blk p38 89 [.nilFunc,.func (.func 25) #[] #[],.func (.func 26) #[] #[],.func (.func 27) #[] #[],.func (.func 28) #[] #[],.func (.func 29) #[] #[],.func (.func 30) #[] #[],.func (.func 31) #[] #[],.func (.func 32) #[] #[],.func (.func 33) #[] #[],.func (.func 34) #[] #[]]::cB Tryz.prog 2 (kyI .i64) bI true p14 l15::cB Tryz.prog 2 (kyI .i64) cQ true p16 l17::cB Tryz.prog 2 (kyI .i64) bI true p18 l19::Fo) rs51∧(∀ r,r ∈ rs→r ∈ rs51)∧mV l3 l5 l7 l9 l11 l13 l15 l17 l19 x20 b50=some r) ?_ ?_
   ·refine sq<|pr 1 E rfl fun a E=>lb E H 1 rfl rfl rfl rfl rfl rfl rfl U3 rfl fun a E=>pr 2 E rfl fun a E=>nt<|wif E hm rfl (fun hm=>?_) fun hm=>?_
    ·exact wp_skip<|aC<|⟨_,_,E.to rfl,H,hs41,hm⟩
    ·exact wp_region_lit<|pr 1 E rfl fun a E=>lb E H 1 rfl rfl rfl rfl rfl rfl rfl U3 rfl fun a E=>pr 2 E rfl fun a E=>nt<|⟨_,_,E.to rfl,H,hs41,hm⟩
   ·clear E H hm
    rintro a w ⟨b50,rs51,E,H,hs52,hm⟩
    unfold mV at hm
    refine wif E hm rfl (fun hm=>?_) fun hm=>?_
    ·refine wp_seq<|dw [(0,0),(1,0),(2,0),(3,0),(4,0),(5,0),(6,1),(7,2)] [1,3] [] H (by kernel_rfl) (fun _ _ _ h=>False.elim h.2) fun w W0 hI H=>fn 1 E rfl fun a E=>fbn E (aR x20 v21 v22 v23 v24) rfl (wn rfl) rfl rfl rfl rfl m0 rfl U37 rfl j6 fun a E=>fn 1 E rfl fun a E=>fb E rfl (wn rfl) rfl rfl rfl rfl m0 rfl U3 rfl fun a E=>cs hm (fun hb86 hm=>?_) fun hb86 hm=>?_
     ·refine bW E rfl (wn rfl) rfl rfl (fun w hW=>nU (j:=1) E rfl rfl rfl hb86 rfl U89 A9) fun a E=>?_
      refine fb E rfl (wn rfl) rfl rfl rfl rfl mm1 rfl U88 rfl fun a E=>bZ rfl<|have H:=H.frs [6,6,5,5,5,6,6] rfl;bd hm fun u87 hx88 hm=>cG E rfl rfl rfl rfl rfl Hd (I4 H (hs52 _ hr25) (hs52 _ hr26) (hs52 _ hr27) (hs52 _ hr28) (hs52 _ hr29) (hs52 _ hr30) (hs52 _ hr31) (hs52 _ hr35) hx88)<|?_
      rintro _ w ⟨v89,v90,v91,v92,v93,v94,v95,v96,v97,v98,rfl,H⟩ a E
      refine nt<|?_
      refine ⟨⟨_,_,H,(aB mm2 (aB mm4 (aL))),(aM)⟩,?_⟩
      refine bQ rfl<|aZ (i:=3) E H (wn rfl) rfl rfl rfl rfl rfl rfl bU rfl (bF H m0 mm1 mm2 mm3 mm4 mm5) fun w H=>nt<|bR<|?_
      clear hI
      refine aC<|wp_ret<|bV<|aP<|dH E rfl (cV (i:=3) (us:=(bC u87.1 v89 v90 v91 v92 v93 v94)) H rfl rfl rfl U48 rfl bU)<|have H:=H.drs [2,2,2];?_
      cases hm
      exact X12 ⟨rfl,H.reads (aA m0 (aA mm1 (aA mm2 (aA mm3 (aA mm4 (aA mm5 (aA mm6 (aA (t1 mm6) (aA (t2 (t8 (hs52 _ hr27))) (aA (t2 (t8 (hs52 _ hr28))) (aA (t2 mm6) (aA (t3 mm6) (fun r hr=>(t2 (t8 (hs52 r hr))))))))))))))))⟩
     ·refine cs hm (fun hb75 hm=>?_) fun hb75 hm=>?_
      ·refine bW E rfl (wn rfl) rfl rfl (fun w hW=>nU (j:=8) E rfl rfl rfl hb75 rfl U89 A9) fun a E=>?_
       refine fb E rfl (wn rfl) rfl rfl rfl rfl mm1 rfl U88 rfl fun a E=>bZ rfl<|have H:=H.frs [6,6,5,5,5,6,6] rfl;bd hm fun u76 hx77 hm=>cG E rfl rfl rfl rfl rfl Hd (I3 H (hs52 _ hr29) (hs52 _ hr30) hx77)<|?_
       rintro _ w ⟨v78,v79,v80,v81,v82,v83,v84,v85,rfl,H⟩ a E
       refine nt<|?_
       refine ⟨⟨_,_,H,(aB mm2 (aB mm4 (aL))),(aM)⟩,?_⟩
       refine bQ rfl<|aZ (i:=3) E H (wn rfl) rfl rfl rfl rfl rfl rfl bU rfl (bF H m0 mm1 mm2 mm3 mm4 mm5) fun w H=>nt<|bR<|?_
       clear hI
       refine aC<|wp_ret<|bV<|aP<|dH E rfl (cV (i:=3) (us:=(bC u76.1 v78 v79 v80 v81 v82 v83)) H rfl rfl rfl U48 rfl bU)<|have H:=H.drs [2,2,2];?_
       cases hm
       exact X12 ⟨rfl,H.reads (aA m0 (aA mm1 (aA mm2 (aA mm3 (aA mm4 (aA mm5 (aA (t8 (hs52 _ hr25)) (aA (t8 (hs52 _ hr26)) (aA (t8 (hs52 _ hr27)) (aA (t8 (hs52 _ hr28)) (aA mm6 (aA (t1 mm6) (fun r hr=>(t8 (hs52 r hr)))))))))))))))⟩
      ·refine cs hm (fun hb64 hm=>?_) fun hb64 hm=>?_
       ·refine bW E rfl (wn rfl) rfl rfl (fun w hW=>nU (j:=9) E rfl rfl rfl hb64 rfl U89 A9) fun a E=>?_
        refine fb E rfl (wn rfl) rfl rfl rfl rfl mm1 rfl U88 rfl fun a E=>bZ rfl<|have H:=H.frs [6,6,5,5,5,6,6] rfl;bd hm fun u65 hx66 hm=>cG E rfl rfl rfl rfl rfl Hd (I2 H (hs52 _ hr29) (hs52 _ hr30) hx66)<|?_
        rintro _ w ⟨v67,v68,v69,v70,v71,v72,v73,v74,rfl,H⟩ a E
        refine nt<|?_
        refine ⟨⟨_,_,H,(aB mm2 (aB mm4 (aL))),(aM)⟩,?_⟩
        refine bQ rfl<|aZ (i:=3) E H (wn rfl) rfl rfl rfl rfl rfl rfl bU rfl (bF H m0 mm1 mm2 mm3 mm4 mm5) fun w H=>nt<|bR<|?_
        clear hI
        refine aC<|wp_ret<|bV<|aP<|dH E rfl (cV (i:=3) (us:=(bC u65.1 v67 v68 v69 v70 v71 v72)) H rfl rfl rfl U48 rfl bU)<|have H:=H.drs [2,2,2];?_
        cases hm
        exact X12 ⟨rfl,H.reads (aA m0 (aA mm1 (aA mm2 (aA mm3 (aA mm4 (aA mm5 (aA (t8 (hs52 _ hr25)) (aA (t8 (hs52 _ hr26)) (aA (t8 (hs52 _ hr27)) (aA (t8 (hs52 _ hr28)) (aA mm6 (aA (t1 mm6) (fun r hr=>(t8 (hs52 r hr)))))))))))))))⟩
       ·refine cs hm (fun hb53 hm=>?_) fun hb53 hm=>?_
        ·refine bW E rfl (wn rfl) rfl rfl (fun w hW=>nU (j:=10) E rfl rfl rfl hb53 rfl U89 A9) fun a E=>?_
         refine fb E rfl (wn rfl) rfl rfl rfl rfl mm1 rfl U88 rfl fun a E=>bZ rfl<|have H:=H.frs [6,6,5,5,5,6,6] rfl;bd hm fun u54 hx55 hm=>cG E rfl rfl rfl rfl rfl Hd (N5 H (hs52 _ hr29) (hs52 _ hr30) hx55)<|?_
         rintro _ w ⟨v56,v57,v58,v59,v60,v61,v62,v63,rfl,H⟩ a E
         refine nt<|?_
         refine ⟨⟨_,_,H,(aB mm2 (aB mm4 (aL))),(aM)⟩,?_⟩
         refine bQ rfl<|aZ (i:=3) E H (wn rfl) rfl rfl rfl rfl rfl rfl bU rfl (bF H m0 mm1 mm2 mm3 mm4 mm5) fun w H=>nt<|bR<|?_
         clear hI
         refine aC<|wp_ret<|bV<|aP<|dH E rfl (cV (i:=3) (us:=(bC u54.1 v56 v57 v58 v59 v60 v61)) H rfl rfl rfl U48 rfl bU)<|have H:=H.drs [2,2,2];?_
         cases hm
         exact X12 ⟨rfl,H.reads (aA m0 (aA mm1 (aA mm2 (aA mm3 (aA mm4 (aA mm5 (aA (t8 (hs52 _ hr25)) (aA (t8 (hs52 _ hr26)) (aA (t8 (hs52 _ hr27)) (aA (t8 (hs52 _ hr28)) (aA mm6 (aA (t1 mm6) (fun r hr=>(t8 (hs52 r hr)))))))))))))))⟩
        ·exact (bT hm rfl).elim
    ·refine aT (fun a w=>∃ b99 rs100,Env 46 a [(0,pt p1 0),(3,pt p36 0),(4,pt p37 0),(5,pt p38 0),(29,.bool b99)]∧Sep w (Blk p1 75 [v2,v4,v6,v8,v10,v12,.map (some p14),.map (some p16),.map (some p18)]::Blk p36 37 (aR x20 v21 v22 v23 v24)::Blk p37 48 bN::Blk p38 89 [.nilFunc,.func (.func 25) #[] #[],.func (.func 26) #[] #[],.func (.func 27) #[] #[],.func (.func 28) #[] #[],.func (.func 29) #[] #[],.func (.func 30) #[] #[],.func (.func 31) #[] #[],.func (.func 32) #[] #[],.func (.func 33) #[] #[],.func (.func 34) #[] #[]]::cB Tryz.prog 2 (kyI .i64) bI true p14 l15::cB Tryz.prog 2 (kyI .i64) cQ true p16 l17::cB Tryz.prog 2 (kyI .i64) bI true p18 l19::Fo) rs100∧(∀ r,r ∈ rs→r ∈ rs100)∧mU l3 l5 l7 l9 l11 l13 l15 l17 l19 x20 b99=some r) ?_ ?_
     ·refine wp_region_lit<|pr 1 E rfl fun a E=>lb E H 1 rfl rfl rfl rfl rfl rfl rfl U3 rfl fun a E=>pr 2 E rfl fun a E=>cs hm (fun hb171 hm=>?_) fun hb171 hm=>?_
      ·exact pk 1 E (kc 33 rfl hb171) rfl fun a E=>aQ E (ws' (d:=33) E rfl rfl rfl rfl hb171) rfl rfl (cD (i:=1) E H rfl rfl rfl rfl U9 rfl) fun a E=>pk 3 E (kc 33 rfl hb171) rfl fun a E=>nt<|⟨_,_,E.to rfl,H,hs52,hm⟩
      ·exact pk 5 E (kc 33 rfl hb171) rfl fun a E=>nt<|⟨_,_,E.to rfl,H,hs52,hm⟩
     ·clear E H hm
      rintro a w ⟨b99,rs100,E,H,hs101,hm⟩
      unfold mU at hm
      refine wif E hm rfl (fun hm=>?_) fun hm=>?_
      ·refine sq<|bd hm fun u102 hx103 hm=>cG E rfl rfl rfl rfl rfl tM (dT H hx103)<|?_
       rintro _ w ⟨v104,v105,v106,v107,v108,v109,rfl,H⟩ a E
       refine aZ (i:=2) E H (wn rfl) rfl rfl rfl rfl rfl rfl bU rfl (bF H m0 mm1 mm2 mm3 mm4 mm5) fun w H=>nt<|wp_ret<|bV<|aP<|dH E rfl (cV (i:=2) (us:=(bC u102 v104 v105 v106 v107 v108 v109)) H rfl rfl rfl U48 rfl bU)<|have H:=H.drs [1,1,1];?_
       cases hm
       exact X12 ⟨rfl,H.reads (aA m0 (aA mm1 (aA mm2 (aA mm3 (aA mm4 (aA mm5 (aA (t6 (hs101 _ hr25)) (aA (t6 (hs101 _ hr26)) (aA (t6 (hs101 _ hr27)) (aA (t6 (hs101 _ hr28)) (aA (t6 (hs101 _ hr29)) (aA (t6 (hs101 _ hr30)) (fun r hr=>(t6 (hs101 r hr)))))))))))))))⟩
      ·refine wp_skip<|bY<|aC<|wp_seq<|dw [(0,0),(1,0),(2,0),(3,0),(4,0),(5,0),(6,1),(7,2)] [1,3] [] H (by kernel_rfl) (fun _ _ _ h=>False.elim h.2) fun w W0 hI H=>fn 1 E rfl fun a E=>fb E rfl (wn rfl) rfl rfl rfl rfl m0 rfl U3 rfl fun a E=>cs hm (fun hb161 hm=>?_) fun hb161 hm=>?_
       ·refine bW E rfl (wn rfl) rfl rfl (fun w hW=>nU (j:=2) E rfl rfl rfl hb161 rfl U89 A9) fun a E=>?_
        refine fb E rfl (wn rfl) rfl rfl rfl rfl mm1 rfl U88 rfl fun a E=>fn 1 E rfl fun a E=>fbn E (aR x20 v21 v22 v23 v24) rfl (wn rfl) rfl rfl rfl rfl m0 rfl U37 rfl j6 fun a E=>bZ rfl<|have H:=H.frs [6,5,5,5,5,6,6] rfl;bd hm fun u162 hx163 hm=>aU E (wn rfl) rfl rfl (bP E rfl rfl rfl (Zd _)) (F6 H (hs101 _ hr25) (hs101 _ hr26) (hs101 _ hr27) (hs101 _ hr28) (hs101 _ hr31) (hs101 _ hr35) hx163)<|?_
        rintro _ w ⟨v164,v165,v166,v167,v168,v169,v170,rfl,H⟩ a E
        refine nt<|?_
        refine ⟨⟨_,_,H,(aB mm2 (aB mm4 (aL))),(aM)⟩,?_⟩
        refine bQ rfl<|aZ (i:=3) E H (wn rfl) rfl rfl rfl rfl rfl rfl bU rfl (bF H m0 mm1 mm2 mm3 mm4 mm5) fun w H=>nt<|bR<|?_
        clear hI
        refine aC<|wp_ret<|dH E rfl (cV (i:=3) (us:=(bC u162.1 v164 v165 v166 v167 v168 v169)) H rfl rfl rfl U48 rfl bU)<|have H:=H.drs [2,2,2];have H:=H.frs [3,2,3,3] rfl;?_
        cases hm
        exact X12 ⟨rfl,H.reads (aA m0 (aA mm1 (aA mm2 (aA mm3 (aA mm4 (aA mm5 (aA (t7 (hs101 _ hr25)) (aA (t7 (hs101 _ hr26)) (aA (t7 (hs101 _ hr27)) (aA mm6 (aA (t7 (hs101 _ hr29)) (aA (t7 (hs101 _ hr30)) (fun r hr=>(t7 (hs101 r hr)))))))))))))))⟩
       ·refine cs hm (fun hb147 hm=>?_) fun hb147 hm=>?_
        ·refine bW E rfl (wn rfl) rfl rfl (fun w hW=>nU (j:=3) E rfl rfl rfl hb147 rfl U89 A9) fun a E=>?_
         refine fb E rfl (wn rfl) rfl rfl rfl rfl mm1 rfl U88 rfl fun a E=>fn 1 E rfl fun a E=>fbn E (aR x20 v21 v22 v23 v24) rfl (wn rfl) rfl rfl rfl rfl m0 rfl U37 rfl j6 fun a E=>bZ rfl<|have H:=H.frs [6,5,5,5,5,6,6] rfl;bd hm fun u148 hx149 hm=>aU E (wn rfl) rfl rfl (bP E rfl rfl rfl (Zb _)) (G9 H (hs101 _ hr25) (hs101 _ hr26) (hs101 _ hr28) (hs101 _ hr29) (hs101 _ hr30) (hs101 _ hr35) hx149)<|?_
         rintro _ w ⟨v150,v151,v152,v153,v154,v155,v156,v157,v158,v159,v160,rfl,H⟩ a E
         refine nt<|?_
         refine ⟨⟨_,_,H,(aB mm2 (aB mm4 (aL))),(aM)⟩,?_⟩
         refine bQ rfl<|aZ (i:=3) E H (wn rfl) rfl rfl rfl rfl rfl rfl bU rfl (bF H m0 mm1 mm2 mm3 mm4 mm5) fun w H=>nt<|bR<|?_
         clear hI
         refine aC<|wp_ret<|dH E rfl (cV (i:=3) (us:=(bC u148.1 v150 v151 v152 v153 v154 v155)) H rfl rfl rfl U48 rfl bU)<|have H:=H.drs [2,2,2];have H:=H.frs [3,2,3,3] rfl;?_
         cases hm
         exact X12 ⟨rfl,H.reads (aA m0 (aA mm1 (aA mm2 (aA mm3 (aA mm4 (aA mm5 (aA mm6 (aA (t1 mm6) (aA (t3 (t8 (hs101 _ hr27))) (aA (t2 mm6) (aA (t3 mm6) (aA (t4 mm6) (fun r hr=>(t3 (t8 (hs101 r hr))))))))))))))))⟩
        ·refine cs hm (fun hb138 hm=>?_) fun hb138 hm=>?_
         ·refine bW E rfl (wn rfl) rfl rfl (fun w hW=>nU (j:=4) E rfl rfl rfl hb138 rfl U89 A9) fun a E=>?_
          refine fb E rfl (wn rfl) rfl rfl rfl rfl mm1 rfl U88 rfl fun a E=>fn 1 E rfl fun a E=>fbn E (aR x20 v21 v22 v23 v24) rfl (wn rfl) rfl rfl rfl rfl m0 rfl U37 rfl j6 fun a E=>bZ rfl<|have H:=H.frs [5,5,5,5,5,6,6] rfl;bd hm fun u139 hx140 hm=>aU E (wn rfl) rfl rfl (bP E rfl rfl rfl (Za _)) (G8 H hx140)<|?_
          rintro _ w ⟨v141,v142,v143,v144,v145,v146,rfl,H⟩ a E
          refine nt<|?_
          refine ⟨⟨_,_,H,(aB mm2 (aB mm4 (aL))),(aM)⟩,?_⟩
          refine bQ rfl<|aZ (i:=3) E H (wn rfl) rfl rfl rfl rfl rfl rfl bU rfl (bF H m0 mm1 mm2 mm3 mm4 mm5) fun w H=>nt<|bR<|?_
          clear hI
          refine aC<|wp_ret<|dH E rfl (cV (i:=3) (us:=(bC u139.1 v141 v142 v143 v144 v145 v146)) H rfl rfl rfl U48 rfl bU)<|have H:=H.drs [2,2,2];have H:=H.frs [1,3,3,3] rfl;?_
          cases hm
          exact X12 ⟨rfl,H.reads (aA m0 (aA mm1 (aA mm2 (aA mm3 (aA mm4 (aA mm5 (aA (t6 (hs101 _ hr25)) (aA (t6 (hs101 _ hr26)) (aA (t6 (hs101 _ hr27)) (aA (t6 (hs101 _ hr28)) (aA (t6 (hs101 _ hr29)) (aA (t6 (hs101 _ hr30)) (fun r hr=>(t6 (hs101 r hr)))))))))))))))⟩
         ·refine cs hm (fun hb128 hm=>?_) fun hb128 hm=>?_
          ·refine bW E rfl (wn rfl) rfl rfl (fun w hW=>nU (j:=5) E rfl rfl rfl hb128 rfl U89 A9) fun a E=>?_
           refine fb E rfl (wn rfl) rfl rfl rfl rfl mm1 rfl U88 rfl fun a E=>fn 1 E rfl fun a E=>fbn E (aR x20 v21 v22 v23 v24) rfl (wn rfl) rfl rfl rfl rfl m0 rfl U37 rfl j6 fun a E=>bZ rfl<|bd hm fun u129 hx130 hm=>aU E (wn rfl) rfl rfl (bP E rfl rfl rfl (Yy _)) (I1 H (hs101 _ hr25) (hs101 _ hr26) (hs101 _ hr27) (hs101 _ hr28) hx130)<|?_
           rintro _ w ⟨v131,v132,v133,v134,v135,v136,v137,rfl,H⟩ a E
           refine nt<|?_
           refine ⟨⟨_,_,H,(aB mm1 (aB mm3 (aL))),(aM)⟩,?_⟩
           refine bQ rfl<|aZ (i:=2) E H (wn rfl) rfl rfl rfl rfl rfl rfl bU rfl (bF H m0 mm1 mm2 mm3 mm4 mm5) fun w H=>nt<|bR<|?_
           clear hI
           refine aC<|wp_ret<|dH E rfl (cV (i:=2) (us:=(bC u129.1 v131 v132 v133 v134 v135 v136)) H rfl rfl rfl U48 rfl bU)<|have H:=H.drs [1,1,1];?_
           cases hm
           exact X12 ⟨rfl,H.reads (aA m0 (aA mm1 (aA mm2 (aA mm3 (aA mm4 (aA mm5 (aA (t7 (hs101 _ hr25)) (aA (t7 (hs101 _ hr26)) (aA mm6 (aA (t7 (hs101 _ hr28)) (aA (t7 (hs101 _ hr29)) (aA (t7 (hs101 _ hr30)) (fun r hr=>(t7 (hs101 r hr)))))))))))))))⟩
          ·refine cs hm (fun hb116 hm=>?_) fun hb116 hm=>?_
           ·refine bW E rfl (wn rfl) rfl rfl (fun w hW=>nU (j:=6) E rfl rfl rfl hb116 rfl U89 A9) fun a E=>?_
            refine fb E rfl (wn rfl) rfl rfl rfl rfl mm1 rfl U88 rfl fun a E=>fn 1 E rfl fun a E=>fbn E (aR x20 v21 v22 v23 v24) rfl (wn rfl) rfl rfl rfl rfl m0 rfl U37 rfl j6 fun a E=>bZ rfl<|bd hm fun u117 hx118 hm=>aU E (wn rfl) rfl rfl (bP E rfl rfl rfl (Ys _)) (F2 H (hs101 _ hr25) (hs101 _ hr26) (hs101 _ hr27) (hs101 _ hr28) (hs101 _ hr32) (hs101 _ hr33) (hs101 _ hr34) hx118)<|?_
            rintro _ w ⟨v119,v120,v121,v122,v123,v124,v125,v126,v127,rfl,H⟩ a E
            refine nt<|?_
            refine ⟨⟨_,_,H,(aB mm1 (aB mm3 (aL))),(aM)⟩,?_⟩
            refine bQ rfl<|aZ (i:=2) E H (wn rfl) rfl rfl rfl rfl rfl rfl bU rfl (bF H m0 mm1 mm2 mm3 mm4 mm5) fun w H=>nt<|bR<|?_
            clear hI
            refine aC<|wp_ret<|dH E rfl (cV (i:=2) (us:=(bC u117.1 v119 v120 v121 v122 v123 v124)) H rfl rfl rfl U48 rfl bU)<|have H:=H.drs [1,1,1];?_
            cases hm
            exact X12 ⟨rfl,H.reads (aA m0 (aA mm1 (aA mm2 (aA mm3 (aA mm4 (aA mm5 (aA mm6 (aA (t1 mm6) (aA (t2 mm6) (aA (t1 (t8 (hs101 _ hr28))) (aA (t1 (t8 (hs101 _ hr29))) (aA (t1 (t8 (hs101 _ hr30))) (fun r hr=>(t1 (t8 (hs101 r hr))))))))))))))))⟩
           ·refine cs hm (fun hb110 hm=>?_) fun hb110 hm=>?_
            ·refine bW E rfl (wn rfl) rfl rfl (fun w hW=>nU (j:=7) E rfl rfl rfl hb110 rfl U89 A9) fun a E=>?_
             refine fb E rfl (wn rfl) rfl rfl rfl rfl mm1 rfl U88 rfl fun a E=>fn 1 E rfl fun a E=>fbn E (aR x20 v21 v22 v23 v24) rfl (wn rfl) rfl rfl rfl rfl m0 rfl U37 rfl j6 fun a E=>bZ rfl<|bd hm fun u111 hx112 hm=>aU E (wn rfl) rfl rfl (bP E rfl rfl rfl (Yp _)) (M6 H (hs101 _ hr25) (hs101 _ hr26) (hs101 _ hr27) hx112)<|?_
             rintro _ w ⟨v113,v114,v115,rfl,H⟩ a E
             refine nt<|?_
             refine ⟨⟨_,_,H,(aB mm1 (aB mm3 (aL))),(aM)⟩,?_⟩
             refine bQ rfl<|aZ (i:=2) E H (wn rfl) rfl rfl rfl rfl rfl rfl bU rfl rfl fun w H=>nt<|bR<|?_
             clear hI
             refine aC<|wp_ret<|dH E rfl (cV (i:=2) (us:=bN) H rfl rfl rfl U48 rfl bU)<|have H:=H.nilSl bE;have H:=H.nilSl aF;have H:=H.nilSl aJ;have H:=H.nilSl aV;have H:=H.nilSl bL;have H:=H.nilSl (kI .i64);?_
             refine have H:=H.drs [1,1,1];?_
             cases hm
             exact X12 ⟨rfl,H.reads (aA mm5 (aA mm4 (aA mm3 (aA mm2 (aA mm1 (aA m0 (aA mm6 (aA (t1 mm6) (aA (t2 mm6) (aA (t1 (t8 (hs101 _ hr28))) (aA (t1 (t8 (hs101 _ hr29))) (aA (t1 (t8 (hs101 _ hr30))) (fun r hr=>(t1 (t8 (hs101 r hr))))))))))))))))⟩
            ·exact (bT hm rfl).elim

def uF (l9:List aN):Option (List aN):=
  (ck (l9.length ≤ LIM)).bind fun u30=>some (l9)
theorem K4 {w:World} {Fo:List Ob} {rs:List Rp} {p1:Nat} {v8 v20 v21 v22 v23 v24 v25 v26 v27:Value} {l9:List aN} (H:Sep w (Blk p1 75 [v20,v21,v22,v8,v23,v24,v25,v26,v27]::Fo) rs) (hr28:rSl bG v8 l9 ∈ rs) {r:(List aN)} (hm:uF l9=some r) :
    Calls Tryz.prog 17 [pt p1 0].toArray w (Ret fun v w'=>∃ y1,y1=v∧Sep w' (Row 103 bG y1 r::Blk p1 75 [v20,v21,v22,v8,v23,v24,v25,v26,v27]::Fo) (rs)):=by
 unfold uF at hm
 refine ent Tryz.func17 rfl Tryz.ntmps17 rfl rfl fun a E=>sq<|pr 1 E rfl fun a E=>nx<|pr 3 E rfl fun a E=>lb E H 0 rfl rfl rfl rfl rfl rfl rfl U62 rfl fun a E=>bk hm fun hx31 hm=>aU E (wn rfl) rfl rfl (cC E rfl rfl (Kv _)) (iS H hr28 hx31) fun v29 w H a E=>pr 1 E rfl fun a E=>?_
 refine nt<|wp_ret<|aY E rfl rfl<|?_
 cases hm
 exact ⟨_,rfl,H.reads Y0⟩

def sW (l7:List aH):Option (List aH):=
  (ck (l7.length ≤ LIM)).bind fun u30=>some (l7)
theorem I5 {w:World} {Fo:List Ob} {rs:List Rp} {p1:Nat} {v6 v20 v21 v22 v23 v24 v25 v26 v27:Value} {l7:List aH} (H:Sep w (Blk p1 75 [v20,v21,v6,v22,v23,v24,v25,v26,v27]::Fo) rs) (hr28:rSl aS v6 l7 ∈ rs) {r:(List aH)} (hm:sW l7=some r) :
    Calls Tryz.prog 19 [pt p1 0].toArray w (Ret fun v w'=>∃ y1,y1=v∧Sep w' (Row 31 aS y1 r::Blk p1 75 [v20,v21,v6,v22,v23,v24,v25,v26,v27]::Fo) (rs)):=by
 unfold sW at hm
 refine ent Tryz.func19 rfl Tryz.ntmps19 rfl rfl fun a E=>sq<|pr 1 E rfl fun a E=>nx<|pr 3 E rfl fun a E=>lb E H 0 rfl rfl rfl rfl rfl rfl rfl U32 rfl fun a E=>bk hm fun hx31 hm=>aU E (wn rfl) rfl rfl (cC E rfl rfl (Rn _)) (mC H hr28 hx31) fun v29 w H a E=>pr 1 E rfl fun a E=>?_
 refine nt<|wp_ret<|aY E rfl rfl<|?_
 cases hm
 exact ⟨_,rfl,H.reads Y0⟩

def kJ (l3:List aE) (l5:List aI):Option bB:=
  (ck (l3.length ≤ LIM)).bind fun u31=>(ck (l5.length ≤ LIM)).bind fun u34=>some ((⟨l3,l5⟩:bB))
theorem zO {w:World} {Fo:List Ob} {rs:List Rp} {p1:Nat} {v2 v4 v20 v21 v22 v23 v24 v25 v26:Value} {l3:List aE} {l5:List aI} (H:Sep w (Blk p1 75 [v2,v4,v20,v21,v22,v23,v24,v25,v26]::Fo) rs) (hr27:rSl aF v2 l3 ∈ rs) (hr28:rSl aJ v4 l5 ∈ rs) {r:bB} (hm:kJ l3 l5=some r) :
    Calls Tryz.prog 13 [pt p1 0].toArray w (Ret fun v w'=>∃ y2 y3,.agg #[y2,y3]=v∧Sep w' (Blk p1 75 [v2,v4,v20,v21,v22,v23,v24,v25,v26]::Fo) (rSl aF y2 r.Nodes::rSl aJ y3 r.Turns::rs)):=by
 unfold kJ at hm
 refine ent Tryz.func13 rfl Tryz.ntmps13 rfl rfl fun a E=>sq<|al E H rfl rfl rfl rfl jN fun p29 w a H E=>nt<|wp_seq<|dw [(0,0),(1,0),(2,0),(3,0),(4,0),(6,0),(7,0),(8,0),(9,0),(10,0),(5,1),(11,1),(12,0),(13,2)] [1] [] H (by kernel_rfl) (fun _ _ _ h=>False.elim h.2) fun w W0 hI H=>fn 4 E rfl fun a E=>fb E rfl (wn rfl) rfl rfl rfl rfl m0 rfl U22 rfl fun a E=>fn 4 E rfl fun a E=>?_
 refine fb E rfl (wn rfl) rfl rfl rfl rfl m0 rfl U23 rfl fun a E=>bZ rfl<|bk hm fun hx32 hm=>aU E (wn rfl) rfl rfl (cC E rfl rfl (Re _)) (nE H hr27 hx32) fun v30 w H a E=>nt<|?_
 refine ⟨⟨_,_,H,(aB mm2 (aL)),(aM)⟩,?_⟩
 refine bZ rfl<|bk hm fun hx35 hm=>aU E (wn rfl) rfl rfl (cC E rfl rfl (Rf _)) (nF H hr28 hx35) fun v33 w H a E=>nt<|?_
 refine ⟨⟨_,_,H,(aB mm3 (aL)),(aM)⟩,?_⟩
 obtain ⟨q36,x37,rfl⟩:=H.rowform (i:=1) rfl
 obtain ⟨q38,x39,rfl⟩:=H.rowform (i:=0) rfl
 refine bW E rfl (wn rfl) rfl rfl (fun w hW=>(cI E rfl (E.evs rfl) (v:=.agg #[(.slice q36 l3.length x37),(.slice q38 l5.length x39)]) (by kernel_rfl))) fun a E=>?_
 refine bQ rfl<|aZ (i:=2) E H (wn rfl) rfl rfl rfl rfl rfl rfl dA rfl rfl fun w H=>nt<|bR<|?_
 clear hI
 refine aC<|wp_ret<|dH E rfl (cV (i:=2) (us:=[(.slice q36 l3.length x37),(.slice q38 l5.length x39)]) H rfl rfl rfl U25 rfl dA)<|have H:=H.thaw (i:=1) rfl;have H:=H.thaw (i:=0) rfl;have H:=H.drop 0;?_
 cases hm
 exact ⟨_,_,rfl,H.reads (aA mm1 (aA m0 (fun r hr=>(t2 hr))))⟩

def vI:Option Bool:=
  uX.bind fun u2=>S9 u2 (some (false)) fun u11=>(hC (ByteArray.mk #[47,97])).bind fun u12=>(eO u11.1 u11.2.1 u11.2.2 ([]:List aN) ([]:List aK) ([]:List aD) [] [] [] (⟨1,1,0,0,false,u12,(ByteArray.mk #[]),0,0,(⟨[],[]⟩:bB),[],(⟨0,0,(ByteArray.mk #[]),false⟩:aK)⟩:bA)).bind fun u17=>(hC (ByteArray.mk #[47,97])).bind fun u32=>(eO u17.2.1 u17.2.2.1 u17.2.2.2.1 u17.2.2.2.2.1 u17.2.2.2.2.2.1 u17.2.2.2.2.2.2.1 u17.2.2.2.2.2.2.2.1 u17.2.2.2.2.2.2.2.2.1 u17.2.2.2.2.2.2.2.2.2 (⟨1,1,0,0,false,u32,(ByteArray.mk #[]),0,0,(⟨[],[]⟩:bB),[],(⟨0,0,(ByteArray.mk #[]),false⟩:aK)⟩:bA)).bind fun u37=>(hC (ByteArray.mk #[47,97,47,98])).bind fun u52=>(eO u37.2.1 u37.2.2.1 u37.2.2.2.1 u37.2.2.2.2.1 u37.2.2.2.2.2.1 u37.2.2.2.2.2.2.1 u37.2.2.2.2.2.2.2.1 u37.2.2.2.2.2.2.2.2.1 u37.2.2.2.2.2.2.2.2.2 (⟨2,0,5,1,false,u52,(ByteArray.mk #[]),0,0,(⟨[],[]⟩:bB),[],(⟨0,0,(ByteArray.mk #[]),false⟩:aK)⟩:bA)).bind fun u57=>(hC (ByteArray.mk #[47,97,47,99])).bind fun u72=>(eO u57.2.1 u57.2.2.1 u57.2.2.2.1 u57.2.2.2.2.1 u57.2.2.2.2.2.1 u57.2.2.2.2.2.2.1 u57.2.2.2.2.2.2.2.1 u57.2.2.2.2.2.2.2.2.1 u57.2.2.2.2.2.2.2.2.2 (⟨1,2,0,0,false,u72,(ByteArray.mk #[]),0,0,(⟨[],[]⟩:bB),[],(⟨0,0,(ByteArray.mk #[]),false⟩:aK)⟩:bA)).bind fun u77=>(eO u77.2.1 u77.2.2.1 u77.2.2.2.1 u77.2.2.2.2.1 u77.2.2.2.2.2.1 u77.2.2.2.2.2.2.1 u77.2.2.2.2.2.2.2.1 u77.2.2.2.2.2.2.2.2.1 u77.2.2.2.2.2.2.2.2.2 (⟨3,0,5,0,true,[],(ByteArray.mk #[]),0,0,(⟨[],[]⟩:bB),[],(⟨0,0,(ByteArray.mk #[]),false⟩:aK)⟩:bA)).bind fun u92=>(eO u92.2.1 u92.2.2.1 u92.2.2.2.1 u92.2.2.2.2.1 u92.2.2.2.2.2.1 u92.2.2.2.2.2.2.1 u92.2.2.2.2.2.2.2.1 u92.2.2.2.2.2.2.2.2.1 u92.2.2.2.2.2.2.2.2.2 (⟨5,0,0,0,false,[],(ByteArray.mk #[47,97]),1,0,(⟨[],[]⟩:bB),[],(⟨0,0,(ByteArray.mk #[]),false⟩:aK)⟩:bA)).bind fun u107=>(hC (ByteArray.mk #[47,97,47,100])).bind fun u122=>(eO u107.2.1 u107.2.2.1 u107.2.2.2.1 u107.2.2.2.2.1 u107.2.2.2.2.2.1 u107.2.2.2.2.2.2.1 u107.2.2.2.2.2.2.2.1 u107.2.2.2.2.2.2.2.2.1 u107.2.2.2.2.2.2.2.2.2 (⟨1,3,0,0,false,u122,(ByteArray.mk #[]),0,0,(⟨[],[]⟩:bB),[],(⟨0,0,(ByteArray.mk #[]),false⟩:aK)⟩:bA)).bind fun u127=>if (u17.1.Err == 0)=true then (if (u37.1.Err == 0)=true then (if ((u37.1.Results.length:Int) == 2)=true then (if u57.1.Yes=true then (if (u77.1.Err == 131)=true then (if (u92.1.Err == 0)=true then ((kJ u127.2.1 u127.2.2.1).bind fun u148=>if ((u148.Nodes.length:Int) == 3)=true then (if (u107.1.Epoch == 1)=true then (if ((u107.1.Store.Nodes.length:Int) == 1)=true then (if (u127.1.Err == 131)=true then ((sW u127.2.2.2.1).bind fun u156=>if ((u156.length:Int) == 2)=true then ((uF u127.2.2.2.2.1).bind fun u160=>if ((u160.length:Int) == 0)=true then ((f9 (⟨[],[]⟩:bB) ([(⟨(ByteArray.mk #[]),0,0⟩:aH)]:List aH)).bind fun u165=>S9 u165 (some (true)) fun u174=>some (false)) else (some (false))) else (some (false))) else (some (false))) else (some (false))) else (some (false))) else (some (false))) else (some (false))) else (some (false))) else (some (false))) else (some (false))) else (some (false))) else (some (false))
theorem N8 {w:World} {Fo:List Ob} {rs:List Rp} (H:Sep w (Fo) rs) (hr1:xU Tryz.prog ∈ rs) {r:Bool} (hm:vI=some r) :
    Calls Tryz.prog 6 [].toArray w (Ret fun v w'=>.bool r=v∧Sep w' (Fo) (rs)):=by
 unfold vI at hm
 refine ent Tryz.func6 rfl Tryz.ntmps6 rfl rfl fun a E=>sq<|pr 1 E rfl fun a E=>nx<|bd hm fun u2 hx3 hm=>cG E rfl rfl rfl rfl rfl Pa (i7 H hx3)<|?_
 rintro _ w (⟨rfl,rfl,H⟩ | ⟨u11,rfl,p4,v5,v6,v7,p8,p9,p10,rfl,H⟩) a E
 ·replace hm:=Z1 hm
  refine pr 1 E rfl fun a E=>nt<|wp_seq<|sq<|pr 1 E rfl fun a E=>sv E rfl rfl rfl (sY E rfl rfl rfl (v:=.bool true) (by kernel_rfl)) fun a E=>nt<|wp_cond_true (E.eval rfl)<|sq<|?_
  refine pr 1 E rfl fun a E=>nt<|wp_ret<|aP<|aY E rfl rfl<|?_
  cases hm
  exact ⟨rfl,H.reads Y0⟩
 ·replace hm:=Z2 hm
  refine pr 1 E rfl fun a E=>nt<|wp_seq<|sq<|pr 1 E rfl fun a E=>sv E rfl rfl rfl (sY E rfl rfl rfl (v:=.bool false) (by kernel_rfl)) fun a E=>nt<|wp_cond_false (E.eval rfl)<|wp_skip<|?_
  refine aC<|sq<|pr 1 E rfl fun a E=>bd hm fun u12 hx13 hm=>cG E rfl rfl rfl rfl rfl Ei (lT H hx13)<|?_
  rintro _ w ⟨v14,rfl,H⟩ a E
  obtain ⟨q15,x16,rfl⟩:=H.rowform (i:=0) rfl
  refine sv E rfl rfl rfl (cI E rfl (E.evs rfl) (v:=.agg #[.int .i64 1,.int .i64 1,.int .i64 0,.int .i64 0,.bool false,(.slice q15 u12.length x16),.string (ByteArray.mk #[]),.int .i64 0,.int .i64 0,.slice none 0 0,.slice none 0 0,.slice none 0 0,.int .i64 0,.int .i64 0,.string (ByteArray.mk #[]),.bool false]) (by kernel_rfl)) fun a E=>have H:=H.thaw (i:=0) rfl;have H:=H.nilSl aF;have H:=H.nilSl aJ;have H:=H.nilSl kS;have H:=H.nilSl bG;have H:=H.nilSl aX;have H:=H.nilSl aO;bd hm fun u17 hx18 hm=>?_
  refine cG E rfl rfl rfl rfl rfl L5 (jJ (x20:=(⟨1,1,0,0,false,u12,(ByteArray.mk #[]),0,0,(⟨[],[]⟩:bB),[],(⟨0,0,(ByteArray.mk #[]),false⟩:aK)⟩:bA)) H (t1 mm6) (t2 mm6) (t3 mm6) mm2 mm1 m0 mm6 mm5 mm4 mm3 (t2 (t8 hr1)) hx18)<|?_
  rintro _ w ⟨v19,v20,v21,v22,v23,v24,v25,v26,v27,v28,v29,v30,rfl,H⟩ a E
  refine al E H rfl rfl rfl rfl gN fun p31 w a H E=>aZ (i:=0) E H (wn rfl) rfl rfl rfl rfl rfl rfl bU rfl (bF H m0 mm1 mm2 mm3 mm4 mm5) fun w H=>?_
  replace H:Sep w (Blk p31 48 (bC u17.1 v19 v20 v21 v22 v23 v24)::Blk p4 75 [v25,v26,v27,v28,v29,v30,.map (some p8),.map (some p9),.map (some p10)]::cB Tryz.prog 2 (kyI .i64) bI true p8 u17.2.2.2.2.2.2.2.1::cB Tryz.prog 2 (kyI .i64) cQ true p9 u17.2.2.2.2.2.2.2.2.1::cB Tryz.prog 2 (kyI .i64) bI true p10 u17.2.2.2.2.2.2.2.2.2::Fo) _:=H
  refine nx<|pr 1 E rfl fun a E=>bd hm fun u32 hx33 hm=>cG E rfl rfl rfl rfl rfl Ei (lT H hx33)<|?_
  rintro _ w ⟨v34,rfl,H⟩ a E
  obtain ⟨q35,x36,rfl⟩:=H.rowform (i:=0) rfl
  refine sv E rfl rfl rfl (cI E rfl (E.evs rfl) (v:=.agg #[.int .i64 1,.int .i64 1,.int .i64 0,.int .i64 0,.bool false,(.slice q35 u32.length x36),.string (ByteArray.mk #[]),.int .i64 0,.int .i64 0,.slice none 0 0,.slice none 0 0,.slice none 0 0,.int .i64 0,.int .i64 0,.string (ByteArray.mk #[]),.bool false]) (by kernel_rfl)) fun a E=>have H:=H.thaw (i:=0) rfl;have H:=H.nilSl aF;have H:=H.nilSl aJ;have H:=H.nilSl kS;have H:=H.frs [0,4,4,4,4] rfl;bd hm fun u37 hx38 hm=>cG E rfl rfl rfl rfl rfl L5 (jJ (x20:=(⟨1,1,0,0,false,u32,(ByteArray.mk #[]),0,0,(⟨[],[]⟩:bB),[],(⟨0,0,(ByteArray.mk #[]),false⟩:aK)⟩:bA)) H (t4 mm6) (t5 mm6) (t6 mm6) (t7 mm6) (t8 mm6) (t1 (t8 mm6)) mm3 mm2 mm1 m0 (t2 (t8 (t8 (t8 hr1)))) hx38)<|?_
  rintro _ w ⟨v39,v40,v41,v42,v43,v44,v45,v46,v47,v48,v49,v50,rfl,H⟩ a E
  refine al E H rfl rfl rfl rfl gN fun p51 w a H E=>aZ (i:=0) E H (wn rfl) rfl rfl rfl rfl rfl rfl bU rfl (bF H m0 mm1 mm2 mm3 mm4 mm5) fun w H=>nx<|pr 1 E rfl fun a E=>bd hm fun u52 hx53 hm=>cG E rfl rfl rfl rfl rfl Ei (lT H hx53)<|?_
  rintro _ w ⟨v54,rfl,H⟩ a E
  obtain ⟨q55,x56,rfl⟩:=H.rowform (i:=0) rfl
  refine sv E rfl rfl rfl (cI E rfl (E.evs rfl) (v:=.agg #[.int .i64 2,.int .i64 0,.int .i64 5,.int .i64 1,.bool false,(.slice q55 u52.length x56),.string (ByteArray.mk #[]),.int .i64 0,.int .i64 0,.slice none 0 0,.slice none 0 0,.slice none 0 0,.int .i64 0,.int .i64 0,.string (ByteArray.mk #[]),.bool false]) (by kernel_rfl)) fun a E=>have H:=H.thaw (i:=0) rfl;have H:=H.nilSl aF;have H:=H.nilSl aJ;have H:=H.nilSl kS;have H:=H.frs [5,1,5,5,5,5] rfl;bd hm fun u57 hx58 hm=>cG E rfl rfl rfl rfl rfl L5 (jJ (x20:=(⟨2,0,5,1,false,u52,(ByteArray.mk #[]),0,0,(⟨[],[]⟩:bB),[],(⟨0,0,(ByteArray.mk #[]),false⟩:aK)⟩:bA)) H (t4 mm6) (t5 mm6) (t6 mm6) (t7 mm6) (t8 mm6) (t1 (t8 mm6)) mm3 mm2 mm1 m0 (t2 (t8 (t8 (t8 (t8 (t8 hr1)))))) hx58)<|?_
  rintro _ w ⟨v59,v60,v61,v62,v63,v64,v65,v66,v67,v68,v69,v70,rfl,H⟩ a E
  refine al E H rfl rfl rfl rfl gN fun p71 w a H E=>aZ (i:=0) E H (wn rfl) rfl rfl rfl rfl rfl rfl bU rfl (bF H m0 mm1 mm2 mm3 mm4 mm5) fun w H=>nx<|pr 1 E rfl fun a E=>bd hm fun u72 hx73 hm=>cG E rfl rfl rfl rfl rfl Ei (lT H hx73)<|?_
  rintro _ w ⟨v74,rfl,H⟩ a E
  obtain ⟨q75,x76,rfl⟩:=H.rowform (i:=0) rfl
  refine sv E rfl rfl rfl (cI E rfl (E.evs rfl) (v:=.agg #[.int .i64 1,.int .i64 2,.int .i64 0,.int .i64 0,.bool false,(.slice q75 u72.length x76),.string (ByteArray.mk #[]),.int .i64 0,.int .i64 0,.slice none 0 0,.slice none 0 0,.slice none 0 0,.int .i64 0,.int .i64 0,.string (ByteArray.mk #[]),.bool false]) (by kernel_rfl)) fun a E=>have H:=H.thaw (i:=0) rfl;have H:=H.nilSl aF;have H:=H.nilSl aJ;have H:=H.nilSl kS;have H:=H.frs [6,6,2,6,6,6,6] rfl;?_
  replace H:Sep w (Blk p4 75 [v65,v66,v67,v68,v69,v70,.map (some p8),.map (some p9),.map (some p10)]::cB Tryz.prog 2 (kyI .i64) bI true p8 u57.2.2.2.2.2.2.2.1::cB Tryz.prog 2 (kyI .i64) cQ true p9 u57.2.2.2.2.2.2.2.2.1::cB Tryz.prog 2 (kyI .i64) bI true p10 u57.2.2.2.2.2.2.2.2.2::Blk p71 48 (bC u57.1 v59 v60 v61 v62 v63 v64)::Blk p51 48 (bC u37.1 v39 v40 v41 v42 v43 v44)::Blk p31 48 (bC u17.1 v19 v20 v21 v22 v23 v24)::Fo) (rSl kS (.slice none 0 0) ([]:List ByteArray)::rSl aJ (.slice none 0 0) ([]:List aI)::rSl aF (.slice none 0 0) ([]:List aE)::rSl cE (.slice q75 u72.length x76) u72::rSl bE v59 u57.1.Results::rSl aF v60 u57.1.Store.Nodes::rSl aJ v61 u57.1.Store.Turns::rSl aV v62 u57.1.Events::rSl bL v63 u57.1.Mounts::rSl (kI .i64) v64 u57.1.Wounded::rSl aF v65 u57.2.1::rSl aJ v66 u57.2.2.1::rSl aS v67 u57.2.2.2.1::rSl bG v68 u57.2.2.2.2.1::rSl aX v69 u57.2.2.2.2.2.1::rSl aO v70 u57.2.2.2.2.2.2.1::rSl kS (.slice none 0 0) ([]:List ByteArray)::rSl aJ (.slice none 0 0) ([]:List aI)::rSl aF (.slice none 0 0) ([]:List aE)::rSl cE (.slice q55 u52.length x56) u52::rSl bE v39 u37.1.Results::rSl aF v40 u37.1.Store.Nodes::rSl aJ v41 u37.1.Store.Turns::rSl aV v42 u37.1.Events::rSl bL v43 u37.1.Mounts::rSl (kI .i64) v44 u37.1.Wounded::rSl aF v45 u37.2.1::rSl aJ v46 u37.2.2.1::rSl aS v47 u37.2.2.2.1::rSl bG v48 u37.2.2.2.2.1::rSl aX v49 u37.2.2.2.2.2.1::rSl aO v50 u37.2.2.2.2.2.2.1::rSl kS (.slice none 0 0) ([]:List ByteArray)::rSl aJ (.slice none 0 0) ([]:List aI)::rSl aF (.slice none 0 0) ([]:List aE)::rSl cE (.slice q35 u32.length x36) u32::rSl bE v19 u17.1.Results::rSl aF v20 u17.1.Store.Nodes::rSl aJ v21 u17.1.Store.Turns::rSl aV v22 u17.1.Events::rSl bL v23 u17.1.Mounts::rSl (kI .i64) v24 u17.1.Wounded::rSl aF v25 u17.2.1::rSl aJ v26 u17.2.2.1::rSl aS v27 u17.2.2.2.1::rSl bG v28 u17.2.2.2.2.1::rSl aX v29 u17.2.2.2.2.2.1::rSl aO v30 u17.2.2.2.2.2.2.1::rSl aO (.slice none 0 0) ([]:List aD)::rSl aX (.slice none 0 0) ([]:List aK)::rSl bG (.slice none 0 0) ([]:List aN)::rSl kS (.slice none 0 0) ([]:List ByteArray)::rSl aJ (.slice none 0 0) ([]:List aI)::rSl aF (.slice none 0 0) ([]:List aE)::rSl cE (.slice q15 u12.length x16) u12::rSl aF v5 u11.1::rSl aJ v6 u11.2.1::rSl aS v7 u11.2.2::rs):=H
  refine bd hm fun u77 hx78 hm=>cG E rfl rfl rfl rfl rfl L5 (jJ (x20:=(⟨1,2,0,0,false,u72,(ByteArray.mk #[]),0,0,(⟨[],[]⟩:bB),[],(⟨0,0,(ByteArray.mk #[]),false⟩:aK)⟩:bA)) H (t4 mm6) (t5 mm6) (t6 mm6) (t7 mm6) (t8 mm6) (t1 (t8 mm6)) mm3 mm2 mm1 m0 (t2 (t8 (t8 (t8 (t8 (t8 (t8 (t8 hr1)))))))) hx78)<|?_
  rintro _ w ⟨v79,v80,v81,v82,v83,v84,v85,v86,v87,v88,v89,v90,rfl,H⟩ a E
  refine al E H rfl rfl rfl rfl gN fun p91 w a H E=>aZ (i:=0) E H (wn rfl) rfl rfl rfl rfl rfl rfl bU rfl (bF H m0 mm1 mm2 mm3 mm4 mm5) fun w H=>nx<|pr 1 E rfl fun a E=>sv E rfl rfl rfl (cI E rfl (E.evs rfl) (v:=.agg #[.int .i64 3,.int .i64 0,.int .i64 5,.int .i64 0,.bool true,.slice none 0 0,.string (ByteArray.mk #[]),.int .i64 0,.int .i64 0,.slice none 0 0,.slice none 0 0,.slice none 0 0,.int .i64 0,.int .i64 0,.string (ByteArray.mk #[]),.bool false]) (by kernel_rfl)) fun a E=>have H:=H.nilSl cE;have H:=H.nilSl aF;have H:=H.nilSl aJ;have H:=H.nilSl kS;?_
  refine have H:=H.frs [7,7,7,3,7,7,7,7] rfl;bd hm fun u92 hx93 hm=>cG E rfl rfl rfl rfl rfl L5 (jJ (x20:=(⟨3,0,5,0,true,[],(ByteArray.mk #[]),0,0,(⟨[],[]⟩:bB),[],(⟨0,0,(ByteArray.mk #[]),false⟩:aK)⟩:bA)) H (t4 mm6) (t5 mm6) (t6 mm6) (t7 mm6) (t8 mm6) (t1 (t8 mm6)) mm3 mm2 mm1 m0 (t2 (t8 (t8 (t8 (t8 (t8 (t8 (t8 (t8 (t8 hr1)))))))))) hx93)<|?_
  rintro _ w ⟨v94,v95,v96,v97,v98,v99,v100,v101,v102,v103,v104,v105,rfl,H⟩ a E
  refine al E H rfl rfl rfl rfl gN fun p106 w a H E=>aZ (i:=0) E H (wn rfl) rfl rfl rfl rfl rfl rfl bU rfl (bF H m0 mm1 mm2 mm3 mm4 mm5) fun w H=>nx<|pr 1 E rfl fun a E=>sv E rfl rfl rfl (cI E rfl (E.evs rfl) (v:=.agg #[.int .i64 5,.int .i64 0,.int .i64 0,.int .i64 0,.bool false,.slice none 0 0,.string (ByteArray.mk #[47,97]),.int .i64 1,.int .i64 0,.slice none 0 0,.slice none 0 0,.slice none 0 0,.int .i64 0,.int .i64 0,.string (ByteArray.mk #[]),.bool false]) (by kernel_rfl)) fun a E=>have H:=H.nilSl cE;have H:=H.nilSl aF;have H:=H.nilSl aJ;have H:=H.nilSl kS;?_
  refine have H:=H.frs [8,8,8,8,4,8,8,8,8] rfl;bd hm fun u107 hx108 hm=>cG E rfl rfl rfl rfl rfl L5 (jJ (x20:=(⟨5,0,0,0,false,[],(ByteArray.mk #[47,97]),1,0,(⟨[],[]⟩:bB),[],(⟨0,0,(ByteArray.mk #[]),false⟩:aK)⟩:bA)) H (t4 mm6) (t5 mm6) (t6 mm6) (t7 mm6) (t8 mm6) (t1 (t8 mm6)) mm3 mm2 mm1 m0 (t2 (t8 (t8 (t8 (t8 (t8 (t8 (t8 (t8 (t8 (t8 (t8 hr1)))))))))))) hx108)<|?_
  rintro _ w ⟨v109,v110,v111,v112,v113,v114,v115,v116,v117,v118,v119,v120,rfl,H⟩ a E
  refine al E H rfl rfl rfl rfl gN fun p121 w a H E=>aZ (i:=0) E H (wn rfl) rfl rfl rfl rfl rfl rfl bU rfl (bF H m0 mm1 mm2 mm3 mm4 mm5) fun w H=>?_
  replace H:Sep w (Blk p121 48 (bC u107.1 v109 v110 v111 v112 v113 v114)::Blk p4 75 [v115,v116,v117,v118,v119,v120,.map (some p8),.map (some p9),.map (some p10)]::cB Tryz.prog 2 (kyI .i64) bI true p8 u107.2.2.2.2.2.2.2.1::cB Tryz.prog 2 (kyI .i64) cQ true p9 u107.2.2.2.2.2.2.2.2.1::cB Tryz.prog 2 (kyI .i64) bI true p10 u107.2.2.2.2.2.2.2.2.2::Blk p106 48 (bC u92.1 v94 v95 v96 v97 v98 v99)::Blk p91 48 (bC u77.1 v79 v80 v81 v82 v83 v84)::Blk p71 48 (bC u57.1 v59 v60 v61 v62 v63 v64)::Blk p51 48 (bC u37.1 v39 v40 v41 v42 v43 v44)::Blk p31 48 (bC u17.1 v19 v20 v21 v22 v23 v24)::Fo) _:=H
  refine nx<|pr 1 E rfl fun a E=>bd hm fun u122 hx123 hm=>cG E rfl rfl rfl rfl rfl Ei (lT H hx123)<|?_
  rintro _ w ⟨v124,rfl,H⟩ a E
  obtain ⟨q125,x126,rfl⟩:=H.rowform (i:=0) rfl
  refine sv E rfl rfl rfl (cI E rfl (E.evs rfl) (v:=.agg #[.int .i64 1,.int .i64 3,.int .i64 0,.int .i64 0,.bool false,(.slice q125 u122.length x126),.string (ByteArray.mk #[]),.int .i64 0,.int .i64 0,.slice none 0 0,.slice none 0 0,.slice none 0 0,.int .i64 0,.int .i64 0,.string (ByteArray.mk #[]),.bool false]) (by kernel_rfl)) fun a E=>have H:=H.thaw (i:=0) rfl;have H:=H.nilSl aF;have H:=H.nilSl aJ;have H:=H.nilSl kS;have H:=H.frs [9,9,9,9,9,5,9,9,9,9] rfl;bd hm fun u127 hx128 hm=>cG E rfl rfl rfl rfl rfl L5 (jJ (x20:=(⟨1,3,0,0,false,u122,(ByteArray.mk #[]),0,0,(⟨[],[]⟩:bB),[],(⟨0,0,(ByteArray.mk #[]),false⟩:aK)⟩:bA)) H (t4 mm6) (t5 mm6) (t6 mm6) (t7 mm6) (t8 mm6) (t1 (t8 mm6)) mm3 mm2 mm1 m0 (t2 (t8 (t8 (t8 (t8 (t8 (t8 (t8 (t8 (t8 (t8 (t8 (t8 (t8 hr1)))))))))))))) hx128)<|?_
  rintro _ w ⟨v129,v130,v131,v132,v133,v134,v135,v136,v137,v138,v139,v140,rfl,H⟩ a E
  refine al E H rfl rfl rfl rfl gN fun p141 w a H E=>aZ (i:=0) E H (wn rfl) rfl rfl rfl rfl rfl rfl bU rfl (bF H m0 mm1 mm2 mm3 mm4 mm5) fun w H=>nx<|pr 1 E rfl fun a E=>lb E H 10 rfl rfl rfl rfl rfl rfl rfl U41 rfl fun a E=>pr 2 E rfl fun a E=>cs hm (fun hb142 hm=>?_) fun hb142 hm=>?_
  ·refine pk 1 E (kc 41 rfl hb142) rfl fun a E=>aQ E (ws' (d:=41) E rfl rfl rfl rfl hb142) rfl rfl (cD (i:=9) E H rfl rfl rfl rfl U41 rfl) fun a E=>pk 3 E (kc 41 rfl hb142) rfl fun a E=>cs hm (fun hb143 hm=>?_) fun hb143 hm=>?_
   ·refine pk 1 E (kc 46 rfl hb143) rfl fun a E=>aQ E (ws' (d:=46) E rfl rfl rfl rfl hb143) rfl rfl (cD (i:=9) E H rfl rfl rfl rfl U40 rfl) fun a E=>aQ E (ws' (d:=46) E rfl rfl rfl rfl hb143) rfl rfl (cR E H rfl rfl (t2 (t8 (t8 (t8 (t8 (t8 (t8 (t8 (t8 (t8 mm6)))))))))) U40) fun a E=>pk 3 E (kc 46 rfl hb143) rfl fun a E=>cs hm (fun hb144 hm=>?_) fun hb144 hm=>?_
    ·refine pk 1 E (kc 52 rfl hb144) rfl fun a E=>aQ E (ws' (d:=52) E rfl rfl rfl rfl hb144) rfl rfl (cD (i:=8) E H rfl rfl rfl rfl U4 rfl) fun a E=>pk 2 E (kc 52 rfl hb144) rfl fun a E=>cs hm (fun hb145 hm=>?_) fun hb145 hm=>?_
     ·refine pk 1 E (kc 56 rfl hb145) rfl fun a E=>aQ E (ws' (d:=56) E rfl rfl rfl rfl hb145) rfl rfl (cD (i:=7) E H rfl rfl rfl rfl U41 rfl) fun a E=>pk 3 E (kc 56 rfl hb145) rfl fun a E=>cs hm (fun hb146 hm=>?_) fun hb146 hm=>?_
      ·refine pk 1 E (kc 61 rfl hb146) rfl fun a E=>aQ E (ws' (d:=61) E rfl rfl rfl rfl hb146) rfl rfl (cD (i:=6) E H rfl rfl rfl rfl U41 rfl) fun a E=>pk 3 E (kc 61 rfl hb146) rfl fun a E=>cs hm (fun hb147 hm=>?_) fun hb147 hm=>?_
       ·refine pk 1 E (kc 66 rfl hb147) rfl fun a E=>have H:=H.frs [10,10,10,10,10,10,10,10,10,9,10] rfl;bd hm fun u148 hx149 hm=>aU E (ws' (d:=66) E rfl rfl rfl rfl hb147) rfl rfl (cC E rfl rfl (Rz _)) (zO H mm6 (t1 mm6) hx149)<|?_
        rintro _ w ⟨v150,v151,rfl,H⟩ a E
        refine aQ E (ws' (d:=66) E rfl rfl rfl rfl hb147) rfl rfl (Fx E rfl rfl (v:=v150) (by kernel_rfl)) fun a E=>aQ E (ws' (d:=66) E rfl rfl rfl rfl hb147) rfl rfl (cR E H rfl rfl m0 U22) fun a E=>pk 3 E (kc 66 rfl hb147) rfl fun a E=>cs hm (fun hb152 hm=>?_) fun hb152 hm=>?_
        ·refine pk 1 E (kc 73 rfl hb152) rfl fun a E=>aQ E (ws' (d:=73) E rfl rfl rfl rfl hb152) rfl rfl (cD (i:=5) E H rfl rfl rfl rfl U2 rfl) fun a E=>pk 3 E (kc 73 rfl hb152) rfl fun a E=>cs hm (fun hb153 hm=>?_) fun hb153 hm=>?_
         ·refine pk 2 E (kc 78 rfl hb153) rfl fun a E=>aQ E (ws' (d:=78) E rfl rfl rfl rfl hb153) rfl rfl (cD (i:=5) E H rfl rfl rfl rfl U22 rfl) fun a E=>aQ E (ws' (d:=78) E rfl rfl rfl rfl hb153) rfl rfl (cR E H rfl rfl (t5 (t8 mm6)) U22) fun a E=>pk 3 E (kc 78 rfl hb153) rfl fun a E=>cs hm (fun hb154 hm=>?_) fun hb154 hm=>?_
          ·refine pk 1 E (kc 85 rfl hb154) rfl fun a E=>aQ E (ws' (d:=85) E rfl rfl rfl rfl hb154) rfl rfl (cD (i:=1) E H rfl rfl rfl rfl U41 rfl) fun a E=>pk 3 E (kc 85 rfl hb154) rfl fun a E=>cs hm (fun hb155 hm=>?_) fun hb155 hm=>?_
           ·refine pk 1 E (kc 90 rfl hb155) rfl fun a E=>bd hm fun u156 hx157 hm=>aU E (ws' (d:=90) E rfl rfl rfl rfl hb155) rfl rfl (cC E rfl rfl (Zg _)) (I5 H (t4 mm6) hx157)<|?_
            rintro _ w ⟨v158,rfl,H⟩ a E
            refine aQ E (ws' (d:=90) E rfl rfl rfl rfl hb155) rfl rfl (iZ (i:=0) E H rfl rfl rfl U32) fun a E=>pk 3 E (kc 90 rfl hb155) rfl fun a E=>cs hm (fun hb159 hm=>?_) fun hb159 hm=>?_
            ·refine pk 1 E (kc 96 rfl hb159) rfl fun a E=>have H:=H.frs [11,11,11,11,11,11,11,11,11,11,10,11] rfl;bd hm fun u160 hx161 hm=>aU E (ws' (d:=96) E rfl rfl rfl rfl hb159) rfl rfl (cC E rfl rfl (Zh _)) (K4 H (t5 mm6) hx161)<|?_
             rintro _ w ⟨v162,rfl,H⟩ a E
             refine aQ E (ws' (d:=96) E rfl rfl rfl rfl hb159) rfl rfl (iZ (i:=0) E H rfl rfl rfl U62) fun a E=>pk 3 E (kc 96 rfl hb159) rfl fun a E=>cs hm (fun hb163 hm=>?_) fun hb163 hm=>?_
             ·refine aQ E (ws' (d:=102) E rfl rfl rfl rfl hb163) rfl rfl (cI E rfl (E.evs rfl) (v:=.agg #[.slice none 0 0,.slice none 0 0]) (by kernel_rfl)) fun a E=>aQ E (ws' (d:=102) E rfl rfl rfl rfl hb163) rfl rfl (cI E rfl (E.evs rfl) (v:=.agg Fk.toArray) (by kernel_rfl)) fun a E=>fY (e:=31) (d:=aS) (cs:=[.string (ByteArray.mk #[]),.int .i64 0,.int .i64 0]) (xs:=[(⟨(ByteArray.mk #[]),0,0⟩:aH)]) E H (ws' (d:=102) E rfl rfl rfl rfl hb163) rfl rfl rfl (E.evs rfl) (by kernel_rfl) rfl rfl (fun ok hr=>(Rows.single (d:=aS) (cs:=[.string (ByteArray.mk #[]),.int .i64 0,.int .i64 0]) (x:=(⟨(ByteArray.mk #[]),0,0⟩:aH)) rR)) fun v164 w a H E=>have H:=H.nilSl aF;have H:=H.nilSl aJ;have H:=H.thaw (i:=0) rfl;?_
              replace H:Sep w (Row 103 bG v162 u160::Blk p4 75 [v135,v136,v137,v138,v139,v140,.map (some p8),.map (some p9),.map (some p10)]::Row 31 aS v158 u156::Blk p141 48 (bC u127.1 v129 v130 v131 v132 v133 v134)::cB Tryz.prog 2 (kyI .i64) bI true p8 u127.2.2.2.2.2.2.2.1::cB Tryz.prog 2 (kyI .i64) cQ true p9 u127.2.2.2.2.2.2.2.2.1::cB Tryz.prog 2 (kyI .i64) bI true p10 u127.2.2.2.2.2.2.2.2.2::Blk p121 48 (bC u107.1 v109 v110 v111 v112 v113 v114)::Blk p106 48 (bC u92.1 v94 v95 v96 v97 v98 v99)::Blk p91 48 (bC u77.1 v79 v80 v81 v82 v83 v84)::Blk p71 48 (bC u57.1 v59 v60 v61 v62 v63 v64)::Blk p51 48 (bC u37.1 v39 v40 v41 v42 v43 v44)::Blk p31 48 (bC u17.1 v19 v20 v21 v22 v23 v24)::Fo) (rSl aS v164 ([(⟨(ByteArray.mk #[]),0,0⟩:aH)]:List aH)::rSl aJ (.slice none 0 0) ([]:List aI)::rSl aF (.slice none 0 0) ([]:List aE)::rSl aF v150 u148.Nodes::rSl aJ v151 u148.Turns::rSl bE v129 u127.1.Results::rSl aF v130 u127.1.Store.Nodes::rSl aJ v131 u127.1.Store.Turns::rSl aV v132 u127.1.Events::rSl bL v133 u127.1.Mounts::rSl (kI .i64) v134 u127.1.Wounded::rSl aF v135 u127.2.1::rSl aJ v136 u127.2.2.1::rSl aS v137 u127.2.2.2.1::rSl bG v138 u127.2.2.2.2.1::rSl aX v139 u127.2.2.2.2.2.1::rSl aO v140 u127.2.2.2.2.2.2.1::rSl kS (.slice none 0 0) ([]:List ByteArray)::rSl aJ (.slice none 0 0) ([]:List aI)::rSl aF (.slice none 0 0) ([]:List aE)::rSl cE (.slice q125 u122.length x126) u122::rSl bE v109 u107.1.Results::rSl aF v110 u107.1.Store.Nodes::rSl aJ v111 u107.1.Store.Turns::rSl aV v112 u107.1.Events::rSl bL v113 u107.1.Mounts::rSl (kI .i64) v114 u107.1.Wounded::rSl aF v115 u107.2.1::rSl aJ v116 u107.2.2.1::rSl aS v117 u107.2.2.2.1::rSl bG v118 u107.2.2.2.2.1::rSl aX v119 u107.2.2.2.2.2.1::rSl aO v120 u107.2.2.2.2.2.2.1::rSl kS (.slice none 0 0) ([]:List ByteArray)::rSl aJ (.slice none 0 0) ([]:List aI)::rSl aF (.slice none 0 0) ([]:List aE)::rSl cE (.slice none 0 0) ([]:List cF)::rSl bE v94 u92.1.Results::rSl aF v95 u92.1.Store.Nodes::rSl aJ v96 u92.1.Store.Turns::rSl aV v97 u92.1.Events::rSl bL v98 u92.1.Mounts::rSl (kI .i64) v99 u92.1.Wounded::rSl aF v100 u92.2.1::rSl aJ v101 u92.2.2.1::rSl aS v102 u92.2.2.2.1::rSl bG v103 u92.2.2.2.2.1::rSl aX v104 u92.2.2.2.2.2.1::rSl aO v105 u92.2.2.2.2.2.2.1::rSl kS (.slice none 0 0) ([]:List ByteArray)::rSl aJ (.slice none 0 0) ([]:List aI)::rSl aF (.slice none 0 0) ([]:List aE)::rSl cE (.slice none 0 0) ([]:List cF)::rSl bE v79 u77.1.Results::rSl aF v80 u77.1.Store.Nodes::rSl aJ v81 u77.1.Store.Turns::rSl aV v82 u77.1.Events::rSl bL v83 u77.1.Mounts::rSl (kI .i64) v84 u77.1.Wounded::rSl aF v85 u77.2.1::rSl aJ v86 u77.2.2.1::rSl aS v87 u77.2.2.2.1::rSl bG v88 u77.2.2.2.2.1::rSl aX v89 u77.2.2.2.2.2.1::rSl aO v90 u77.2.2.2.2.2.2.1::rSl kS (.slice none 0 0) ([]:List ByteArray)::rSl aJ (.slice none 0 0) ([]:List aI)::rSl aF (.slice none 0 0) ([]:List aE)::rSl cE (.slice q75 u72.length x76) u72::rSl bE v59 u57.1.Results::rSl aF v60 u57.1.Store.Nodes::rSl aJ v61 u57.1.Store.Turns::rSl aV v62 u57.1.Events::rSl bL v63 u57.1.Mounts::rSl (kI .i64) v64 u57.1.Wounded::rSl aF v65 u57.2.1::rSl aJ v66 u57.2.2.1::rSl aS v67 u57.2.2.2.1::rSl bG v68 u57.2.2.2.2.1::rSl aX v69 u57.2.2.2.2.2.1::rSl aO v70 u57.2.2.2.2.2.2.1::rSl kS (.slice none 0 0) ([]:List ByteArray)::rSl aJ (.slice none 0 0) ([]:List aI)::rSl aF (.slice none 0 0) ([]:List aE)::rSl cE (.slice q55 u52.length x56) u52::rSl bE v39 u37.1.Results::rSl aF v40 u37.1.Store.Nodes::rSl aJ v41 u37.1.Store.Turns::rSl aV v42 u37.1.Events::rSl bL v43 u37.1.Mounts::rSl (kI .i64) v44 u37.1.Wounded::rSl aF v45 u37.2.1::rSl aJ v46 u37.2.2.1::rSl aS v47 u37.2.2.2.1::rSl bG v48 u37.2.2.2.2.1::rSl aX v49 u37.2.2.2.2.2.1::rSl aO v50 u37.2.2.2.2.2.2.1::rSl kS (.slice none 0 0) ([]:List ByteArray)::rSl aJ (.slice none 0 0) ([]:List aI)::rSl aF (.slice none 0 0) ([]:List aE)::rSl cE (.slice q35 u32.length x36) u32::rSl bE v19 u17.1.Results::rSl aF v20 u17.1.Store.Nodes::rSl aJ v21 u17.1.Store.Turns::rSl aV v22 u17.1.Events::rSl bL v23 u17.1.Mounts::rSl (kI .i64) v24 u17.1.Wounded::rSl aF v25 u17.2.1::rSl aJ v26 u17.2.2.1::rSl aS v27 u17.2.2.2.1::rSl bG v28 u17.2.2.2.2.1::rSl aX v29 u17.2.2.2.2.2.1::rSl aO v30 u17.2.2.2.2.2.2.1::rSl aO (.slice none 0 0) ([]:List aD)::rSl aX (.slice none 0 0) ([]:List aK)::rSl bG (.slice none 0 0) ([]:List aN)::rSl kS (.slice none 0 0) ([]:List ByteArray)::rSl aJ (.slice none 0 0) ([]:List aI)::rSl aF (.slice none 0 0) ([]:List aE)::rSl cE (.slice q15 u12.length x16) u12::rSl aF v5 u11.1::rSl aJ v6 u11.2.1::rSl aS v7 u11.2.2::rs):=H
              refine bd hm fun u165 hx166 hm=>aU E (ws' (d:=102) E rfl rfl rfl rfl hb163) rfl rfl (cC E rfl rfl (cf7 _)) (S2 (x1:=(⟨[],[]⟩:bB)) H mm2 mm1 m0 hx166)<|?_
              rintro _ w (⟨rfl,rfl,H⟩ | ⟨u174,rfl,p167,v168,v169,v170,p171,p172,p173,rfl,H⟩) a E
              ·replace hm:=Z1 hm
               refine aQ E (ws' (d:=102) E rfl rfl rfl rfl hb163) rfl rfl (sY E rfl rfl rfl (v:=.bool true) (by kernel_rfl)) fun a E=>pk 2 E (kc 102 rfl hb163) rfl fun a E=>nt<|wp_ret<|aY E rfl rfl<|have H:=H.drs [0,0,0,0,0,0,0,0,0,0,0,0,0];?_
               cases hm
               exact ⟨rfl,H.reads (Y3 (Y8 (Y8 (Y8 (Y8 (Y8 (Y8 (Y8 (Y8 (Y8 (Y8 (Y8 (Y8 (Y8 (Y8 (Y8 Y0))))))))))))))))⟩
              ·replace hm:=Z2 hm
               refine aQ E (ws' (d:=102) E rfl rfl rfl rfl hb163) rfl rfl (sY E rfl rfl rfl (v:=.bool false) (by kernel_rfl)) fun a E=>pk 2 E (kc 102 rfl hb163) rfl fun a E=>nt<|wp_ret<|aY E rfl rfl<|have H:=H.drs [0,0,0,0,0,0,0,0,0,0,0,0,0,0,0,0,0];?_
               cases hm
               exact ⟨rfl,H.reads (Y6 (Y8 (Y8 (Y8 (Y8 (Y8 (Y8 (Y8 (Y8 (Y8 (Y8 (Y8 (Y8 (Y8 (Y8 (Y8 Y0))))))))))))))))⟩
             ·refine pk 7 E (kc 102 rfl hb163) rfl fun a E=>nt<|wp_ret<|aY E rfl rfl<|have H:=H.drs [0,0,0,0,0,0,0,0,0,0,0,0,0];?_
              cases hm
              exact ⟨rfl,H.reads (Y8 (Y8 (Y8 (Y8 (Y8 (Y8 (Y8 (Y8 (Y8 (Y8 (Y8 (Y8 (Y8 (Y8 (Y8 Y0)))))))))))))))⟩
            ·refine pk 13 E (kc 96 rfl hb159) rfl fun a E=>nt<|wp_ret<|aY E rfl rfl<|have H:=H.drs [0,0,0,0,0,0,0,0,0,0,0,0];?_
             cases hm
             exact ⟨rfl,H.reads (Y8 (Y8 (Y8 (Y8 (Y8 (Y8 (Y8 (Y8 (Y8 (Y8 (Y8 (Y8 (Y8 (Y8 (Y8 Y0)))))))))))))))⟩
           ·refine pk 19 E (kc 90 rfl hb155) rfl fun a E=>nt<|wp_ret<|aY E rfl rfl<|have H:=H.drs [0,0,0,0,0,0,0,0,0,0,0];?_
            cases hm
            exact ⟨rfl,H.reads (Y8 (Y8 (Y8 (Y8 (Y8 (Y8 (Y8 (Y8 (Y8 (Y8 (Y8 (Y8 (Y8 (Y8 (Y8 Y0)))))))))))))))⟩
          ·refine pk 24 E (kc 85 rfl hb154) rfl fun a E=>nt<|wp_ret<|aY E rfl rfl<|have H:=H.drs [0,0,0,0,0,0,0,0,0,0,0];?_
           cases hm
           exact ⟨rfl,H.reads (Y8 (Y8 (Y8 (Y8 (Y8 (Y8 (Y8 (Y8 (Y8 (Y8 (Y8 (Y8 (Y8 (Y8 (Y8 Y0)))))))))))))))⟩
         ·refine pk 31 E (kc 78 rfl hb153) rfl fun a E=>nt<|wp_ret<|aY E rfl rfl<|have H:=H.drs [0,0,0,0,0,0,0,0,0,0,0];?_
          cases hm
          exact ⟨rfl,H.reads (Y8 (Y8 (Y8 (Y8 (Y8 (Y8 (Y8 (Y8 (Y8 (Y8 (Y8 (Y8 (Y8 (Y8 (Y8 Y0)))))))))))))))⟩
        ·refine pk 36 E (kc 73 rfl hb152) rfl fun a E=>nt<|wp_ret<|aY E rfl rfl<|have H:=H.drs [0,0,0,0,0,0,0,0,0,0,0];?_
         cases hm
         exact ⟨rfl,H.reads (Y8 (Y8 (Y8 (Y8 (Y8 (Y8 (Y8 (Y8 (Y8 (Y8 (Y8 (Y8 (Y8 (Y8 (Y8 Y0)))))))))))))))⟩
       ·refine pk 43 E (kc 66 rfl hb147) rfl fun a E=>nt<|wp_ret<|aY E rfl rfl<|have H:=H.drs [0,0,0,0,0,0,0,0,0,0,0];?_
        cases hm
        exact ⟨rfl,H.reads (Y6 (Y8 (Y8 (Y8 (Y8 (Y8 (Y8 (Y8 (Y8 (Y8 (Y8 (Y8 (Y8 (Y8 (Y8 Y0)))))))))))))))⟩
      ·refine pk 48 E (kc 61 rfl hb146) rfl fun a E=>nt<|wp_ret<|aY E rfl rfl<|have H:=H.drs [0,0,0,0,0,0,0,0,0,0,0];?_
       cases hm
       exact ⟨rfl,H.reads (Y6 (Y8 (Y8 (Y8 (Y8 (Y8 (Y8 (Y8 (Y8 (Y8 (Y8 (Y8 (Y8 (Y8 (Y8 Y0)))))))))))))))⟩
     ·refine pk 53 E (kc 56 rfl hb145) rfl fun a E=>nt<|wp_ret<|aY E rfl rfl<|have H:=H.drs [0,0,0,0,0,0,0,0,0,0,0];?_
      cases hm
      exact ⟨rfl,H.reads (Y6 (Y8 (Y8 (Y8 (Y8 (Y8 (Y8 (Y8 (Y8 (Y8 (Y8 (Y8 (Y8 (Y8 (Y8 Y0)))))))))))))))⟩
    ·refine pk 57 E (kc 52 rfl hb144) rfl fun a E=>nt<|wp_ret<|aY E rfl rfl<|have H:=H.drs [0,0,0,0,0,0,0,0,0,0,0];?_
     cases hm
     exact ⟨rfl,H.reads (Y6 (Y8 (Y8 (Y8 (Y8 (Y8 (Y8 (Y8 (Y8 (Y8 (Y8 (Y8 (Y8 (Y8 (Y8 Y0)))))))))))))))⟩
   ·refine pk 63 E (kc 46 rfl hb143) rfl fun a E=>nt<|wp_ret<|aY E rfl rfl<|have H:=H.drs [0,0,0,0,0,0,0,0,0,0,0];?_
    cases hm
    exact ⟨rfl,H.reads (Y6 (Y8 (Y8 (Y8 (Y8 (Y8 (Y8 (Y8 (Y8 (Y8 (Y8 (Y8 (Y8 (Y8 (Y8 Y0)))))))))))))))⟩
  ·refine pk 68 E (kc 41 rfl hb142) rfl fun a E=>nt<|wp_ret<|aY E rfl rfl<|have H:=H.drs [0,0,0,0,0,0,0,0,0,0,0];?_
   cases hm
   exact ⟨rfl,H.reads (Y6 (Y8 (Y8 (Y8 (Y8 (Y8 (Y8 (Y8 (Y8 (Y8 (Y8 (Y8 (Y8 (Y8 (Y8 Y0)))))))))))))))⟩

def fB (rec_1:Int→(List aE)→(List aI)→(List aH)→(List aN)→(List aK)→(List aD)→(List ((Int)×aG))→(List ((Int)×bO))→(List ((Int)×aG))→Option Bool) (x27:Int) (u63:aG×(List aE)×(List aI)×(List aH)×(List aN)×(List aK)×(List aD)×(List ((Int)×aG))×(List ((Int)×bO))×(List ((Int)×aG))) (b93:Bool):Option Bool:=
  if b93=true then (some (false)) else (rec_1 (IntKind.i64.wrap (x27+1)) u63.2.1 u63.2.2.1 u63.2.2.2.1 u63.2.2.2.2.1 u63.2.2.2.2.2.1 u63.2.2.2.2.2.2.1 u63.2.2.2.2.2.2.2.1 u63.2.2.2.2.2.2.2.2.1 u63.2.2.2.2.2.2.2.2.2)
def fC (rec_1:Int→(List aE)→(List aI)→(List aH)→(List aN)→(List aK)→(List aD)→(List ((Int)×aG))→(List ((Int)×bO))→(List ((Int)×aG))→Option Bool) (x27:Int) (u63:aG×(List aE)×(List aI)×(List aH)×(List aN)×(List aK)×(List aD)×(List ((Int)×aG))×(List ((Int)×bO))×(List ((Int)×aG))) (l3:List Bool) (x78:Int):Option Bool:=
  if (u63.1.Err != 0)=true then (fB rec_1 x27 u63 true) else ((idx l3 0).bind fun x104=>if (u63.1.Yes != x104)=true then (fB rec_1 x27 u63 true) else (fB rec_1 x27 u63 (u63.1.Epoch != x78)))
def fD (rec_1:Int→(List aE)→(List aI)→(List aH)→(List aN)→(List aK)→(List aD)→(List ((Int)×aG))→(List ((Int)×bO))→(List ((Int)×aG))→Option Bool) (x27:Int) (l3:List Bool) (l29:(List aE)) (l31:(List aI)) (l33:(List aH)) (l35:(List aN)) (l37:(List aK)) (l39:(List aD)) (x40:(List ((Int)×aG))) (x41:(List ((Int)×bO))) (x42:(List ((Int)×aG))) (x1:Int) (l5:List Int) (x51:Int):Option Bool:=
  (idx l3 x27).bind fun x60=>(eO l29 l31 l33 l35 l37 l39 x40 x41 x42 (⟨4,0,x1,0,x60,[],(ByteArray.mk #[]),x51,0,(⟨[],[]⟩:bB),[],(⟨0,0,(ByteArray.mk #[]),false⟩:aK)⟩:bA)).bind fun u63=>if (decide ((l5.length:Int) > 0))=true then ((idx l5 0).bind fun x111=>fC rec_1 x27 u63 l3 (IntKind.i64.wrap x111)) else (fC rec_1 x27 u63 l3 0)
def cN (l3:List Bool) (x1:Int) (l5:List Int) (u9:Bool):Nat→Int→(List aE)→(List aI)→(List aH)→(List aN)→(List aK)→(List aD)→(List ((Int)×aG))→(List ((Int)×bO))→(List ((Int)×aG))→Option Bool
  | 0,_,_,_,_,_,_,_,_,_,_=>none
  | k1+1,x27,l29,l31,l33,l35,l37,l39,x40,x41,x42=>
    if (decide (x27 < (l3.length:Int)))=true then (if (decide (x27 < (l5.length:Int)))=true then ((idx l5 x27).bind fun x114=>fD (cN l3 x1 l5 u9 k1) x27 l3 l29 l31 l33 l35 l37 l39 x40 x41 x42 x1 l5 (IntKind.i64.wrap x114)) else (fD (cN l3 x1 l5 u9 k1) x27 l3 l29 l31 l33 l35 l37 l39 x40 x41 x42 x1 l5 0)) else (if u9=true then ((kJ l29 l31).bind fun u118=>some ((u118.Nodes.length:Int) == 1)) else (some (false)))
def fE (l3:List Bool) (x1:Int) (l5:List Int) (u9:Bool) (u20:(List aE)×(List aI)×(List aH)) (b21:Bool):Option Bool:=
  if b21=true then (some (u9)) else (cN l3 x1 l5 u9 (((l3.length:Int) - 0:Int).toNat+1) 0 u20.1 u20.2.1 u20.2.2 ([]:List aN) ([]:List aK) ([]:List aD) [] [] [])
def iC (x1:Int) (l3:List Bool) (l5:List Int):Option Bool:=
  vI.bind fun u9=>uX.bind fun u11=>S9 u11 (some (false)) fun u20=>if (decide ((l3.length:Int) > 60))=true then (fE l3 x1 l5 u9 u20 true) else (if (decide (x1 < 0))=true then (fE l3 x1 l5 u9 u20 true) else (fE l3 x1 l5 u9 u20 (decide (x1 > 281474976710656))))
theorem m4 {w:World} {Fo:List Ob} {rs:List Rp} {x1:Int} {v2 v4:Value} {l3:List Bool} {l5:List Int} (H:Sep w (Fo) rs) (hr6:rSl kB v2 l3 ∈ rs) (hr7:rSl (kI .u8) v4 l5 ∈ rs) (hr8:xU Tryz.prog ∈ rs) {r:Bool} (hm:iC x1 l3 l5=some r) :
    Calls Tryz.prog 4 [.int .i64 x1,v2,v4].toArray w (Ret fun v w'=>.bool r=v∧Sep w' (Fo) (rs)):=by
 unfold iC at hm
 refine ent Tryz.func4 rfl Tryz.ntmps4 rfl rfl fun a E=>sq<|pr 1 E rfl fun a E=>nx<|bd hm fun u9 hx10 hm=>xk E rfl rfl rfl rfl rfl cf6 (N8 H hr8 hx10) fun w H a E=>pr 1 E rfl fun a E=>nx<|bd hm fun u11 hx12 hm=>?_
 refine cG E rfl rfl rfl rfl rfl Pa (i7 H hx12)<|?_
 rintro _ w (⟨rfl,rfl,H⟩ | ⟨u20,rfl,p13,v14,v15,v16,p17,p18,p19,rfl,H⟩) a E
 ·replace hm:=Z1 hm
  refine pr 1 E rfl fun a E=>nt<|wp_seq<|sq<|pr 1 E rfl fun a E=>sv E rfl rfl rfl (sY E rfl rfl rfl (v:=.bool true) (by kernel_rfl)) fun a E=>pr 13 E rfl fun a E=>nt<|wp_cond_true (E.eval rfl)<|?_
  refine sq<|pr 1 E rfl fun a E=>sv E rfl rfl rfl (sY E rfl rfl rfl (v:=.bool false) (by kernel_rfl)) fun a E=>pr 4 E rfl fun a E=>nt<|wp_ret<|aP<|aY E rfl rfl<|?_
  cases hm
  exact ⟨rfl,H.reads Y0⟩
 ·replace hm:=Z2 hm
  refine pr 1 E rfl fun a E=>nt<|wp_seq<|aT (fun a w=>∃ b21 rs22,Env 91 a [(0,.int .i64 x1),(1,v2),(2,v4),(7,.bool u9),(8,pt p13 0),(29,.bool b21)]∧Sep w (Blk p13 75 [v14,v15,v16,.slice none 0 0,.slice none 0 0,.slice none 0 0,.map (some p17),.map (some p18),.map (some p19)]::cB Tryz.prog 2 (kyI .i64) bI true p17 []::cB Tryz.prog 2 (kyI .i64) cQ true p18 []::cB Tryz.prog 2 (kyI .i64) bI true p19 []::Fo) rs22∧(∀ r,r ∈ rs→r ∈ rs22)∧rSl aF v14 u20.1 ∈ rs22∧rSl aJ v15 u20.2.1 ∈ rs22∧rSl aS v16 u20.2.2 ∈ rs22∧fE l3 x1 l5 u9 u20 b21=some r) ?_ ?_
  ·refine wp_region_lit<|pr 1 E rfl fun a E=>sv E rfl rfl rfl (sY E rfl rfl rfl (v:=.bool false) (by kernel_rfl)) fun a E=>pr 2 E rfl fun a E=>aQ E (ws E rfl rfl rfl rfl) rfl rfl (cR E H rfl rfl (t3 hr6) U54) fun a E=>pr 3 E rfl fun a E=>cs hm (fun hb122 hm=>?_) fun hb122 hm=>?_
   ·exact pk 7 E (kc 22 rfl hb122) rfl fun a E=>nt<|⟨_,_,E.to rfl,H,(Y3 Y0),m0,mm1,mm2,hm⟩
   ·refine pk 4 E (kc 22 rfl hb122) rfl fun a E=>cs hm (fun hb123 hm=>?_) fun hb123 hm=>?_
    ·exact pk 3 E (kc 26 rfl hb123) rfl fun a E=>nt<|⟨_,_,E.to rfl,H,(Y3 Y0),m0,mm1,mm2,hm⟩
    ·exact pk 3 E (kc 26 rfl hb123) rfl fun a E=>nt<|⟨_,_,E.to rfl,H,(Y3 Y0),m0,mm1,mm2,hm⟩
  ·clear E H hm
   rintro a w ⟨b21,rs22,E,H,hs23,hr24,hr25,hr26,hm⟩
   unfold fE at hm
   refine wif E hm rfl (fun hm=>?_) fun hm=>?_
   ·refine sq<|pr 1 E rfl fun a E=>sv E rfl rfl rfl (sY E rfl rfl rfl (v:=.bool true) (by kernel_rfl)) fun a E=>pr 4 E rfl fun a E=>nt<|wp_ret<|aP<|aY E rfl rfl<|have H:=H.drs [0,0,0,0];?_
    cases hm
    exact ⟨rfl,H.reads hs23⟩
   ·refine wp_skip<|aC<|wp_seq<|sq<|pr 1 E rfl fun a E=>nt<|wp_block<|bX (fun k1 a w=>∃ v28 v30 v32 v34 v36 v38 x27 l29 l31 l33 l35 l37 l39 x40 x41 x42 rs43,Env 91 a [(0,.int .i64 x1),(1,v2),(2,v4),(7,.bool u9),(8,pt p13 0),(9,.int .i64 x27)]∧Sep w (Blk p13 75 [v28,v30,v32,v34,v36,v38,.map (some p17),.map (some p18),.map (some p19)]::cB Tryz.prog 2 (kyI .i64) bI true p17 x40::cB Tryz.prog 2 (kyI .i64) cQ true p18 x41::cB Tryz.prog 2 (kyI .i64) bI true p19 x42::Fo) rs43∧(∀ r,r ∈ rs→r ∈ rs43)∧rSl aF v28 l29 ∈ rs43∧rSl aJ v30 l31 ∈ rs43∧rSl aS v32 l33 ∈ rs43∧rSl bG v34 l35 ∈ rs43∧rSl aX v36 l37 ∈ rs43∧rSl aO v38 l39 ∈ rs43∧cN l3 x1 l5 u9 k1 x27 l29 l31 l33 l35 l37 l39 x40 x41 x42=some r) (((l3.length:Int) - 0:Int).toNat+1) ?_ ?_
    ·exact have H:=H.nilSl bG;have H:=H.nilSl aX;have H:=H.nilSl aO;X17 ⟨E.to rfl,H,(Y3 hs23),(t3 hr24),(t3 hr25),(t3 hr26),mm2,mm1,m0,hm⟩
    ·clear E H hm
     rintro k1 a w ⟨v28,v30,v32,v34,v36,v38,x27,l29,l31,l33,l35,l37,l39,x40,x41,x42,rs43,E,H,hs44,hr45,hr46,hr47,hr48,hr49,hr50,hm⟩
     cases k1 with
     | zero=>exact (bT hm rfl).elim
     | succ k1=>
      unfold cN at hm
      refine wp_seq<|sq<|pr 2 E rfl fun a E=>sv E rfl rfl rfl (cR E H rfl rfl (hs44 _ hr6) U54) fun a E=>pr 1 E rfl fun a E=>nt<|wif E hm rfl (fun hm=>?_) fun hm=>?_
      ·refine wp_skip<|aC<|wp_seq<|wp_block<|sq<|pr 1 E rfl fun a E=>nt<|aT (fun a w=>∃ x51 rs52,Env 91 a [(0,.int .i64 x1),(1,v2),(2,v4),(7,.bool u9),(8,pt p13 0),(9,.int .i64 x27),(10,.int .i64 x51)]∧Sep w (Blk p13 75 [v28,v30,v32,v34,v36,v38,.map (some p17),.map (some p18),.map (some p19)]::cB Tryz.prog 2 (kyI .i64) bI true p17 x40::cB Tryz.prog 2 (kyI .i64) cQ true p18 x41::cB Tryz.prog 2 (kyI .i64) bI true p19 x42::Fo) rs52∧(∀ r,r ∈ rs→r ∈ rs52)∧rSl aF v28 l29 ∈ rs52∧rSl aJ v30 l31 ∈ rs52∧rSl aS v32 l33 ∈ rs52∧rSl bG v34 l35 ∈ rs52∧rSl aX v36 l37 ∈ rs52∧rSl aO v38 l39 ∈ rs52∧fD (cN l3 x1 l5 u9 k1) x27 l3 l29 l31 l33 l35 l37 l39 x40 x41 x42 x1 l5 x51=some r) ?_ ?_
       ·refine sq<|pr 2 E rfl fun a E=>sv E rfl rfl rfl (cR E H rfl rfl (hs44 _ hr7) U55) fun a E=>pr 1 E rfl fun a E=>nt<|wif E hm rfl (fun hm=>?_) fun hm=>?_
        ·exact wp_region_lit<|pr 2 E rfl fun a E=>bd hm fun x114 hx115 hm=>dE E H (wn rfl) rfl rfl rfl rfl rfl (hs44 _ hr7) U55 sz5 hx115 fun q116 a H E=>sv E rfl rfl rfl (nT E H rfl rfl m0 U5 rfl) fun a E=>pr 2 E rfl fun a E=>nt<|⟨_,_,E.to rfl,H,(Y1 hs44),(t1 hr45),(t1 hr46),(t1 hr47),(t1 hr48),(t1 hr49),(t1 hr50),hm⟩
        ·exact wp_skip<|aC<|⟨_,_,E.to rfl,H,hs44,hr45,hr46,hr47,hr48,hr49,hr50,hm⟩
       ·clear E H hm
        rintro a w ⟨x51,rs52,E,H,hs53,hr54,hr55,hr56,hr57,hr58,hr59,hm⟩
        unfold fD at hm
        refine sq<|pr 4 E rfl fun a E=>bd hm fun x60 hx61 hm=>dE E H (wn rfl) rfl rfl rfl rfl rfl (hs53 _ hr6) U54 sz4 hx61 fun q62 a H E=>sv E rfl rfl rfl (nT E H rfl rfl m0 U4 rfl) fun a E=>pr 1 E rfl fun a E=>sv E rfl rfl rfl (cI E rfl (E.evs rfl) (v:=.agg #[.int .i64 4,.int .i64 0,.int .i64 x1,.int .i64 0,.bool x60,.slice none 0 0,.string (ByteArray.mk #[]),.int .i64 x51,.int .i64 0,.slice none 0 0,.slice none 0 0,.slice none 0 0,.int .i64 0,.int .i64 0,.string (ByteArray.mk #[]),.bool false]) (by kernel_rfl)) fun a E=>have H:=H.nilSl cE;have H:=H.nilSl aF;?_
        refine have H:=H.nilSl aJ;have H:=H.nilSl kS;bd hm fun u63 hx64 hm=>cG E rfl rfl rfl rfl rfl L5 (jJ (x20:=(⟨4,0,x1,0,x60,[],(ByteArray.mk #[]),x51,0,(⟨[],[]⟩:bB),[],(⟨0,0,(ByteArray.mk #[]),false⟩:aK)⟩:bA)) H (t5 hr54) (t5 hr55) (t5 hr56) (t5 hr57) (t5 hr58) (t5 hr59) mm3 mm2 mm1 m0 (t5 (hs53 _ hr8)) hx64)<|?_
        rintro _ w ⟨v65,v66,v67,v68,v69,v70,v71,v72,v73,v74,v75,v76,rfl,H⟩ a E
        refine al E H rfl rfl rfl rfl gN fun p77 w a H E=>aZ (i:=0) E H (wn rfl) rfl rfl rfl rfl rfl rfl bU rfl (bF H m0 mm1 mm2 mm3 mm4 mm5) fun w H=>nx<|pr 1 E rfl fun a E=>nt<|aT (fun a w=>∃ x78 rs79,Env 91 a [(0,.int .i64 x1),(1,v2),(2,v4),(7,.bool u9),(8,pt p13 0),(9,.int .i64 x27),(11,pt p77 0),(12,.int .i64 x78)]∧Sep w (Blk p13 75 [v71,v72,v73,v74,v75,v76,.map (some p17),.map (some p18),.map (some p19)]::Blk p77 48 (bC u63.1 v65 v66 v67 v68 v69 v70)::cB Tryz.prog 2 (kyI .i64) bI true p17 u63.2.2.2.2.2.2.2.1::cB Tryz.prog 2 (kyI .i64) cQ true p18 u63.2.2.2.2.2.2.2.2.1::cB Tryz.prog 2 (kyI .i64) bI true p19 u63.2.2.2.2.2.2.2.2.2::Fo) rs79∧(∀ r,r ∈ rs→r ∈ rs79)∧rSl aF v71 u63.2.1 ∈ rs79∧rSl aJ v72 u63.2.2.1 ∈ rs79∧rSl aS v73 u63.2.2.2.1 ∈ rs79∧rSl bG v74 u63.2.2.2.2.1 ∈ rs79∧rSl aX v75 u63.2.2.2.2.2.1 ∈ rs79∧rSl aO v76 u63.2.2.2.2.2.2.1 ∈ rs79∧fC (cN l3 x1 l5 u9 k1) x27 u63 l3 x78=some r) ?_ ?_
        ·refine sq<|pr 1 E rfl fun a E=>sv E rfl rfl rfl (cR E H rfl rfl (t1 (t8 (t8 (hs53 _ hr7)))) U55) fun a E=>pr 1 E rfl fun a E=>nt<|wif E hm rfl (fun hm=>?_) fun hm=>?_
         ·exact wp_region_lit<|pr 1 E rfl fun a E=>bd hm fun x111 hx112 hm=>dE E H (wn rfl) rfl rfl rfl rfl rfl (t1 (t8 (t8 (hs53 _ hr7)))) U55 sz5 hx112 fun q113 a H E=>sv E rfl rfl rfl (nT E H rfl rfl m0 U5 rfl) fun a E=>pr 2 E rfl fun a E=>nt<|have H:=H.frs [4,4,4,3,4] rfl;⟨_,_,E.to rfl,H,(Y2 (Y8 (Y8 hs53))),(t1 mm6),(t2 mm6),(t3 mm6),(t4 mm6),(t5 mm6),(t6 mm6),hm⟩
         ·exact wp_skip<|aC<|have H:=H.frs [4,4,4,3,4] rfl;⟨_,_,E.to rfl,H,(Y1 (Y8 (Y8 hs53))),mm6,(t1 mm6),(t2 mm6),(t3 mm6),(t4 mm6),(t5 mm6),hm⟩
        ·clear E H hm
         rintro a w ⟨x78,rs79,E,H,hs80,hr81,hr82,hr83,hr84,hr85,hr86,hm⟩
         unfold fC at hm
         refine aT (fun a w=>∃ b93 rs94,Env 91 a [(0,.int .i64 x1),(1,v2),(2,v4),(7,.bool u9),(8,pt p13 0),(9,.int .i64 x27),(82,.bool b93)]∧Sep w (Blk p13 75 [v71,v72,v73,v74,v75,v76,.map (some p17),.map (some p18),.map (some p19)]::cB Tryz.prog 2 (kyI .i64) bI true p17 u63.2.2.2.2.2.2.2.1::cB Tryz.prog 2 (kyI .i64) cQ true p18 u63.2.2.2.2.2.2.2.2.1::cB Tryz.prog 2 (kyI .i64) bI true p19 u63.2.2.2.2.2.2.2.2.2::Fo) rs94∧(∀ r,r ∈ rs→r ∈ rs94)∧rSl aF v71 u63.2.1 ∈ rs94∧rSl aJ v72 u63.2.2.1 ∈ rs94∧rSl aS v73 u63.2.2.2.1 ∈ rs94∧rSl bG v74 u63.2.2.2.2.1 ∈ rs94∧rSl aX v75 u63.2.2.2.2.2.1 ∈ rs94∧rSl aO v76 u63.2.2.2.2.2.2.1 ∈ rs94∧fB (cN l3 x1 l5 u9 k1) x27 u63 b93=some r) ?_ ?_
         ·obtain ⟨u102,H⟩:=H.raw (hs80 _ hr6)
          refine dw [(0,0),(1,0),(2,0),(3,0),(4,0),(5,0),(6,0),(7,0),(8,0),(9,0),(10,0),(11,0),(12,0),(13,0),(14,0),(15,0),(16,0)] [1] [0] H (by kernel_rfl) (fun _ _ _ h=>False.elim h.2) fun w W0 hI H=>fn 1 E rfl fun a E=>fb E rfl (wn rfl) rfl rfl rfl rfl m0 rfl U41 rfl fun a E=>fn 2 E rfl fun a E=>cs hm (fun hb103 hm=>?_) fun hb103 hm=>?_
          ·refine fk 13 E (kc 69 rfl hb103) rfl fun a E=>bR<|?_
           clear hI
           exact aC<|have H:=H.drop 1;⟨_,_,E.to rfl,H,(Y1 hs80),(t1 hr81),(t1 hr82),(t1 hr83),(t1 hr84),(t1 hr85),(t1 hr86),hm⟩
          ·refine fk 1 E (kc 69 rfl hb103) rfl fun a E=>fb E rfl (ws' (d:=69) E rfl rfl rfl rfl hb103) rfl rfl rfl rfl m0 rfl U4 rfl fun a E=>fk 1 E (kc 69 rfl hb103) rfl fun a E=>bd hm fun x104 hx105 hm=>?_
           obtain ⟨q106,u109,hx107,hx108⟩:=oO (P:=Tryz.prog) (k:=.i64) hI (oN (.head _)) U54 sz4 hx105
           refine bW E rfl (ws' (d:=69) E rfl rfl rfl rfl hb103) rfl rfl (fun w hW=>rI E rfl rfl rfl (hx107 w)) fun a E=>?_
           refine fa E rfl (ws' (d:=69) E rfl rfl rfl rfl hb103) rfl rfl rfl rfl hx108 U4 rfl fun a E=>bW E rfl (ws' (d:=69) E rfl rfl rfl rfl hb103) rfl rfl (fun w hW=>(sY E rfl rfl rfl (v:=.bool (u63.1.Yes != x104)) (by kernel_rfl))) fun a E=>?_
           refine fk 2 E (kc 69 rfl hb103) rfl fun a E=>cs hm (fun hb110 hm=>?_) fun hb110 hm=>?_
           ·refine fk 5 E (kc 77 rfl hb110) rfl fun a E=>bR<|?_
            clear hI
            exact aC<|have H:=H.drop 1;⟨_,_,E.to rfl,H,(Y1 hs80),(t1 hr81),(t1 hr82),(t1 hr83),(t1 hr84),(t1 hr85),(t1 hr86),hm⟩
           ·refine fk 1 E (kc 77 rfl hb110) rfl fun a E=>fb E rfl (ws' (d:=77) E rfl rfl rfl rfl hb110) rfl rfl rfl rfl m0 rfl U2 rfl fun a E=>fk 3 E (kc 77 rfl hb110) rfl fun a E=>bR<|?_
            clear hI
            exact aC<|have H:=H.drop 1;⟨_,_,E.to rfl,H,(Y1 hs80),(t1 hr81),(t1 hr82),(t1 hr83),(t1 hr84),(t1 hr85),(t1 hr86),hm⟩
         ·clear E H hm
          rintro a w ⟨b93,rs94,E,H,hs95,hr96,hr97,hr98,hr99,hr100,hr101,hm⟩
          unfold fB at hm
          refine wif E hm rfl (fun hm=>?_) fun hm=>?_
          ·refine sq<|pr 1 E rfl fun a E=>nt<|wp_ret<|bV<|aP<|aP<|bV<|aP<|?_
           refine aY E rfl rfl<|have H:=H.drs [0,0,0,0];?_
           cases hm
           exact ⟨rfl,H.reads hs95⟩
          ·exact wp_skip<|bY<|aC<|wp_region_lit<|pr 3 E rfl fun a E=>nt<|⟨k1,Nat.lt_succ_self k1,X17 ⟨E.to rfl,H,hs95,hr96,hr97,hr98,hr99,hr100,hr101,hm⟩⟩
      ·refine wp_exit<|bH<|bH<|dG<|aC<|sq<|pr 2 E rfl fun a E=>cs hm (fun hb117 hm=>?_) fun hb117 hm=>?_
       ·refine pk 1 E (kc 84 rfl hb117) rfl fun a E=>bd hm fun u118 hx119 hm=>aU E (ws' (d:=84) E rfl rfl rfl rfl hb117) rfl rfl (cC E rfl rfl (Rz _)) (zO H hr45 hr46 hx119)<|?_
        rintro _ w ⟨v120,v121,rfl,H⟩ a E
        refine aQ E (ws' (d:=84) E rfl rfl rfl rfl hb117) rfl rfl (Fx E rfl rfl (v:=v120) (by kernel_rfl)) fun a E=>aQ E (ws' (d:=84) E rfl rfl rfl rfl hb117) rfl rfl (cR E H rfl rfl m0 U22) fun a E=>pk 3 E (kc 84 rfl hb117) rfl fun a E=>nt<|wp_ret<|aY E rfl rfl<|have H:=H.drs [0,0,0,0];?_
        cases hm
        exact ⟨rfl,H.reads (Y2 hs44)⟩
       ·refine pk 7 E (kc 84 rfl hb117) rfl fun a E=>nt<|wp_ret<|aY E rfl rfl<|have H:=H.drs [0,0,0,0];?_
        cases hm
        exact ⟨rfl,H.reads hs44⟩

end Go.Cb
