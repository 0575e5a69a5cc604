/- Functions of the program, walked: each comes to its plain function. -/
import Derived.Test.YtpbgbliikifjjaaGreatDoorKsd2
import Derived.Test.YtpbgbliikifjjaaGreatDoorExsd
import Derived.Test.YtpbgbliikifjjaaGreatDoorS1sd
import Derived.Test.YtpbgbliikifjjaaGreatDoorSssd
import Derived.Test.YtpbgbliikifjjaaGreatDoorStsd
set_option linter.unusedVariables false
set_option linter.unusedSimpArgs false
set_option maxRecDepth 20000
set_option maxHeartbeats 1000000
namespace Go.Cb
open Go.Proofs Go.RowKit

def mE (u108:(List aN)) (l107:List ((Int)×bO)) (l114:(List aE)) (l116:(List aI)) (l118:(List aK)) (l120:(List aD)):Option (aG×(List aE)×(List aI)×(List aN)×(List aK)×(List aD)×(List ((Int)×bO))):=
  some ((⟨0,0,false,0,[],(⟨[],[]⟩:bB),[],[],[]⟩:aG),l114,l116,u108,l118,l120,l107)
def mF (u108:(List aN)) (l107:List ((Int)×bO)) (l3:List aE) (l5:List aI) (l11:List aK) (l13:List aD) (l44:(List cF)) (b127:Bool):Option (aG×(List aE)×(List aI)×(List aN)×(List aK)×(List aD)×(List ((Int)×bO))):=
  if b127=true then ((rP l3 l5 l11 l13 l44).bind fun u137=>mE u108 l107 u137.2.1 u137.2.2.1 u137.2.2.2.1 u137.2.2.2.2) else (mE u108 l107 l3 l5 l11 l13)
def mG (l3:List aE) (l5:List aI) (l11:List aK) (l13:List aD) (l44:(List cF)) (l9:List aN) (l17:List ((Int)×bO)) (b42:Bool) (x20:bA) (b47:Bool) (b88:Bool):Option (aG×(List aE)×(List aI)×(List aN)×(List aK)×(List aD)×(List ((Int)×bO))):=
  if b88=true then ((dM 2).bind fun u98=>some (u98,l3,l5,l9,l11,l13,l17)) else (if b42=true then (some ((⟨0,0,false,0,[],(⟨[],[]⟩:bB),[],[],[]⟩:aG),l3,l5,l9,l11,l13,l17)) else ((mpt (kyI .i64) l17 x20.Txn (⟨true,[],(⟨0,0,false,0,[],(⟨[],[]⟩:bB),[],[],[]⟩:aG)⟩:bO)).bind fun l107=>(q8 l9 x20.Txn).bind fun u108=>if x20.Yes=true then (mF u108 l107 l3 l5 l11 l13 l44 b47) else (mF u108 l107 l3 l5 l11 l13 l44 false)))
def mH (l3:List aE) (l5:List aI) (l11:List aK) (l13:List aD) (l44:(List cF)) (l9:List aN) (l17:List ((Int)×bO)) (b42:Bool) (x20:bA) (b47:Bool) (b41:Bool) (b70:Bool):Option (aG×(List aE)×(List aI)×(List aN)×(List aK)×(List aD)×(List ((Int)×bO))):=
  if b70=true then ((dM 62).bind fun u80=>some (u80,l3,l5,l9,l11,l13,l17)) else (if (!b41)=true then (mG l3 l5 l11 l13 l44 l9 l17 b42 x20 b47 ((l17.length:Int) == 128)) else (mG l3 l5 l11 l13 l44 l9 l17 b42 x20 b47 false))
def qF (l3:List aE) (l5:List aI) (l11:List aK) (l13:List aD) (l9:List aN) (l17:List ((Int)×bO)) (x20:bA) (b41:Bool) (b42:Bool) (l44:(List cF)) (x45:Int) (x46:Int) (b47:Bool) (x48:Int) (l50:(List cL)) (l52:(List aE)) (l54:(List aI)) (l56:(List bK)) (l58:(List lQ)) (l60:(List Int)):Option (aG×(List aE)×(List aI)×(List aN)×(List aK)×(List aD)×(List ((Int)×bO))):=
  if (!b41)=true then (mH l3 l5 l11 l13 l44 l9 l17 b42 x20 b47 b41 x20.Yes) else (mH l3 l5 l11 l13 l44 l9 l17 b42 x20 b47 b41 false)
def sO (l3:List aE) (l5:List aI) (l9:List aN) (l11:List aK) (l13:List aD) (l17:List ((Int)×bO)) (x20:bA):Option (aG×(List aE)×(List aI)×(List aN)×(List aK)×(List aD)×(List ((Int)×bO))):=
  (o8 (kyI .i64) l17 x20.Txn A8).bind fun x154=>qF l3 l5 l11 l13 l9 l17 x20 x154.2 x154.1.over_ x154.1.pieces_ x154.1.a_.Err x154.1.a_.At x154.1.a_.Yes x154.1.a_.Epoch x154.1.a_.Results x154.1.a_.Store.Nodes x154.1.a_.Store.Turns x154.1.a_.Events x154.1.a_.Mounts x154.1.a_.Wounded
theorem G9 {w:World} {Fo:List Ob} {rs:List Rp} {p1 p16:Nat} {v2 v4 v8 v10 v12 v21 v22 v23 v24 v25 v26 v27:Value} {l3:List aE} {l5:List aI} {l9:List aN} {l11:List aK} {l13:List aD} {l17:List ((Int)×bO)} {x20:bA} (H:Sep w (Blk p1 75 [v2,v4,v25,v8,v10,v12,v26,.map (some p16),v27]::cB Tryz.prog 2 (kyI .i64) cQ true p16 l17::Fo) rs) (hr28:rSl aF v2 l3 ∈ rs) (hr29:rSl aJ v4 l5 ∈ rs) (hr30:rSl bG v8 l9 ∈ rs) (hr31:rSl aX v10 l11 ∈ rs) (hr32:rSl aO v12 l13 ∈ rs) (hr37:xU Tryz.prog ∈ rs) {r:aG×(List aE)×(List aI)×(List aN)×(List aK)×(List aD)×(List ((Int)×bO))} (hm:sO l3 l5 l9 l11 l13 l17 x20=some r) :
    Calls Tryz.prog 27 [pt p1 0,.agg (aR x20 v21 v22 v23 v24).toArray].toArray w (Ret fun v w'=>∃ y2 y3 y4 y5 y6 y7 y8 y10 y12 y14 y16,.agg (bC r.1 y2 y3 y4 y5 y6 y7).toArray=v∧Sep w' (Blk p1 75 [y8,y10,v25,y12,y14,y16,v26,.map (some p16),v27]::cB Tryz.prog 2 (kyI .i64) cQ true p16 r.2.2.2.2.2.2::Fo) (rSl bE y2 r.1.Results::rSl aF y3 r.1.Store.Nodes::rSl aJ y4 r.1.Store.Turns::rSl aV y5 r.1.Events::rSl bL y6 r.1.Mounts::rSl (kI .i64) y7 r.1.Wounded::rSl aF y8 r.2.1::rSl aJ y10 r.2.2.1::rSl bG y12 r.2.2.2.1::rSl aX y14 r.2.2.2.2.1::rSl aO y16 r.2.2.2.2.2.1::rs)):=by
 unfold sO at hm
 refine ent Tryz.func27 rfl Tryz.ntmps27 rfl rfl fun a E=>sq<|bS E H (wn rfl) rfl rfl rfl rfl rfl fun p38 w a H E=>al E H rfl rfl rfl rfl gN fun p39 w a H E=>nt<|aT (fun a w=>∃ p40 v43 v49 v51 v53 v55 v57 v59 b41 b42 l44 x45 x46 b47 x48 l50 l52 l54 l56 l58 l60 rs61,Env 70 a [(0,pt p1 0),(3,pt p38 0),(4,pt p39 0),(5,pt p40 0),(6,.bool b41)]∧Sep w (Blk p1 75 [v2,v4,v25,v8,v10,v12,v26,.map (some p16),v27]::Blk p38 37 (aR x20 v21 v22 v23 v24)::Blk p39 48 bN::Blk p40 128 [.bool b42,v43,.int .i64 x45,.int .i64 x46,.bool b47,.int .i64 x48,v49,v51,v53,v55,v57,v59]::cB Tryz.prog 2 (kyI .i64) cQ true p16 l17::Fo) rs61∧(∀ r,r ∈ rs→r ∈ rs61)∧rSl cE v43 l44 ∈ rs61∧qF l3 l5 l11 l13 l9 l17 x20 b41 b42 l44 x45 x46 b47 x48 l50 l52 l54 l56 l58 l60=some r) ?_ ?_
 ·refine bd hm fun x154 hx152 hm=>?_
  have hI:dP [Blk p38 37 (aR x20 v21 v22 v23 v24),Blk p1 75 [v2,v4,v25,v8,v10,v12,v26,.map (some p16),v27]] [] { w with drawn:=w.drawn+1 }:=⟨_,_,H.kept (Kp.drawn _ w _),(aB mm1 (aB mm2 (aL))),(aM)⟩
  refine jY _ (.go 0 0 (.go 1 0 (.go 2 0 (.go 3 0 (.go 4 0 (.go 5 0 (.alt 6 (.go 7 0 (.go 8 0 (.go 9 0 (.go 10 1 (.go 11 1 (.go 12 2 .nil)))))) 10 (.go 6 1 (.go 7 0 (.go 8 0 (.go 9 0 (.go 11 1 (.go 12 2 .nil))))))))))))) [12] kG (by kernel_rfl) (fun _ _ _ h=>False.elim h.2) hI<|have H:=H.kept (Kp.drawn _ w (w.drawn+1));?_
  generalize ({ w with drawn:=w.drawn+1 }:World)=w at H hI ⊢
  replace hI:∃ W,dP [Blk p38 37 (aR x20 v21 v22 v23 v24),Blk p1 75 [v2,v4,v25,v8,v10,v12,v26,.map (some p16),v27]] [] W:=⟨_,hI⟩
  obtain ⟨W0,hI⟩:=hI
  refine aW E rfl (wn rfl) rfl rfl (fun w hW=>(bD E rfl rfl)) fun a E=>aW E rfl (wn rfl) rfl rfl (fun w hW=>(sF E rfl rfl)) fun a E=>aW E rfl (wn rfl) rfl rfl (fun w hW=>iY E rfl rfl (v:=pt p1 7) (Es _ _)) fun a E=>aW E rfl (wn rfl) rfl rfl (fun w hW=>eZ E rfl rfl (kD mm1 rfl U69 rfl w hW)) fun a E=>aW E rfl (wn rfl) rfl rfl (fun w hW=>iY E rfl rfl (v:=pt p38 2) (Ac _ _)) fun a E=>aW E rfl (wn rfl) rfl rfl (fun w hW=>eZ E rfl rfl (kD m0 rfl U2 rfl w hW)) fun a E=>?_
  refine kM rfl rfl ?_ ?_
  ·refine lR (i:=3) (K:=(kyI .i64)) E H (wn rfl) rfl rfl rfl rfl rfl rfl (dX U2) U69 Ak De hx152 fun u179 a H E=>?_
   obtain ⟨v180,v181,v182,v183,v184,v185,v186,rfl,h⟩:=d8 H;clear H;have H:=h
   refine nt<|?_
   refine ⟨⟨_,_,H,(aB mm1 (aB mm2 (aL))),(aM)⟩,?_⟩
   refine aW E rfl (wn rfl) rfl rfl (fun w hW=>(bD E rfl rfl)) fun a E=>aW E rfl (wn rfl) rfl rfl (fun w hW=>(cX E rfl rfl rfl)) fun a E=>aW E rfl (wn rfl) rfl rfl (fun w hW=>(cX E rfl rfl rfl)) fun a E=>cJ rfl<|al E H rfl rfl rfl rfl Df fun p187 w a H E=>nt<|?_
   refine ⟨⟨_,_,H,(aB mm2 (aB mm3 (aL))),(aM)⟩,?_⟩
   refine cJ rfl<|aZ (i:=0) E H (wn rfl) rfl rfl rfl rfl rfl rfl Dg rfl (xH H mm6 mm5 mm4 mm3 mm2 mm1 m0) fun w H=>nt<|?_
   refine ⟨⟨_,_,H,(aB mm2 (aB mm3 (aL))),(aM)⟩,?_⟩
   refine cP rfl<|pr 1 E rfl fun a E=>nt<|dW<|?_
   clear hI
   exact aC<|have H:=H.frs [4,1,2,3,4] rfl;X22 ⟨E.to rfl,H,(Y8 Y0),mm6,hm⟩
  ·refine al E H rfl rfl rfl rfl Df fun p188 w a H E=>nt<|?_
   refine ⟨⟨_,_,H,(aB mm2 (aB mm3 (aL))),(aM)⟩,?_⟩
   refine cJ rfl<|lR (i:=4) (K:=(kyI .i64)) E H (wn rfl) rfl rfl rfl rfl rfl rfl (dX U2) U69 Ak De hx152 fun u192 a H E=>?_
   obtain ⟨v193,v194,v195,v196,v197,v198,v199,rfl,h⟩:=d8 H;clear H;have H:=h
   refine nt<|?_
   refine ⟨⟨_,_,H,(aB mm2 (aB mm3 (aL))),(aM)⟩,?_⟩
   refine aW E rfl (wn rfl) rfl rfl (fun w hW=>(bD E rfl rfl)) fun a E=>aW E rfl (wn rfl) rfl rfl (fun w hW=>(cX E rfl rfl rfl)) fun a E=>aW E rfl (wn rfl) rfl rfl (fun w hW=>(cX E rfl rfl rfl)) fun a E=>cJ rfl<|aZ (i:=0) E H (wn rfl) rfl rfl rfl rfl rfl rfl Dg rfl (xH H mm6 mm5 mm4 mm3 mm2 mm1 m0) fun w H=>nt<|?_
   refine ⟨⟨_,_,H,(aB mm2 (aB mm3 (aL))),(aM)⟩,?_⟩
   refine cP rfl<|pr 1 E rfl fun a E=>nt<|dW<|?_
   clear hI
   exact aC<|have H:=H.frs [4,1,2,3,4] rfl;X22 ⟨E.to rfl,H,(Y8 Y0),mm6,hm⟩
 ·clear E H hm
  rintro a w ⟨p40,v43,v49,v51,v53,v55,v57,v59,b41,b42,l44,x45,x46,b47,x48,l50,l52,l54,l56,l58,l60,rs61,E,H,hs62,hr63,hm⟩
  unfold qF at hm
  refine wp_seq<|wp_block<|aT (fun a w=>∃ b70 rs71,Env 70 a [(0,pt p1 0),(3,pt p38 0),(4,pt p39 0),(5,pt p40 0),(6,.bool b41),(17,.bool b70)]∧Sep w (Blk p1 75 [v2,v4,v25,v8,v10,v12,v26,.map (some p16),v27]::Blk p38 37 (aR x20 v21 v22 v23 v24)::Blk p39 48 bN::Blk p40 128 [.bool b42,v43,.int .i64 x45,.int .i64 x46,.bool b47,.int .i64 x48,v49,v51,v53,v55,v57,v59]::cB Tryz.prog 2 (kyI .i64) cQ true p16 l17::Fo) rs71∧(∀ r,r ∈ rs→r ∈ rs71)∧rSl cE v43 l44 ∈ rs71∧mH l3 l5 l11 l13 l44 l9 l17 b42 x20 b47 b41 b70=some r) ?_ ?_
  ·refine wp_region_lit<|pr 3 E rfl fun a E=>cs hm (fun hb151 hm=>?_) fun hb151 hm=>?_
   ·exact pk 1 E (kc 20 rfl hb151) rfl fun a E=>aQ E (ws' (d:=20) E rfl rfl rfl rfl hb151) rfl rfl (cD (i:=1) E H rfl rfl rfl rfl U4 rfl) fun a E=>pk 2 E (kc 20 rfl hb151) rfl fun a E=>nt<|⟨_,_,E.to rfl,H,hs62,hr63,hm⟩
   ·exact pk 4 E (kc 20 rfl hb151) rfl fun a E=>nt<|⟨_,_,E.to rfl,H,hs62,hr63,hm⟩
  ·clear E H hm
   rintro a w ⟨b70,rs71,E,H,hs72,hr73,hm⟩
   unfold mH at hm
   refine wif E hm rfl (fun hm=>?_) fun hm=>?_
   ·refine sq<|bd hm fun u80 hx81 hm=>cG E rfl rfl rfl rfl rfl tM (dT H hx81)<|?_
    rintro _ w ⟨v82,v83,v84,v85,v86,v87,rfl,H⟩ a E
    refine aZ (i:=2) E H (wn rfl) rfl rfl rfl rfl rfl rfl bU rfl (bF H m0 mm1 mm2 mm3 mm4 mm5) fun w H=>nt<|wp_ret<|bV<|aP<|dH E rfl (cV (i:=2) (us:=(bC u80 v82 v83 v84 v85 v86 v87)) H rfl rfl rfl U48 rfl bU)<|have H:=H.drs [1,1,1];?_
    cases hm
    exact X11 ⟨rfl,H.reads (aA m0 (aA mm1 (aA mm2 (aA mm3 (aA mm4 (aA mm5 (aA (t6 (hs72 _ hr28)) (aA (t6 (hs72 _ hr29)) (aA (t6 (hs72 _ hr30)) (aA (t6 (hs72 _ hr31)) (aA (t6 (hs72 _ hr32)) (fun r hr=>(t6 (hs72 r hr))))))))))))))⟩
   ·refine aT (fun a w=>∃ b88 rs89,Env 70 a [(0,pt p1 0),(3,pt p38 0),(4,pt p39 0),(5,pt p40 0),(25,.bool b88)]∧Sep w (Blk p1 75 [v2,v4,v25,v8,v10,v12,v26,.map (some p16),v27]::Blk p38 37 (aR x20 v21 v22 v23 v24)::Blk p39 48 bN::Blk p40 128 [.bool b42,v43,.int .i64 x45,.int .i64 x46,.bool b47,.int .i64 x48,v49,v51,v53,v55,v57,v59]::cB Tryz.prog 2 (kyI .i64) cQ true p16 l17::Fo) rs89∧(∀ r,r ∈ rs→r ∈ rs89)∧rSl cE v43 l44 ∈ rs89∧mG l3 l5 l11 l13 l44 l9 l17 b42 x20 b47 b88=some r) ?_ ?_
    ·refine wp_region_lit<|pr 3 E rfl fun a E=>cs hm (fun hb150 hm=>?_) fun hb150 hm=>?_
     ·exact pk 3 E (kc 28 rfl hb150) rfl fun a E=>aQ E (ws' (d:=28) E rfl rfl rfl rfl hb150) rfl rfl (cD (i:=0) E H rfl rfl rfl rfl U69 rfl) fun a E=>aQ E (ws' (d:=28) E rfl rfl rfl rfl hb150) rfl rfl (i1 (i:=4) E H rfl rfl rfl U69) fun a E=>pk 3 E (kc 28 rfl hb150) rfl fun a E=>nt<|⟨_,_,E.to rfl,H,hs72,hr73,hm⟩
     ·exact pk 8 E (kc 28 rfl hb150) rfl fun a E=>nt<|⟨_,_,E.to rfl,H,hs72,hr73,hm⟩
    ·clear E H hm
     rintro a w ⟨b88,rs89,E,H,hs90,hr91,hm⟩
     unfold mG at hm
     refine wif E hm rfl (fun hm=>?_) fun hm=>?_
     ·refine sq<|bd hm fun u98 hx99 hm=>cG E rfl rfl rfl rfl rfl tM (dT H hx99)<|?_
      rintro _ w ⟨v100,v101,v102,v103,v104,v105,rfl,H⟩ a E
      refine aZ (i:=2) E H (wn rfl) rfl rfl rfl rfl rfl rfl bU rfl (bF H m0 mm1 mm2 mm3 mm4 mm5) fun w H=>nt<|wp_ret<|bV<|aP<|dH E rfl (cV (i:=2) (us:=(bC u98 v100 v101 v102 v103 v104 v105)) H rfl rfl rfl U48 rfl bU)<|have H:=H.drs [1,1,1];?_
      cases hm
      exact X11 ⟨rfl,H.reads (aA m0 (aA mm1 (aA mm2 (aA mm3 (aA mm4 (aA mm5 (aA (t6 (hs90 _ hr28)) (aA (t6 (hs90 _ hr29)) (aA (t6 (hs90 _ hr30)) (aA (t6 (hs90 _ hr31)) (aA (t6 (hs90 _ hr32)) (fun r hr=>(t6 (hs90 r hr))))))))))))))⟩
     ·refine sq<|pr 1 E rfl fun a E=>lb E H 3 rfl rfl rfl rfl rfl rfl rfl U4 rfl fun a E=>pr 1 E rfl fun a E=>nt<|wif E hm rfl (fun hm=>?_) fun hm=>?_
      ·refine sq<|sv E rfl rfl rfl (cI E rfl (E.evs rfl) (v:=.agg bN.toArray) (by kernel_rfl)) fun a E=>aZ (i:=2) E H (wn rfl) rfl rfl rfl rfl rfl rfl bU rfl rfl fun w H=>nt<|wp_ret<|bV<|aP<|dH E rfl (cV (i:=2) (us:=bN) H rfl rfl rfl U48 rfl bU)<|have H:=H.nilSl bE;?_
       refine have H:=H.nilSl aF;have H:=H.nilSl aJ;have H:=H.nilSl aV;have H:=H.nilSl bL;have H:=H.nilSl (kI .i64);have H:=H.drs [1,1,1];?_
       cases hm
       exact X11 ⟨rfl,H.reads (aA mm5 (aA mm4 (aA mm3 (aA mm2 (aA mm1 (aA m0 (aA (t6 (hs90 _ hr28)) (aA (t6 (hs90 _ hr29)) (aA (t6 (hs90 _ hr30)) (aA (t6 (hs90 _ hr31)) (aA (t6 (hs90 _ hr32)) (fun r hr=>(t6 (hs90 r hr))))))))))))))⟩
      ·refine wp_skip<|bY<|aC<|wp_seq<|dw [(0,0),(1,0),(2,0),(3,0),(4,0),(5,0),(6,0),(7,2)] [0,1] [] H (by kernel_rfl) (fun _ _ _ h=>False.elim h.2) fun w W0 hI H=>fn 3 E rfl fun a E=>fb E rfl (wn rfl) rfl rfl rfl rfl m0 rfl U69 rfl fun a E=>fn 1 E rfl fun a E=>fb E rfl (wn rfl) rfl rfl rfl rfl mm1 rfl U2 rfl fun a E=>?_
       refine bW E rfl (wn rfl) rfl rfl (fun w hW=>(cI E rfl (E.evs rfl) (v:=.agg #[.bool true,.slice none 0 0,.int .i64 0,.int .i64 0,.bool false,.int .i64 0,.slice none 0 0,.slice none 0 0,.slice none 0 0,.slice none 0 0,.slice none 0 0,.slice none 0 0]) (by kernel_rfl))) fun a E=>?_
       refine bQ rfl<|bd hm fun l107 hx106 hm=>zR (i:=4) (K:=(kyI .i64)) (v:=(⟨true,[],(⟨0,0,false,0,[],(⟨[],[]⟩:bB),[],[],[]⟩:aG)⟩:bO)) (cs:=[.bool true,.slice none 0 0,.int .i64 0,.int .i64 0,.bool false,.int .i64 0,.slice none 0 0,.slice none 0 0,.slice none 0 0,.slice none 0 0,.slice none 0 0,.slice none 0 0]) E H (wn rfl) rfl rfl rfl rfl rfl rfl (dX U2) U69 hx106 (fun ok hr=>(zT (Sl.nil _ _ _) (Sl.nil _ _ _) (Sl.nil _ _ _) (Sl.nil _ _ _) (Sl.nil _ _ _) (Sl.nil _ _ _) (Sl.nil _ _ _))) fun w H=>nt<|bR<|?_
       clear hI
       refine aC<|wp_seq<|dw [(0,0),(1,0),(2,0),(3,0),(4,0),(5,0),(6,0),(7,1),(8,2),(9,2),(10,2)] [0,1] [] H (by kernel_rfl) (fun _ _ _ h=>False.elim h.2) fun w W0 hI H=>fn 4 E rfl fun a E=>fb E rfl (wn rfl) rfl rfl rfl rfl m0 rfl U62 rfl fun a E=>fn 1 E rfl fun a E=>fb E rfl (wn rfl) rfl rfl rfl rfl mm1 rfl U2 rfl fun a E=>bZ rfl<|bd hm fun u108 hx109 hm=>?_
       refine cG E rfl rfl rfl rfl rfl Zc (Ex H (hs90 _ hr30) hx109)<|?_
       rintro _ w ⟨v110,rfl,H⟩ a E
       refine nt<|?_
       refine ⟨⟨_,_,H,(aB mm1 (aB mm2 (aL))),(aM)⟩,?_⟩
       refine bQ rfl<|pr 1 E rfl fun a E=>nt<|bQ rfl<|pr 1 E rfl fun a E=>nt<|bQ rfl<|?_
       obtain ⟨q111,x112,rfl⟩:=H.rowform (i:=0) rfl
       refine aZ (i:=1) E H (wn rfl) rfl rfl rfl rfl rfl rfl Ru rfl rfl fun w H=>nt<|bR<|?_
       clear hI
       refine aC<|aT (fun a w=>∃ v113 v115 v117 v119 l114 l116 l118 l120 rs121,Env 70 a [(4,pt p39 0)]∧Sep w (Blk p39 48 bN::Blk p1 75 [v113,v115,v25,(.slice q111 u108.length x112),v117,v119,v26,.map (some p16),v27]::cB Tryz.prog 2 (kyI .i64) cQ true p16 l107::Row 103 bG (.slice q111 u108.length x112) u108::Fo) rs121∧(∀ r,r ∈ rs→r ∈ rs121)∧rSl aF v113 l114 ∈ rs121∧rSl aJ v115 l116 ∈ rs121∧rSl aX v117 l118 ∈ rs121∧rSl aO v119 l120 ∈ rs121∧mE u108 l107 l114 l116 l118 l120=some r) ?_ ?_
       ·refine aT (fun a w=>∃ b127 rs128,Env 70 a [(0,pt p1 0),(4,pt p39 0),(5,pt p40 0),(64,.bool b127)]∧Sep w (Blk p1 75 [v2,v4,v25,(.slice q111 u108.length x112),v10,v12,v26,.map (some p16),v27]::Blk p39 48 bN::Blk p40 128 [.bool b42,v43,.int .i64 x45,.int .i64 x46,.bool b47,.int .i64 x48,v49,v51,v53,v55,v57,v59]::cB Tryz.prog 2 (kyI .i64) cQ true p16 l107::Row 103 bG (.slice q111 u108.length x112) u108::Fo) rs128∧(∀ r,r ∈ rs→r ∈ rs128)∧rSl cE v43 l44 ∈ rs128∧mF u108 l107 l3 l5 l11 l13 l44 b127=some r) ?_ ?_
        ·refine wp_region_lit<|pr 1 E rfl fun a E=>lb E H 2 rfl rfl rfl rfl rfl rfl rfl U4 rfl fun a E=>pr 1 E rfl fun a E=>cs hm (fun hb149 hm=>?_) fun hb149 hm=>?_
         ·exact pk 2 E (kc 60 rfl hb149) rfl fun a E=>aQ E (ws' (d:=60) E rfl rfl rfl rfl hb149) rfl rfl (cD (i:=4) E H rfl rfl rfl rfl U4 rfl) fun a E=>pk 1 E (kc 60 rfl hb149) rfl fun a E=>nt<|have H:=H.drop 2;have H:=H.frs [0,4,4,4,4] rfl;⟨_,_,E.to rfl,H,hs90,hr91,hm⟩
         ·exact pk 4 E (kc 60 rfl hb149) rfl fun a E=>nt<|have H:=H.drop 2;have H:=H.frs [0,4,4,4,4] rfl;⟨_,_,E.to rfl,H,hs90,hr91,hm⟩
        ·clear E H hm
         rintro a w ⟨b127,rs128,E,H,hs129,hr130,hm⟩
         unfold mF at hm
         refine wif E hm rfl (fun hm=>?_) fun hm=>?_
         ·refine wp_region_lit<|pr 2 E rfl fun a E=>lb E H 2 rfl rfl rfl rfl rfl rfl rfl U26 rfl fun a E=>bd hm fun u137 hx138 hm=>cG E rfl rfl rfl rfl rfl Rc (m7 H (hs129 _ hr28) (hs129 _ hr29) (hs129 _ hr31) (hs129 _ hr32) hr130 (hs129 _ hr37) hx138)<|?_
          rintro _ w ⟨v139,v140,v141,v142,v143,v144,v145,v146,v147,v148,rfl,H⟩ a E
          exact nt<|have H:=H.drop 2;have H:=H.frs [3,3,2,3] rfl;X9 ⟨E.to rfl,H,(Y2 (Y8 hs129)),mm6,(t1 mm6),(t2 mm6),(t3 mm6),hm⟩
         ·exact wp_skip<|aC<|have H:=H.drop 2;have H:=H.frs [3,3,2,3] rfl;X9 ⟨E.to rfl,H,hs129,(hs129 _ hr28),(hs129 _ hr29),(hs129 _ hr31),(hs129 _ hr32),hm⟩
       ·clear E H hm
        rintro a w ⟨v113,v115,v117,v119,l114,l116,l118,l120,rs121,E,H,hs122,hr123,hr124,hr125,hr126,hm⟩
        unfold mE at hm
        refine sq<|sv E rfl rfl rfl (cI E rfl (E.evs rfl) (v:=.agg bN.toArray) (by kernel_rfl)) fun a E=>aZ (i:=0) E H (wn rfl) rfl rfl rfl rfl rfl rfl bU rfl rfl fun w H=>nt<|wp_ret<|dH E rfl (cV (i:=0) (us:=bN) H rfl rfl rfl U48 rfl bU)<|have H:=H.nilSl bE;have H:=H.nilSl aF;have H:=H.nilSl aJ;?_
        refine have H:=H.nilSl aV;have H:=H.nilSl bL;have H:=H.nilSl (kI .i64);have H:=H.thaw (i:=3) rfl;have H:=H.drop 0;?_
        cases hm
        exact X11 ⟨rfl,H.reads (aA mm6 (aA mm5 (aA mm4 (aA mm3 (aA mm2 (aA mm1 (aA (t7 hr123) (aA (t7 hr124) (aA m0 (aA (t7 hr125) (aA (t7 hr126) (fun r hr=>(t7 (hs122 r hr))))))))))))))⟩

def rQ (l2:List aH) (u5:Int) (s3:ByteArray) (b7:Bool):Option ((List aH)×Bool):=
  if b7=true then (some ([],false)) else ((idx l2 u5).bind fun x10=>(xE l2 (⟨s3,x10.Epoch,2⟩:aH)).bind fun u13=>some (u13.1,u13.2))
def zY (l2:List aH) (s3:ByteArray):Option ((List aH)×Bool):=
  (oU l2 s3).bind fun u5=>if (decide (u5 < 0))=true then (rQ l2 u5 s3 true) else ((idx l2 u5).bind fun x17=>rQ l2 u5 s3 (x17.State != 1))
theorem Bm {w:World} {Fo:List Ob} {rs:List Rp} {v1:Value} {l2:List aH} {s3:ByteArray} (H:Sep w (Fo) rs) (hr4:rSl aS v1 l2 ∈ rs) {r:(List aH)×Bool} (hm:zY l2 s3=some r) :
    Calls Tryz.prog 75 [v1,.string s3].toArray w (Ret fun v w'=>∃ y1,.tuple #[y1,.bool r.2]=v∧Sep w' (Row 31 aS y1 r.1::Fo) (rs)):=by
 unfold zY at hm
 refine ent Tryz.func75 rfl Tryz.ntmps75 rfl rfl fun a E=>sq<|pr 2 E rfl fun a E=>nx<|pr 2 E rfl fun a E=>bd hm fun u5 hx6 hm=>xk E rfl rfl rfl rfl rfl V4 (sK H hr4 hx6) fun w H a E=>pr 1 E rfl fun a E=>nt<|?_
 refine wp_seq<|aT (fun a w=>∃ b7 rs8,Env 31 a [(0,v1),(1,.string s3),(6,.int .i64 u5),(19,.bool b7)]∧Sep w (Fo) rs8∧(∀ r,r ∈ rs→r ∈ rs8)∧rQ l2 u5 s3 b7=some r) ?_ ?_
 ·refine wp_region_lit<|pr 3 E rfl fun a E=>cs hm (fun hb16 hm=>?_) fun hb16 hm=>?_
  ·exact pk 7 E (kc 12 rfl hb16) rfl fun a E=>nt<|⟨_,_,E.to rfl,H,Y0,hm⟩
  ·exact pk 2 E (kc 12 rfl hb16) rfl fun a E=>bd hm fun x17 hx18 hm=>dE E H (ws' (d:=12) E rfl rfl rfl rfl hb16) rfl rfl rfl rfl rfl hr4 U32 gL hx18 fun q19 a H E=>have H:=H.derive1 m0 (rAt (kI .i64) (q19.add 2) x17.State) (fun ok h=>yT h);pk 1 E (kc 12 rfl hb16) rfl fun a E=>aQ E (ws' (d:=12) E rfl rfl rfl rfl hb16) rfl rfl (nT E H rfl rfl m0 U3 rfl) fun a E=>pk 2 E (kc 12 rfl hb16) rfl fun a E=>nt<|⟨_,_,E.to rfl,H,(Y2 Y0),hm⟩
 ·clear E H hm
  rintro a w ⟨b7,rs8,E,H,hs9,hm⟩
  unfold rQ at hm
  refine wif E hm rfl (fun hm=>?_) fun hm=>?_
  ·refine sq<|pr 2 E rfl fun a E=>nt<|wp_ret<|aP<|fX E rfl rfl rfl<|have H:=H.nilRow 31 aS;?_
   cases hm
   exact ⟨_,rfl,H.reads hs9⟩
  ·refine wp_skip<|aC<|sq<|pr 4 E rfl fun a E=>bd hm fun x10 hx11 hm=>dE E H (wn rfl) rfl rfl rfl rfl rfl (hs9 _ hr4) U32 gL hx11 fun q12 a H E=>have H:=H.derive1 m0 (rAt (kI .i64) (q12.add 1) x10.Epoch) (fun ok h=>yS h);pr 1 E rfl fun a E=>sv E rfl rfl rfl (nT E H rfl rfl m0 U2 rfl) fun a E=>?_
   refine sv E rfl rfl rfl (cI E rfl (E.evs rfl) (v:=.agg #[.string s3,.int .i64 x10.Epoch,.int .i64 2]) (by kernel_rfl)) fun a E=>bd hm fun u13 hx14 hm=>cG E rfl rfl rfl rfl rfl Hx (C4 (x3:=(⟨s3,x10.Epoch,2⟩:aH)) H (t2 (hs9 _ hr4)) hx14)<|?_
   rintro _ w ⟨v15,rfl,H⟩ a E
   refine pr 4 E rfl fun a E=>nt<|wp_ret<|fX E rfl rfl rfl<|?_
   cases hm
   exact ⟨_,rfl,H.reads (Y2 hs9)⟩

def sP (x1:aH) (s3:ByteArray):Option Bool:=
  some (sEq x1.Prefix s3)
theorem H8 {w:World} {Fo:List Ob} {rs:List Rp} {x1:aH} {p2:Nat} {s3:ByteArray} (H:Sep w (Blk p2 9 [.string s3]::Fo) rs) {r:Bool} (hm:sP x1 s3=some r) :
    Calls Tryz.prog 142 [.agg (kN x1).toArray,pt p2 0].toArray w (Ret fun v w'=>.bool r=v∧Sep w' (Blk p2 9 [.string s3]::Fo) (rs)):=by
 unfold sP at hm
 refine ent Tryz.func142 rfl Tryz.ntmps142 rfl rfl fun a E=>sq<|bS E H (wn rfl) rfl rfl rfl rfl rfl fun p4 w a H E=>pr 1 E rfl fun a E=>nx<|pr 1 E rfl fun a E=>lb E H 0 rfl rfl rfl rfl rfl rfl rfl U9 rfl fun a E=>lb E H 1 rfl rfl rfl rfl rfl rfl rfl U9 rfl fun a E=>pr 2 E rfl fun a E=>?_
 refine nt<|wp_ret<|aY E rfl rfl<|have H:=H.drop 0;?_
 cases hm
 exact ⟨rfl,H.reads Y0⟩

def eU (l2:List aH) (s4:ByteArray):Nat→Int→Option Int
  | 0,_=>none
  | k1+1,x6=>
    if (decide (x6 < (l2.length:Int)))=true then ((idx l2 x6).bind fun x9=>(sP x9 s4).bind fun u12=>if u12=true then (some (x6)) else (eU l2 s4 k1 (IntKind.i64.wrap (x6+1)))) else (some ((-1)))
def iK (l2:List aH) (s4:ByteArray):Option Int:=
  eU l2 s4 (((l2.length:Int) - 0:Int).toNat+1) 0
theorem tX {w:World} {Fo:List Ob} {rs:List Rp} {v1:Value} {l2:List aH} {p3:Nat} {s4:ByteArray} (H:Sep w (Blk p3 9 [.string s4]::Fo) rs) (hr5:rSl aS v1 l2 ∈ rs) {r:Int} (hm:iK l2 s4=some r) :
    Calls Tryz.prog 141 [v1,.func (.func 142) #[] #[pt p3 0]].toArray w (Ret fun v w'=>.int .i64 r=v∧Sep w' (Blk p3 9 [.string s4]::Fo) (rs)):=by
 unfold iK at hm
 refine ent Tryz.func141 rfl Tryz.ntmps141 rfl rfl fun a E=>sq<|pr 1 E rfl fun a E=>nt<|wp_seq<|sq<|pr 1 E rfl fun a E=>sv E rfl rfl rfl (cR E H rfl rfl hr5 U32) fun a E=>pr 1 E rfl fun a E=>?_
 refine nt<|wp_block<|bX (fun k1 a w=>∃ x6 rs7,Env 19 a [(0,v1),(1,.func (.func 142) #[] #[pt p3 0]),(7,.int .i64 (l2.length:Int)),(8,.int .i64 x6)]∧Sep w (Blk p3 9 [.string s4]::Fo) rs7∧(∀ r,r ∈ rs→r ∈ rs7)∧eU l2 s4 k1 x6=some r) (((l2.length:Int) - 0:Int).toNat+1) ?_ ?_
 ·exact ⟨_,_,E.to rfl,H,Y0,hm⟩
 ·clear E H hm
  rintro k1 a w ⟨x6,rs7,E,H,hs8,hm⟩
  cases k1 with
  | zero=>exact (bT hm rfl).elim
  | succ k1=>
   unfold eU at hm
   refine sq<|pr 1 E rfl fun a E=>nt<|wp_seq<|wif E hm rfl (fun hm=>?_) fun hm=>?_
   ·refine wp_skip<|aC<|wp_seq<|wp_block<|sq<|pr 2 E rfl fun a E=>nx<|pr 3 E rfl fun a E=>bd hm fun x9 hx10 hm=>?_
    refine dE E H (wn rfl) rfl rfl rfl rfl rfl (hs8 _ hr5) U32 gL hx10 fun q11 a H E=>ldf gZ E H rfl rfl rfl rfl rfl m0 U31 rfl gL fun a E=>bd hm fun u12 hx13 hm=>aU E (wn rfl) rfl rfl (bP E rfl rfl rfl (Wu _)) (H8 H hx13)<|?_
    rintro _ w ⟨rfl,H⟩ a E
    refine nt<|wif E hm rfl (fun hm=>?_) fun hm=>?_
    ·refine sq<|pr 2 E rfl fun a E=>nt<|wp_ret<|bV<|aP<|aP<|bV<|aP<|?_
     refine aY E rfl rfl<|?_
     cases hm
     exact ⟨rfl,H.reads (Y1 hs8)⟩
    ·exact wp_skip<|bY<|aC<|wp_region_lit<|pr 2 E rfl fun a E=>nt<|⟨k1,Nat.lt_succ_self k1,_,_,E.to rfl,H,(Y1 hs8),hm⟩
   ·refine wp_exit<|bH<|bH<|dG<|aC<|sq<|pr 1 E rfl fun a E=>nt<|wp_ret<|?_
    refine aY E rfl rfl<|?_
    cases hm
    exact ⟨rfl,H.reads hs8⟩

def nQ (l7:List aH) (s20:ByteArray):Option (aH×Bool):=
  (iK l7 s20).bind fun u32=>if (decide (u32 < 0))=true then (some ((⟨(ByteArray.mk #[]),0,0⟩:aH),false)) else ((idx l7 u32).bind fun x34=>some (x34,true))
theorem vE {w:World} {Fo:List Ob} {rs:List Rp} {p1:Nat} {v6 v21 v22 v23 v24 v25 v26 v27 v28:Value} {l7:List aH} {s20:ByteArray} (H:Sep w (Blk p1 75 [v21,v22,v6,v23,v24,v25,v26,v27,v28]::Fo) rs) (hr29:rSl aS v6 l7 ∈ rs) {r:aH×Bool} (hm:nQ l7 s20=some r) :
    Calls Tryz.prog 74 [pt p1 0,.string s20].toArray w (Ret fun v w'=>.tuple #[.agg (kN r.1).toArray,.bool r.2]=v∧Sep w' (Blk p1 75 [v21,v22,v6,v23,v24,v25,v26,v27,v28]::Fo) (rs)):=by
 unfold nQ at hm
 refine ent Tryz.func74 rfl Tryz.ntmps74 rfl rfl fun a E=>sq<|bS E H (wn rfl) rfl rfl rfl rfl rfl fun p30 w a H E=>al E H rfl rfl rfl rfl Bd fun p31 w a H E=>pr 1 E rfl fun a E=>nx<|pr 3 E rfl fun a E=>lb E H 2 rfl rfl rfl rfl rfl rfl rfl U32 rfl fun a E=>sv E rfl rfl rfl (iP E rfl rfl rfl) fun a E=>?_
 refine have H:=H.frs [2,1,2] rfl;bd hm fun u32 hx33 hm=>xk E rfl rfl rfl rfl rfl Ws (tX H hr29 hx33) fun w H a E=>pr 1 E rfl fun a E=>nt<|wp_seq<|sq<|pr 2 E rfl fun a E=>nt<|wif E hm rfl (fun hm=>?_) fun hm=>?_
 ·refine sq<|sv E rfl rfl rfl (cI E rfl (E.evs rfl) (v:=.agg Fk.toArray) (by kernel_rfl)) fun a E=>aZ (i:=1) E H (wn rfl) rfl rfl rfl rfl rfl rfl gL rfl rfl fun w H=>pr 1 E rfl fun a E=>nt<|wp_ret<|aP<|rJ E rfl (cV (i:=1) (us:=Fk) H rfl rfl rfl U31 rfl gL) (rvT rfl)<|have H:=H.drs [0,0];?_
  cases hm
  exact ⟨rfl,H.reads Y0⟩
 ·refine wp_skip<|aC<|sq<|pr 3 E rfl fun a E=>lb E H 2 rfl rfl rfl rfl rfl rfl rfl U32 rfl fun a E=>pr 1 E rfl fun a E=>bd hm fun x34 hx35 hm=>dE E H (wn rfl) rfl rfl rfl rfl rfl hr29 U32 gL hx35 fun q36 a H E=>ldf gZ E H rfl rfl rfl rfl rfl m0 U31 rfl gL fun a E=>?_
  refine aZ (i:=1) E H (wn rfl) rfl rfl rfl rfl rfl rfl gL rfl rfl fun w H=>pr 1 E rfl fun a E=>nt<|wp_ret<|rJ E rfl (cV (i:=1) (us:=(kN x34)) H rfl rfl rfl U31 rfl gL) (rvT rfl)<|have H:=H.drs [0,0];?_
  cases hm
  exact ⟨rfl,H.reads (Y1 Y0)⟩

def sQ (x1:aN) (l4:List aH) (s6:ByteArray):Option Bool:=
  (oU l4 x1.Dir).bind fun u9=>if (decide (u9 ≥ 0))=true then ((idx l4 u9).bind fun x13=>some (sEq x13.Prefix s6)) else (some (false))
theorem H9 {w:World} {Fo:List Ob} {rs:List Rp} {x1:aN} {p2 p5:Nat} {v3:Value} {l4:List aH} {s6:ByteArray} (H:Sep w (Blk p2 32 [v3]::Blk p5 9 [.string s6]::Fo) rs) (hr7:rSl aS v3 l4 ∈ rs) {r:Bool} (hm:sQ x1 l4 s6=some r) :
    Calls Tryz.prog 144 [.agg (nG x1).toArray,pt p2 0,pt p5 0].toArray w (Ret fun v w'=>.bool r=v∧Sep w' (Blk p2 32 [v3]::Blk p5 9 [.string s6]::Fo) (rs)):=by
 unfold sQ at hm
 refine ent Tryz.func144 rfl Tryz.ntmps144 rfl rfl fun a E=>sq<|bS E H (wn rfl) rfl rfl rfl rfl rfl fun p8 w a H E=>pr 1 E rfl fun a E=>nx<|lb E H 1 rfl rfl rfl rfl rfl rfl rfl U32 rfl fun a E=>pr 1 E rfl fun a E=>lb E H 0 rfl rfl rfl rfl rfl rfl rfl U9 rfl fun a E=>bd hm fun u9 hx10 hm=>?_
 refine xk E rfl rfl rfl rfl rfl V4 (sK H hr7 hx10) fun w H a E=>pr 1 E rfl fun a E=>nt<|wp_seq<|?_
 obtain ⟨u11,H⟩:=H.raw hr7
 refine dw [(0,0),(1,0),(2,0),(3,0),(4,0),(5,0),(6,0),(7,0),(8,0),(9,0),(10,0),(11,2)] [1,2] [0] H (by kernel_rfl) (fun _ _ _ h=>False.elim h.2) fun w W0 hI H=>fn 3 E rfl fun a E=>cs hm (fun hb12 hm=>?_) fun hb12 hm=>?_
 ·refine fb E rfl (ws' (d:=12) E rfl rfl rfl rfl hb12) rfl rfl rfl rfl m0 rfl U32 rfl fun a E=>fk 1 E (kc 12 rfl hb12) rfl fun a E=>bd hm fun x13 hx14 hm=>?_
  obtain ⟨q15,u18,hx16,hx17⟩:=oO (P:=Tryz.prog) (k:=.i64) hI (oN (.head _)) U32 gL hx14
  refine bW E rfl (ws' (d:=12) E rfl rfl rfl rfl hb12) rfl rfl (fun w hW=>rI E rfl rfl rfl (hx16 w)) fun a E=>?_
  have hx19:=uU hx17 (fun _ _ _ h=>nV h)
  refine fk 1 E (kc 12 rfl hb12) rfl fun a E=>fa E rfl (ws' (d:=12) E rfl rfl rfl rfl hb12) rfl rfl rfl rfl hx19 U9 rfl fun a E=>fb E rfl (ws' (d:=12) E rfl rfl rfl rfl hb12) rfl rfl rfl rfl mm1 rfl U9 rfl fun a E=>fk 2 E (kc 12 rfl hb12) rfl fun a E=>bQ rfl<|pr 1 E rfl fun a E=>nt<|bR<|?_
  clear hI
  refine aC<|wp_ret<|aY E rfl rfl<|have H:=H.drop 0;?_
  cases hm
  exact ⟨rfl,H.reads (Y1 Y0)⟩
 ·refine fk 8 E (kc 12 rfl hb12) rfl fun a E=>bQ rfl<|pr 1 E rfl fun a E=>nt<|bR<|?_
  clear hI
  refine aC<|wp_ret<|aY E rfl rfl<|have H:=H.drop 0;?_
  cases hm
  exact ⟨rfl,H.reads (Y1 Y0)⟩

def eV (l2:List aN) (l5:List aH) (s7:ByteArray):Nat→Int→Option Int
  | 0,_=>none
  | k1+1,x10=>
    if (decide (x10 < (l2.length:Int)))=true then ((idx l2 x10).bind fun x13=>(sQ x13 l5 s7).bind fun u16=>if u16=true then (some (x10)) else (eV l2 l5 s7 k1 (IntKind.i64.wrap (x10+1)))) else (some ((-1)))
def iL (l2:List aN) (l5:List aH) (s7:ByteArray):Option Int:=
  eV l2 l5 s7 (((l2.length:Int) - 0:Int).toNat+1) 0
theorem tY {w:World} {Fo:List Ob} {rs:List Rp} {v1 v4:Value} {l2:List aN} {p3 p6:Nat} {l5:List aH} {s7:ByteArray} (H:Sep w (Blk p3 32 [v4]::Blk p6 9 [.string s7]::Fo) rs) (hr8:rSl bG v1 l2 ∈ rs) (hr9:rSl aS v4 l5 ∈ rs) {r:Int} (hm:iL l2 l5 s7=some r) :
    Calls Tryz.prog 120 [v1,.func (.func 144) #[] #[pt p3 0,pt p6 0]].toArray w (Ret fun v w'=>.int .i64 r=v∧Sep w' (Blk p3 32 [v4]::Blk p6 9 [.string s7]::Fo) (rs)):=by
 unfold iL at hm
 refine ent Tryz.func120 rfl Tryz.ntmps120 rfl rfl fun a E=>sq<|pr 1 E rfl fun a E=>nt<|wp_seq<|sq<|pr 1 E rfl fun a E=>sv E rfl rfl rfl (cR E H rfl rfl hr8 U62) fun a E=>pr 1 E rfl fun a E=>?_
 refine nt<|wp_block<|bX (fun k1 a w=>∃ x10 rs11,Env 19 a [(0,v1),(1,.func (.func 144) #[] #[pt p3 0,pt p6 0]),(7,.int .i64 (l2.length:Int)),(8,.int .i64 x10)]∧Sep w (Blk p3 32 [v4]::Blk p6 9 [.string s7]::Fo) rs11∧(∀ r,r ∈ rs→r ∈ rs11)∧eV l2 l5 s7 k1 x10=some r) (((l2.length:Int) - 0:Int).toNat+1) ?_ ?_
 ·exact ⟨_,_,E.to rfl,H,Y0,hm⟩
 ·clear E H hm
  rintro k1 a w ⟨x10,rs11,E,H,hs12,hm⟩
  cases k1 with
  | zero=>exact (bT hm rfl).elim
  | succ k1=>
   unfold eV at hm
   refine sq<|pr 1 E rfl fun a E=>nt<|wp_seq<|wif E hm rfl (fun hm=>?_) fun hm=>?_
   ·refine wp_skip<|aC<|wp_seq<|wp_block<|sq<|pr 2 E rfl fun a E=>nx<|pr 3 E rfl fun a E=>bd hm fun x13 hx14 hm=>?_
    refine dE E H (wn rfl) rfl rfl rfl rfl rfl (hs12 _ hr8) U62 gQ hx14 fun q15 a H E=>ldf eC E H rfl rfl rfl rfl rfl m0 j8 rfl gQ fun a E=>bd hm fun u16 hx17 hm=>aU E (wn rfl) rfl rfl (bP E rfl rfl rfl (Wv _)) (H9 H (t1 (hs12 _ hr9)) hx17)<|?_
    rintro _ w ⟨rfl,H⟩ a E
    refine nt<|wif E hm rfl (fun hm=>?_) fun hm=>?_
    ·refine sq<|pr 2 E rfl fun a E=>nt<|wp_ret<|bV<|aP<|aP<|bV<|aP<|?_
     refine aY E rfl rfl<|?_
     cases hm
     exact ⟨rfl,H.reads (Y1 hs12)⟩
    ·exact wp_skip<|bY<|aC<|wp_region_lit<|pr 2 E rfl fun a E=>nt<|⟨k1,Nat.lt_succ_self k1,_,_,E.to rfl,H,(Y1 hs12),hm⟩
   ·refine wp_exit<|bH<|bH<|dG<|aC<|sq<|pr 1 E rfl fun a E=>nt<|wp_ret<|?_
    refine aY E rfl rfl<|?_
    cases hm
    exact ⟨rfl,H.reads hs12⟩

def iA (l2:List aN) (l5:List aH) (s7:ByteArray):Option Bool:=
  (iL l2 l5 s7).bind fun u10=>some (decide (u10 ≥ 0))
theorem tI {w:World} {Fo:List Ob} {rs:List Rp} {v1 v4:Value} {l2:List aN} {p3 p6:Nat} {l5:List aH} {s7:ByteArray} (H:Sep w (Blk p3 32 [v4]::Blk p6 9 [.string s7]::Fo) rs) (hr8:rSl bG v1 l2 ∈ rs) (hr9:rSl aS v4 l5 ∈ rs) {r:Bool} (hm:iA l2 l5 s7=some r) :
    Calls Tryz.prog 127 [v1,.func (.func 144) #[] #[pt p3 0,pt p6 0]].toArray w (Ret fun v w'=>.bool r=v∧Sep w' (Blk p3 32 [v4]::Blk p6 9 [.string s7]::Fo) (rs)):=by
 unfold iA at hm
 refine ent Tryz.func127 rfl Tryz.ntmps127 rfl rfl fun a E=>sq<|pr 1 E rfl fun a E=>nx<|pr 2 E rfl fun a E=>bd hm fun u10 hx11 hm=>xk E rfl rfl rfl rfl rfl Ag (tY H hr8 hr9 hx11) fun w H a E=>pr 2 E rfl fun a E=>nt<|?_
 refine wp_ret<|aY E rfl rfl<|?_
 cases hm
 exact ⟨rfl,H.reads Y0⟩

def qX (l9:List aN) (l21:List aH) (s22:ByteArray):Option Bool:=
  (iA l9 l21 s22).bind fun u37=>some (u37)
theorem j2 {w:World} {Fo:List Ob} {rs:List Rp} {p1:Nat} {v8 v20 v23 v24 v25 v26 v27 v28 v29 v30:Value} {l9:List aN} {l21:List aH} {s22:ByteArray} (H:Sep w (Blk p1 75 [v23,v24,v25,v8,v26,v27,v28,v29,v30]::Fo) rs) (hr31:rSl bG v8 l9 ∈ rs) (hr32:rSl aS v20 l21 ∈ rs) {r:Bool} (hm:qX l9 l21 s22=some r) :
    Calls Tryz.prog 77 [pt p1 0,v20,.string s22].toArray w (Ret fun v w'=>.bool r=v∧Sep w' (Blk p1 75 [v23,v24,v25,v8,v26,v27,v28,v29,v30]::Fo) (rs)):=by
 unfold qX at hm
 refine ent Tryz.func77 rfl Tryz.ntmps77 rfl rfl fun a E=>sq<|?_
 obtain ⟨q34,x35,rfl⟩:=H.slform hr32
 refine bS E H (wn rfl) rfl rfl rfl rfl rfl fun p33 w a H E=>bS E H (wn rfl) rfl rfl rfl rfl rfl fun p36 w a H E=>pr 1 E rfl fun a E=>nx<|pr 3 E rfl fun a E=>lb E H 2 rfl rfl rfl rfl rfl rfl rfl U62 rfl fun a E=>sv E rfl rfl rfl (iP E rfl rfl rfl) fun a E=>have H:=H.frs [2,1,2] rfl;bd hm fun u37 hx38 hm=>?_
 refine xk E rfl rfl rfl rfl rfl Hy (tI H hr31 hr32 hx38) fun w H a E=>pr 1 E rfl fun a E=>nt<|wp_ret<|aY E rfl rfl<|have H:=H.drs [0,0];?_
 cases hm
 exact ⟨rfl,H.reads Y0⟩

def qG (u45:aH×Bool) (l41:(List aH)) (l50:(List aE)) (l52:(List aI)):Option (aG×(List aH)):=
  some ((⟨0,0,false,u45.1.Epoch,[],(⟨l50,l52⟩:bB),[],[],[]⟩:aG),l41)
def mI (x20:bA) (l3:List aE) (l5:List aI) (l41:(List aH)):Option (aG×(List aH)):=
  (nQ l41 x20.Prefix).bind fun u45=>(tL (⟨l3,l5⟩:bB) l41 x20.Prefix).bind fun u60=>qG u45 l41 u60.1 u60.2.1
def mJ (x20:bA) (l3:List aE) (l5:List aI) (l7:List aH) (l9:List aN) (b239:Bool):Option (aG×(List aH)):=
  if b239=true then ((zY l7 x20.Prefix).bind fun u242=>if (!u242.2)=true then ((dM 132).bind fun u245=>some (u245,l7)) else ((oU u242.1 x20.Prefix).bind fun u254=>(idx u242.1 u254).bind fun x256=>if (x256.Epoch != x20.Epoch)=true then ((dM 133).bind fun u263=>some (u263,l7)) else ((qX l9 u242.1 x20.Prefix).bind fun u271=>if u271=true then ((dM 131).bind fun u273=>some (u273,l7)) else (mI x20 l3 l5 u242.1)))) else (mI x20 l3 l5 l7)
def sR (l3:List aE) (l5:List aI) (l7:List aH) (l9:List aN) (x20:bA):Option (aG×(List aH)):=
  (nQ l7 x20.Prefix).bind fun u236=>if (u236.1.State != 2)=true then (mJ x20 l3 l5 l7 l9 true) else (mJ x20 l3 l5 l7 l9 (u236.1.Epoch != x20.Epoch))
theorem I1 {w:World} {Fo:List Ob} {rs:List Rp} {p1:Nat} {v2 v4 v6 v8 v21 v22 v23 v24 v25 v26 v27 v28 v29:Value} {l3:List aE} {l5:List aI} {l7:List aH} {l9:List aN} {x20:bA} (H:Sep w (Blk p1 75 [v2,v4,v6,v8,v25,v26,v27,v28,v29]::Fo) rs) (hr30:rSl aF v2 l3 ∈ rs) (hr31:rSl aJ v4 l5 ∈ rs) (hr32:rSl aS v6 l7 ∈ rs) (hr33:rSl bG v8 l9 ∈ rs) {r:aG×(List aH)} (hm:sR l3 l5 l7 l9 x20=some r) :
    Calls Tryz.prog 29 [pt p1 0,.agg (aR x20 v21 v22 v23 v24).toArray].toArray w (Ret fun v w'=>∃ y2 y3 y4 y5 y6 y7 y8,.agg (bC r.1 y2 y3 y4 y5 y6 y7).toArray=v∧Sep w' (Blk p1 75 [v2,v4,y8,v8,v25,v26,v27,v28,v29]::Fo) (rSl bE y2 r.1.Results::rSl aF y3 r.1.Store.Nodes::rSl aJ y4 r.1.Store.Turns::rSl aV y5 r.1.Events::rSl bL y6 r.1.Mounts::rSl (kI .i64) y7 r.1.Wounded::rSl aS y8 r.2::rs)):=by
 unfold sR at hm
 refine ent Tryz.func29 rfl Tryz.ntmps29 rfl rfl fun a E=>sq<|bS E H (wn rfl) rfl rfl rfl rfl rfl fun p38 w a H E=>al E H rfl rfl rfl rfl gN fun p39 w a H E=>nt<|aT (fun a w=>∃ v40 l41 rs42,Env 90 a [(0,pt p1 0),(3,pt p38 0),(4,pt p39 0)]∧Sep w (Blk p1 75 [v2,v4,v40,v8,v25,v26,v27,v28,v29]::Blk p38 37 (aR x20 v21 v22 v23 v24)::Blk p39 48 bN::Fo) rs42∧(∀ r,r ∈ rs→r ∈ rs42)∧rSl aS v40 l41 ∈ rs42∧mI x20 l3 l5 l41=some r) ?_ ?_
 ·refine sq<|pr 2 E rfl fun a E=>lb E H 1 rfl rfl rfl rfl rfl rfl rfl U9 rfl fun a E=>have H:=H.frs [1,1,2] rfl;bd hm fun u236 hx237 hm=>xk E rfl rfl rfl rfl rfl Ku (vE H hr32 hx237) fun w H a E=>pr 3 E rfl fun a E=>al E H rfl rfl rfl rfl Bd fun p238 w a H E=>aZ (i:=0) E H (wn rfl) rfl rfl rfl rfl rfl rfl gL rfl rfl fun w H=>?_
  refine pr 1 E rfl fun a E=>nt<|aT (fun a w=>∃ b239 rs240,Env 90 a [(0,pt p1 0),(3,pt p38 0),(4,pt p39 0),(29,.bool b239)]∧Sep w (Blk p1 75 [v2,v4,v6,v8,v25,v26,v27,v28,v29]::Blk p38 37 (aR x20 v21 v22 v23 v24)::Blk p39 48 bN::Fo) rs240∧(∀ r,r ∈ rs→r ∈ rs240)∧mJ x20 l3 l5 l7 l9 b239=some r) ?_ ?_
  ·refine wp_region_lit<|pr 1 E rfl fun a E=>lb E H 0 rfl rfl rfl rfl rfl rfl rfl U3 rfl fun a E=>pr 2 E rfl fun a E=>cs hm (fun hb283 hm=>?_) fun hb283 hm=>?_
   ·exact pk 6 E (kc 23 rfl hb283) rfl fun a E=>nt<|have H:=H.drop 0;have H:=H.frs [1,2,2] rfl;⟨_,_,E.to rfl,H,Y0,hm⟩
   ·exact pk 1 E (kc 23 rfl hb283) rfl fun a E=>aQ E (ws' (d:=23) E rfl rfl rfl rfl hb283) rfl rfl (cD (i:=0) E H rfl rfl rfl rfl U2 rfl) fun a E=>pk 1 E (kc 23 rfl hb283) rfl fun a E=>aQ E (ws' (d:=23) E rfl rfl rfl rfl hb283) rfl rfl (cD (i:=3) E H rfl rfl rfl rfl U2 rfl) fun a E=>pk 2 E (kc 23 rfl hb283) rfl fun a E=>nt<|have H:=H.drop 0;have H:=H.frs [1,2,2] rfl;⟨_,_,E.to rfl,H,Y0,hm⟩
  ·clear E H hm
   rintro a w ⟨b239,rs240,E,H,hs241,hm⟩
   unfold mJ at hm
   refine wif E hm rfl (fun hm=>?_) fun hm=>?_
   ·refine wp_seq<|dw [(0,0),(1,0),(2,0),(3,0),(4,0),(5,0),(6,1),(7,0),(8,0),(9,0),(10,1),(11,2)] [0,1] [] H (by kernel_rfl) (fun _ _ _ h=>False.elim h.2) fun w W0 hI H=>fn 3 E rfl fun a E=>fb E rfl (wn rfl) rfl rfl rfl rfl m0 rfl U32 rfl fun a E=>fn 1 E rfl fun a E=>fb E rfl (wn rfl) rfl rfl rfl rfl mm1 rfl U9 rfl fun a E=>bZ rfl<|bd hm fun u242 hx243 hm=>cG E rfl rfl rfl rfl rfl Yz (Bm H (hs241 _ hr32) hx243)<|?_
    rintro _ w ⟨v244,rfl,H⟩ a E
    refine nt<|?_
    refine ⟨⟨_,_,H,(aB mm1 (aB mm2 (aL))),(aM)⟩,?_⟩
    refine fn 3 E rfl fun a E=>bZ rfl<|pr 1 E rfl fun a E=>nt<|?_
    refine ⟨⟨_,_,H,(aB mm1 (aB mm2 (aL))),(aM)⟩,?_⟩
    refine bQ rfl<|pr 1 E rfl fun a E=>nt<|bR<|?_
    clear hI
    refine aC<|wp_seq<|sq<|pr 2 E rfl fun a E=>nt<|wif E hm rfl (fun hm=>?_) fun hm=>?_
    ·refine sq<|bd hm fun u245 hx246 hm=>cG E rfl rfl rfl rfl rfl tM (dT H hx246)<|?_
     rintro _ w ⟨v247,v248,v249,v250,v251,v252,rfl,H⟩ a E
     refine aZ (i:=3) E H (wn rfl) rfl rfl rfl rfl rfl rfl bU rfl (bF H m0 mm1 mm2 mm3 mm4 mm5) fun w H=>nt<|wp_ret<|aP<|aP<|dH E rfl (cV (i:=3) (us:=(bC u245 v247 v248 v249 v250 v251 v252)) H rfl rfl rfl U48 rfl bU)<|have H:=H.drs [0,1,1];?_
     cases hm
     exact X7 ⟨rfl,H.reads (aA m0 (aA mm1 (aA mm2 (aA mm3 (aA mm4 (aA mm5 (aA (t6 (hs241 _ hr32)) (fun r hr=>(t6 (hs241 r hr))))))))))⟩
    ·refine wp_skip<|aC<|wp_seq<|wp_seq<|have H:=H.thaw (i:=0) rfl;?_
     obtain ⟨u253,H⟩:=H.raw m0
     refine dw [(0,0),(1,0),(2,0),(3,0),(8,0),(9,0),(4,1),(5,0),(6,0),(7,0),(10,0)] [1] [0] H (by kernel_rfl) (fun _ _ _ h=>False.elim h.2) fun w W0 hI H=>fn 3 E rfl fun a E=>fb E rfl (wn rfl) rfl rfl rfl rfl m0 rfl U9 rfl fun a E=>fn 1 E rfl fun a E=>fb E rfl (wn rfl) rfl rfl rfl rfl m0 rfl U2 rfl fun a E=>bZ rfl<|bd hm fun u254 hx255 hm=>xk E rfl rfl rfl rfl rfl V4 (sK H mm1 hx255) fun w H a E=>nt<|?_
     refine ⟨⟨_,_,H,(aB mm1 (aL)),(aA m0 (aM))⟩,?_⟩
     refine bd hm fun x256 hx257 hm=>?_
     obtain ⟨q258,u261,hx259,hx260⟩:=oO (P:=Tryz.prog) (k:=.i64) hI (oN (.head _)) U32 gL hx257
     refine bW E rfl (wn rfl) rfl rfl (fun w hW=>rI E rfl rfl rfl (hx259 w)) fun a E=>?_
     have hx262:=uU hx260 (fun _ _ _ h=>Z8 h)
     refine fn 1 E rfl fun a E=>fa E rfl (wn rfl) rfl rfl rfl rfl hx262 U2 rfl fun a E=>fn 1 E rfl fun a E=>bR<|?_
     clear hI
     refine aC<|wif E hm rfl (fun hm=>?_) fun hm=>?_
     ·refine sq<|bd hm fun u263 hx264 hm=>cG E rfl rfl rfl rfl rfl tM (dT H hx264)<|?_
      rintro _ w ⟨v265,v266,v267,v268,v269,v270,rfl,H⟩ a E
      refine aZ (i:=2) E H (wn rfl) rfl rfl rfl rfl rfl rfl bU rfl (bF H m0 mm1 mm2 mm3 mm4 mm5) fun w H=>nt<|wp_ret<|aP<|aP<|dH E rfl (cV (i:=2) (us:=(bC u263 v265 v266 v267 v268 v269 v270)) H rfl rfl rfl U48 rfl bU)<|have H:=H.drs [1,1];?_
      cases hm
      exact X7 ⟨rfl,H.reads (aA m0 (aA mm1 (aA mm2 (aA mm3 (aA mm4 (aA mm5 (aA (t8 (hs241 _ hr32)) (fun r hr=>(t8 (hs241 r hr))))))))))⟩
     ·refine wp_skip<|aC<|wp_seq<|sq<|pr 3 E rfl fun a E=>lb E H 1 rfl rfl rfl rfl rfl rfl rfl U9 rfl fun a E=>bd hm fun u271 hx272 hm=>xk E rfl rfl rfl rfl rfl Rq (j2 H (t2 (hs241 _ hr33)) mm1 hx272) fun w H a E=>nt<|wif E hm rfl (fun hm=>?_) fun hm=>?_
      ·refine sq<|bd hm fun u273 hx274 hm=>cG E rfl rfl rfl rfl rfl tM (dT H hx274)<|?_
       rintro _ w ⟨v275,v276,v277,v278,v279,v280,rfl,H⟩ a E
       refine aZ (i:=2) E H (wn rfl) rfl rfl rfl rfl rfl rfl bU rfl (bF H m0 mm1 mm2 mm3 mm4 mm5) fun w H=>nt<|wp_ret<|aP<|aP<|dH E rfl (cV (i:=2) (us:=(bC u273 v275 v276 v277 v278 v279 v280)) H rfl rfl rfl U48 rfl bU)<|have H:=H.drs [1,1];?_
       cases hm
       exact X7 ⟨rfl,H.reads (aA m0 (aA mm1 (aA mm2 (aA mm3 (aA mm4 (aA mm5 (aA (t8 (hs241 _ hr32)) (fun r hr=>(t8 (hs241 r hr))))))))))⟩
      ·refine wp_skip<|aC<|wp_region_lit<|pr 4 E rfl fun a E=>?_
       obtain ⟨q281,x282,rfl⟩:=H.slform mm1
       exact aZ (i:=0) E H (wn rfl) rfl rfl rfl rfl rfl rfl Kt rfl rfl fun w H=>nt<|X3 ⟨E.to rfl,H,(Y2 hs241),mm1,hm⟩
   ·exact wp_skip<|aC<|X3 ⟨E.to rfl,H,hs241,(hs241 _ hr32),hm⟩
 ·clear E H hm
  rintro a w ⟨v40,l41,rs42,E,H,hs43,hr44,hm⟩
  unfold mI at hm
  refine sq<|pr 2 E rfl fun a E=>lb E H 1 rfl rfl rfl rfl rfl rfl rfl U9 rfl fun a E=>bd hm fun u45 hx46 hm=>xk E rfl rfl rfl rfl rfl Ku (vE H hr44 hx46) fun w H a E=>pr 3 E rfl fun a E=>al E H rfl rfl rfl rfl Bd fun p47 w a H E=>aZ (i:=0) E H (wn rfl) rfl rfl rfl rfl rfl rfl gL rfl rfl fun w H=>pr 1 E rfl fun a E=>?_
  refine nt<|aT (fun a w=>∃ p48 v49 v51 l50 l52 rs53,Env 90 a [(4,pt p39 0),(9,pt p47 0),(11,pt p48 0)]∧Sep w (Blk p39 48 bN::Blk p47 31 (kN u45.1)::Blk p48 25 [v49,v51]::Blk p1 75 [v2,v4,v40,v8,v25,v26,v27,v28,v29]::Row 95 aF v49 l50::Row 77 aJ v51 l52::Fo) rs53∧(∀ r,r ∈ rs→r ∈ rs53)∧rSl aS v40 l41 ∈ rs53∧qG u45 l41 l50 l52=some r) ?_ ?_
  ·refine bd hm fun u60 hx61 hm=>?_
   have hI:dP [Blk p1 75 [v2,v4,v40,v8,v25,v26,v27,v28,v29],Blk p38 37 (aR x20 v21 v22 v23 v24)] [] { w with drawn:=w.drawn+1 }:=⟨_,_,H.kept (Kp.drawn _ w _),(aB mm1 (aB mm2 (aL))),(aM)⟩
   refine jY _ (.go 0 0 (.go 1 0 (.go 2 0 (.go 3 0 (.go 4 0 (.go 5 0 (.go 6 0 (.go 7 0 (.go 8 0 (.go 9 0 (.alt3 10 (.go 11 0 (.go 12 0 (.go 13 0 (.alt 14 (.go 15 1 (.go 16 1 (.go 17 2 .nil))) 15 (.go 14 1 (.go 16 1 (.go 17 2 .nil))))))) 14 (.alt 10 (.go 11 0 (.go 12 0 (.go 13 0 (.go 15 1 (.go 16 1 (.go 17 2 .nil)))))) 15 (.go 10 1 (.go 11 0 (.go 12 0 (.go 13 0 (.go 16 1 (.go 17 2 .nil))))))) 15 (.alt 10 (.go 11 0 (.go 12 0 (.go 13 0 (.go 14 1 (.go 16 1 (.go 17 2 .nil)))))) 14 (.go 10 1 (.go 11 0 (.go 12 0 (.go 13 0 (.go 16 1 (.go 17 2 .nil)))))))))))))))))) [17] kG (by kernel_rfl) (fun _ _ _ h=>False.elim h.2) hI<|have H:=H.kept (Kp.drawn _ w (w.drawn+1));?_
   generalize ({ w with drawn:=w.drawn+1 }:World)=w at H hI ⊢
   replace hI:∃ W,dP [Blk p1 75 [v2,v4,v40,v8,v25,v26,v27,v28,v29],Blk p38 37 (aR x20 v21 v22 v23 v24)] [] W:=⟨_,hI⟩
   obtain ⟨W0,hI⟩:=hI
   refine aW E rfl (wn rfl) rfl rfl (fun w hW=>(bD E rfl rfl)) fun a E=>aW E rfl (wn rfl) rfl rfl (fun w hW=>(sF E rfl rfl)) fun a E=>aW E rfl (wn rfl) rfl rfl (fun w hW=>iY E rfl rfl (v:=pt p1 0) (Ah _ _)) fun a E=>aW E rfl (wn rfl) rfl rfl (fun w hW=>eZ E rfl rfl (yN (us:=[v2,v4]) m0 rfl U25 rfl dA w hW)) fun a E=>aW E rfl (wn rfl) rfl rfl (fun w hW=>(bD E rfl rfl)) fun a E=>aW E rfl (wn rfl) rfl rfl (fun w hW=>(sF E rfl rfl)) fun a E=>aW E rfl (wn rfl) rfl rfl (fun w hW=>iY E rfl rfl (v:=pt p1 2) (Jc _ _)) fun a E=>aW E rfl (wn rfl) rfl rfl (fun w hW=>eZ E rfl rfl (kD m0 rfl U32 rfl w hW)) fun a E=>aW E rfl (wn rfl) rfl rfl (fun w hW=>iY E rfl rfl (v:=pt p38 6) (Ek _ _)) fun a E=>?_
   refine aW E rfl (wn rfl) rfl rfl (fun w hW=>eZ E rfl rfl (kD mm1 rfl U9 rfl w hW)) fun a E=>?_
   refine Ga rfl rfl rfl ?_ ?_ ?_
   ·refine cG E rfl rfl rfl rfl rfl j9 (jL (x1:=(⟨l3,l5⟩:bB)) H (hs43 _ hr30) (hs43 _ hr31) hr44 hx61)<|?_
    rintro _ w ⟨v150,v151,v152,v153,rfl,H⟩ a E
    refine nt<|?_
    refine ⟨⟨_,_,H,(aB mm5 (aB mm6 (aL))),(aM)⟩,?_⟩
    refine aW E rfl (wn rfl) rfl rfl (fun w hW=>(bD E rfl rfl)) fun a E=>aW E rfl (wn rfl) rfl rfl (fun w hW=>(cX E rfl rfl rfl)) fun a E=>aW E rfl (wn rfl) rfl rfl (fun w hW=>(cX E rfl rfl rfl)) fun a E=>?_
    refine kM rfl rfl ?_ ?_
    ·refine al E H rfl rfl rfl rfl jN fun p154 w a H E=>nt<|?_
     refine ⟨⟨_,_,H,(aB mm6 (aB (t1 mm6) (aL))),(aM)⟩,?_⟩
     refine cJ rfl<|al E H rfl rfl rfl rfl jN fun p155 w a H E=>nt<|?_
     refine ⟨⟨_,_,H,(aB (t1 mm6) (aB (t2 mm6) (aL))),(aM)⟩,?_⟩
     refine cJ rfl<|?_
     obtain ⟨q156,x157,rfl⟩:=H.rowform (i:=2) rfl
     obtain ⟨q158,x159,rfl⟩:=H.rowform (i:=3) rfl
     refine aZ (i:=1) E H (wn rfl) rfl rfl rfl rfl rfl rfl dA rfl rfl fun w H=>nt<|?_
     refine ⟨⟨_,_,H,(aB (t1 mm6) (aB (t2 mm6) (aL))),(aM)⟩,?_⟩
     refine cP rfl<|?_
     obtain ⟨q160,x161,rfl⟩:=H.rowform (i:=4) rfl
     obtain ⟨q162,x163,rfl⟩:=H.rowform (i:=5) rfl
     refine aZ (i:=0) E H (wn rfl) rfl rfl rfl rfl rfl rfl dA rfl rfl fun w H=>nt<|dW<|?_
     clear hI
     exact aC<|have H:=H.drs [0,3,3,5];have H:=H.frs [2,2,4,3,4,5] rfl;X6 ⟨E.to rfl,H,hs43,hr44,hm⟩
    ·refine al E H rfl rfl rfl rfl jN fun p164 w a H E=>nt<|?_
     refine ⟨⟨_,_,H,(aB mm6 (aB (t1 mm6) (aL))),(aM)⟩,?_⟩
     refine cJ rfl<|al E H rfl rfl rfl rfl jN fun p165 w a H E=>nt<|?_
     refine ⟨⟨_,_,H,(aB (t1 mm6) (aB (t2 mm6) (aL))),(aM)⟩,?_⟩
     refine cJ rfl<|?_
     obtain ⟨q166,x167,rfl⟩:=H.rowform (i:=2) rfl
     obtain ⟨q168,x169,rfl⟩:=H.rowform (i:=3) rfl
     refine aZ (i:=0) E H (wn rfl) rfl rfl rfl rfl rfl rfl dA rfl rfl fun w H=>nt<|?_
     refine ⟨⟨_,_,H,(aB (t1 mm6) (aB (t2 mm6) (aL))),(aM)⟩,?_⟩
     refine cP rfl<|?_
     obtain ⟨q170,x171,rfl⟩:=H.rowform (i:=4) rfl
     obtain ⟨q172,x173,rfl⟩:=H.rowform (i:=5) rfl
     refine aZ (i:=1) E H (wn rfl) rfl rfl rfl rfl rfl rfl dA rfl rfl fun w H=>nt<|dW<|?_
     clear hI
     exact aC<|have H:=H.drs [1,3,3,5];have H:=H.frs [2,2,4,3,4,5] rfl;X6 ⟨E.to rfl,H,hs43,hr44,hm⟩
   ·refine al E H rfl rfl rfl rfl jN fun p174 w a H E=>nt<|?_
    refine ⟨⟨_,_,H,(aB mm2 (aB mm3 (aL))),(aM)⟩,?_⟩
    refine kM rfl rfl ?_ ?_
    ·refine cG E rfl rfl rfl rfl rfl j9 (jL (x1:=(⟨l3,l5⟩:bB)) H (hs43 _ hr30) (hs43 _ hr31) hr44 hx61)<|?_
     rintro _ w ⟨v177,v178,v179,v180,rfl,H⟩ a E
     refine nt<|?_
     refine ⟨⟨_,_,H,(aB mm6 (aB (t1 mm6) (aL))),(aM)⟩,?_⟩
     refine aW E rfl (wn rfl) rfl rfl (fun w hW=>(bD E rfl rfl)) fun a E=>aW E rfl (wn rfl) rfl rfl (fun w hW=>(cX E rfl rfl rfl)) fun a E=>aW E rfl (wn rfl) rfl rfl (fun w hW=>(cX E rfl rfl rfl)) fun a E=>cJ rfl<|al E H rfl rfl rfl rfl jN fun p181 w a H E=>nt<|?_
     refine ⟨⟨_,_,H,(aB (t1 mm6) (aB (t2 mm6) (aL))),(aM)⟩,?_⟩
     refine cJ rfl<|?_
     obtain ⟨q182,x183,rfl⟩:=H.rowform (i:=1) rfl
     obtain ⟨q184,x185,rfl⟩:=H.rowform (i:=2) rfl
     refine aZ (i:=5) E H (wn rfl) rfl rfl rfl rfl rfl rfl dA rfl rfl fun w H=>nt<|?_
     refine ⟨⟨_,_,H,(aB (t1 mm6) (aB (t2 mm6) (aL))),(aM)⟩,?_⟩
     refine cP rfl<|?_
     obtain ⟨q186,x187,rfl⟩:=H.rowform (i:=3) rfl
     obtain ⟨q188,x189,rfl⟩:=H.rowform (i:=4) rfl
     refine aZ (i:=0) E H (wn rfl) rfl rfl rfl rfl rfl rfl dA rfl rfl fun w H=>nt<|dW<|?_
     clear hI
     exact aC<|have H:=H.drs [0,2,2,5];have H:=H.frs [1,1,4,3,4,5] rfl;X6 ⟨E.to rfl,H,hs43,hr44,hm⟩
    ·refine al E H rfl rfl rfl rfl jN fun p190 w a H E=>nt<|?_
     refine ⟨⟨_,_,H,(aB mm3 (aB mm4 (aL))),(aM)⟩,?_⟩
     refine cJ rfl<|cG E rfl rfl rfl rfl rfl j9 (jL (x1:=(⟨l3,l5⟩:bB)) H (hs43 _ hr30) (hs43 _ hr31) hr44 hx61)<|?_
     rintro _ w ⟨v193,v194,v195,v196,rfl,H⟩ a E
     refine nt<|?_
     refine ⟨⟨_,_,H,(aB (t1 mm6) (aB (t2 mm6) (aL))),(aM)⟩,?_⟩
     refine aW E rfl (wn rfl) rfl rfl (fun w hW=>(bD E rfl rfl)) fun a E=>aW E rfl (wn rfl) rfl rfl (fun w hW=>(cX E rfl rfl rfl)) fun a E=>aW E rfl (wn rfl) rfl rfl (fun w hW=>(cX E rfl rfl rfl)) fun a E=>cJ rfl<|?_
     obtain ⟨q197,x198,rfl⟩:=H.rowform (i:=0) rfl
     obtain ⟨q199,x200,rfl⟩:=H.rowform (i:=1) rfl
     refine aZ (i:=5) E H (wn rfl) rfl rfl rfl rfl rfl rfl dA rfl rfl fun w H=>nt<|?_
     refine ⟨⟨_,_,H,(aB (t1 mm6) (aB (t2 mm6) (aL))),(aM)⟩,?_⟩
     refine cP rfl<|?_
     obtain ⟨q201,x202,rfl⟩:=H.rowform (i:=2) rfl
     obtain ⟨q203,x204,rfl⟩:=H.rowform (i:=3) rfl
     refine aZ (i:=4) E H (wn rfl) rfl rfl rfl rfl rfl rfl dA rfl rfl fun w H=>nt<|dW<|?_
     clear hI
     exact aC<|have H:=H.drs [2,2,2,5];have H:=H.frs [1,1,4,3,4,5] rfl;X6 ⟨E.to rfl,H,hs43,hr44,hm⟩
   ·refine al E H rfl rfl rfl rfl jN fun p205 w a H E=>nt<|?_
    refine ⟨⟨_,_,H,(aB mm2 (aB mm3 (aL))),(aM)⟩,?_⟩
    refine kM rfl rfl ?_ ?_
    ·refine cG E rfl rfl rfl rfl rfl j9 (jL (x1:=(⟨l3,l5⟩:bB)) H (hs43 _ hr30) (hs43 _ hr31) hr44 hx61)<|?_
     rintro _ w ⟨v208,v209,v210,v211,rfl,H⟩ a E
     refine nt<|?_
     refine ⟨⟨_,_,H,(aB mm6 (aB (t1 mm6) (aL))),(aM)⟩,?_⟩
     refine aW E rfl (wn rfl) rfl rfl (fun w hW=>(bD E rfl rfl)) fun a E=>aW E rfl (wn rfl) rfl rfl (fun w hW=>(cX E rfl rfl rfl)) fun a E=>aW E rfl (wn rfl) rfl rfl (fun w hW=>(cX E rfl rfl rfl)) fun a E=>cJ rfl<|al E H rfl rfl rfl rfl jN fun p212 w a H E=>nt<|?_
     refine ⟨⟨_,_,H,(aB (t1 mm6) (aB (t2 mm6) (aL))),(aM)⟩,?_⟩
     refine cJ rfl<|?_
     obtain ⟨q213,x214,rfl⟩:=H.rowform (i:=1) rfl
     obtain ⟨q215,x216,rfl⟩:=H.rowform (i:=2) rfl
     refine aZ (i:=0) E H (wn rfl) rfl rfl rfl rfl rfl rfl dA rfl rfl fun w H=>nt<|?_
     refine ⟨⟨_,_,H,(aB (t1 mm6) (aB (t2 mm6) (aL))),(aM)⟩,?_⟩
     refine cP rfl<|?_
     obtain ⟨q217,x218,rfl⟩:=H.rowform (i:=3) rfl
     obtain ⟨q219,x220,rfl⟩:=H.rowform (i:=4) rfl
     refine aZ (i:=5) E H (wn rfl) rfl rfl rfl rfl rfl rfl dA rfl rfl fun w H=>nt<|dW<|?_
     clear hI
     exact aC<|have H:=H.drs [3,3,3,5];have H:=H.frs [2,2,4,3,4,5] rfl;X6 ⟨E.to rfl,H,hs43,hr44,hm⟩
    ·refine al E H rfl rfl rfl rfl jN fun p221 w a H E=>nt<|?_
     refine ⟨⟨_,_,H,(aB mm3 (aB mm4 (aL))),(aM)⟩,?_⟩
     refine cJ rfl<|cG E rfl rfl rfl rfl rfl j9 (jL (x1:=(⟨l3,l5⟩:bB)) H (hs43 _ hr30) (hs43 _ hr31) hr44 hx61)<|?_
     rintro _ w ⟨v224,v225,v226,v227,rfl,H⟩ a E
     refine nt<|?_
     refine ⟨⟨_,_,H,(aB (t1 mm6) (aB (t2 mm6) (aL))),(aM)⟩,?_⟩
     refine aW E rfl (wn rfl) rfl rfl (fun w hW=>(bD E rfl rfl)) fun a E=>aW E rfl (wn rfl) rfl rfl (fun w hW=>(cX E rfl rfl rfl)) fun a E=>aW E rfl (wn rfl) rfl rfl (fun w hW=>(cX E rfl rfl rfl)) fun a E=>cJ rfl<|?_
     obtain ⟨q228,x229,rfl⟩:=H.rowform (i:=0) rfl
     obtain ⟨q230,x231,rfl⟩:=H.rowform (i:=1) rfl
     refine aZ (i:=4) E H (wn rfl) rfl rfl rfl rfl rfl rfl dA rfl rfl fun w H=>nt<|?_
     refine ⟨⟨_,_,H,(aB (t1 mm6) (aB (t2 mm6) (aL))),(aM)⟩,?_⟩
     refine cP rfl<|?_
     obtain ⟨q232,x233,rfl⟩:=H.rowform (i:=2) rfl
     obtain ⟨q234,x235,rfl⟩:=H.rowform (i:=3) rfl
     refine aZ (i:=5) E H (wn rfl) rfl rfl rfl rfl rfl rfl dA rfl rfl fun w H=>nt<|dW<|?_
     clear hI
     exact aC<|have H:=H.drs [2,2,3,5];have H:=H.frs [1,1,4,3,4,5] rfl;X6 ⟨E.to rfl,H,hs43,hr44,hm⟩
  ·clear E H hm
   rintro a w ⟨p48,v49,v51,l50,l52,rs53,E,H,hs54,hr55,hm⟩
   unfold qG at hm
   refine sq<|pr 1 E rfl fun a E=>lb E H 1 rfl rfl rfl rfl rfl rfl rfl U2 rfl fun a E=>sv E rfl rfl rfl (cA (i:=2) (us:=[v49,v51]) E H rfl rfl rfl rfl U25 rfl dA) fun a E=>?_
   obtain ⟨q56,x57,rfl⟩:=H.rowform (i:=4) rfl
   obtain ⟨q58,x59,rfl⟩:=H.rowform (i:=5) rfl
   refine sv E rfl rfl rfl (cI E rfl (E.evs rfl) (v:=.agg #[.int .i64 0,.int .i64 0,.bool false,.int .i64 u45.1.Epoch,.slice none 0 0,(.slice q56 l50.length x57),(.slice q58 l52.length x59),.slice none 0 0,.slice none 0 0,.slice none 0 0]) (by kernel_rfl)) fun a E=>aZ (i:=0) E H (wn rfl) rfl rfl rfl rfl rfl rfl bU rfl rfl fun w H=>nt<|wp_ret<|dH E rfl (cV (i:=0) (us:=[.int .i64 0,.int .i64 0,.bool false,.int .i64 u45.1.Epoch,.slice none 0 0,(.slice q56 l50.length x57),(.slice q58 l52.length x59),.slice none 0 0,.slice none 0 0,.slice none 0 0]) H rfl rfl rfl U48 rfl bU)<|have H:=H.thaw (i:=4) rfl;have H:=H.thaw (i:=4) rfl;have H:=H.nilSl bE;have H:=H.nilSl aV;?_
   refine have H:=H.nilSl bL;have H:=H.nilSl (kI .i64);have H:=H.drs [0,0,0];?_
   cases hm
   exact X7 ⟨rfl,H.reads (aA mm3 (aA mm5 (aA mm4 (aA mm2 (aA mm1 (aA m0 (aA (t6 hr55) (fun r hr=>(t6 (hs54 r hr))))))))))⟩

def qY (l2:List aH) (s3:ByteArray) (x4:Int) (b11:Bool):Option ((List aH)×Bool):=
  if b11=true then (some ([],false)) else ((xE l2 (⟨s3,x4,1⟩:aH)).bind fun u14=>some (u14.1,u14.2))
def lI (l2:List aH) (s3:ByteArray) (x4:Int) (b6:Bool):Option ((List aH)×Bool):=
  if b6=true then (some ([],false)) else ((uY l2 s3).bind fun u9=>if u9.2=true then ((idx l2 u9.1).bind fun x18=>qY l2 s3 x4 (decide (x18.Epoch ≥ x4))) else (qY l2 s3 x4 false))
def zF (l2:List aH) (s3:ByteArray) (x4:Int):Option ((List aH)×Bool):=
  (oL l2).bind fun u21=>if (!u21)=true then (lI l2 s3 x4 true) else ((fA s3).bind fun u24=>if (!u24)=true then (lI l2 s3 x4 true) else (if (decide (x4 < 0))=true then (lI l2 s3 x4 true) else (lI l2 s3 x4 (decide (x4 > 281474976710656)))))
theorem Av {w:World} {Fo:List Ob} {rs:List Rp} {v1:Value} {l2:List aH} {s3:ByteArray} {x4:Int} (H:Sep w (Fo) rs) (hr5:rSl aS v1 l2 ∈ rs) {r:(List aH)×Bool} (hm:zF l2 s3 x4=some r) :
    Calls Tryz.prog 79 [v1,.string s3,.int .i64 x4].toArray w (Ret fun v w'=>∃ y1,.tuple #[y1,.bool r.2]=v∧Sep w' (Row 31 aS y1 r.1::Fo) (rs)):=by
 unfold zF at hm
 refine ent Tryz.func79 rfl Tryz.ntmps79 rfl rfl fun a E=>sq<|pr 2 E rfl fun a E=>nt<|wp_seq<|aT (fun a w=>∃ b6 rs7,Env 49 a [(0,v1),(1,.string s3),(2,.int .i64 x4),(25,.bool b6)]∧Sep w (Fo) rs7∧(∀ r,r ∈ rs→r ∈ rs7)∧lI l2 s3 x4 b6=some r) ?_ ?_
 ·refine wp_region_lit<|pr 1 E rfl fun a E=>bd hm fun u21 hx22 hm=>xk E rfl rfl rfl rfl rfl Eh (tB H hr5 hx22) fun w H a E=>pr 2 E rfl fun a E=>cs hm (fun hb23 hm=>?_) fun hb23 hm=>?_
  ·exact pk 12 E (kc 13 rfl hb23) rfl fun a E=>nt<|⟨_,_,E.to rfl,H,Y0,hm⟩
  ·refine pk 1 E (kc 13 rfl hb23) rfl fun a E=>bd hm fun u24 hx25 hm=>aU E (ws' (d:=13) E rfl rfl rfl rfl hb23) rfl rfl (cC E rfl rfl (yU _)) (gC H hx25)<|?_
   rintro _ w ⟨rfl,H⟩ a E
   refine pk 3 E (kc 13 rfl hb23) rfl fun a E=>cs hm (fun hb26 hm=>?_) fun hb26 hm=>?_
   ·exact pk 7 E (kc 18 rfl hb26) rfl fun a E=>nt<|⟨_,_,E.to rfl,H,Y0,hm⟩
   ·refine pk 4 E (kc 18 rfl hb26) rfl fun a E=>cs hm (fun hb27 hm=>?_) fun hb27 hm=>?_
    ·exact pk 3 E (kc 22 rfl hb27) rfl fun a E=>nt<|⟨_,_,E.to rfl,H,Y0,hm⟩
    ·exact pk 3 E (kc 22 rfl hb27) rfl fun a E=>nt<|⟨_,_,E.to rfl,H,Y0,hm⟩
 ·clear E H hm
  rintro a w ⟨b6,rs7,E,H,hs8,hm⟩
  unfold lI at hm
  refine wif E hm rfl (fun hm=>?_) fun hm=>?_
  ·refine sq<|pr 2 E rfl fun a E=>nt<|wp_ret<|aP<|fX E rfl rfl rfl<|have H:=H.nilRow 31 aS;?_
   cases hm
   exact ⟨_,rfl,H.reads hs8⟩
  ·refine wp_skip<|aC<|wp_seq<|sq<|pr 2 E rfl fun a E=>bd hm fun u9 hx10 hm=>xk E rfl rfl rfl rfl rfl Hw (q6 H (hs8 _ hr5) hx10) fun w H a E=>pr 5 E rfl fun a E=>nt<|aT (fun a w=>∃ b11 rs12,Env 49 a [(0,v1),(1,.string s3),(2,.int .i64 x4),(41,.bool b11)]∧Sep w (Fo) rs12∧(∀ r,r ∈ rs→r ∈ rs12)∧qY l2 s3 x4 b11=some r) ?_ ?_
   ·refine wp_region_lit<|pr 2 E rfl fun a E=>cs hm (fun hb17 hm=>?_) fun hb17 hm=>?_
    ·exact pk 2 E (kc 33 rfl hb17) rfl fun a E=>bd hm fun x18 hx19 hm=>dE E H (ws' (d:=33) E rfl rfl rfl rfl hb17) rfl rfl rfl rfl rfl (hs8 _ hr5) U32 gL hx19 fun q20 a H E=>have H:=H.derive1 m0 (rAt (kI .i64) (q20.add 1) x18.Epoch) (fun ok h=>yS h);pk 1 E (kc 33 rfl hb17) rfl fun a E=>aQ E (ws' (d:=33) E rfl rfl rfl rfl hb17) rfl rfl (nT E H rfl rfl m0 U2 rfl) fun a E=>pk 3 E (kc 33 rfl hb17) rfl fun a E=>nt<|⟨_,_,E.to rfl,H,(Y2 hs8),hm⟩
    ·exact pk 8 E (kc 33 rfl hb17) rfl fun a E=>nt<|⟨_,_,E.to rfl,H,hs8,hm⟩
   ·clear E H hm
    rintro a w ⟨b11,rs12,E,H,hs13,hm⟩
    unfold qY at hm
    refine wif E hm rfl (fun hm=>?_) fun hm=>?_
    ·refine sq<|pr 2 E rfl fun a E=>nt<|wp_ret<|aP<|fX E rfl rfl rfl<|have H:=H.nilRow 31 aS;?_
     cases hm
     exact ⟨_,rfl,H.reads hs13⟩
    ·refine wp_skip<|aC<|sq<|pr 3 E rfl fun a E=>sv E rfl rfl rfl (cI E rfl (E.evs rfl) (v:=.agg #[.string s3,.int .i64 x4,.int .i64 1]) (by kernel_rfl)) fun a E=>bd hm fun u14 hx15 hm=>cG E rfl rfl rfl rfl rfl Hx (C4 (x3:=(⟨s3,x4,1⟩:aH)) H (hs13 _ hr5) hx15)<|?_
     rintro _ w ⟨v16,rfl,H⟩ a E
     refine pr 4 E rfl fun a E=>nt<|wp_ret<|fX E rfl rfl rfl<|?_
     cases hm
     exact ⟨_,rfl,H.reads hs13⟩

def rV (x1:aN) (l9:List aH) (l24:List aH):Option Bool:=
  (oU l9 x1.Dir).bind fun u36=>(oU l24 x1.Dir).bind fun u38=>if (decide (u36 < 0))=true then (some (true)) else (if (decide (u38 < 0))=true then (some (true)) else ((idx l9 u36).bind fun x44=>(idx l24 u38).bind fun x51=>some (!(sEq x44.Prefix x51.Prefix))))
theorem E9 {w:World} {Fo:List Ob} {rs:List Rp} {x1:aN} {p2 p3 p22:Nat} {v8 v23 v25 v26 v27 v28 v29 v30 v31 v32:Value} {l9 l24:List aH} (H:Sep w (Blk p2 28 [pt p3 0]::Blk p3 75 [v25,v26,v8,v27,v28,v29,v30,v31,v32]::Blk p22 32 [v23]::Fo) rs) (hr33:rSl aS v8 l9 ∈ rs) (hr34:rSl aS v23 l24 ∈ rs) {r:Bool} (hm:rV x1 l9 l24=some r) :
    Calls Tryz.prog 155 [.agg (nG x1).toArray,pt p2 0,pt p22 0].toArray w (Ret fun v w'=>.bool r=v∧Sep w' (Blk p2 28 [pt p3 0]::Blk p3 75 [v25,v26,v8,v27,v28,v29,v30,v31,v32]::Blk p22 32 [v23]::Fo) (rs)):=by
 unfold rV at hm
 refine ent Tryz.func155 rfl Tryz.ntmps155 rfl rfl fun a E=>sq<|bS E H (wn rfl) rfl rfl rfl rfl rfl fun p35 w a H E=>pr 1 E rfl fun a E=>nt<|wp_seq<|dw [(0,0),(1,0),(2,0),(3,0),(4,0),(5,0),(7,0),(8,0),(9,0),(6,1),(10,1),(11,1),(12,2)] [0,1,2,3] [] H (by kernel_rfl) (fun _ _ _ h=>False.elim h.2) fun w W0 hI H=>fb E rfl (wn rfl) rfl rfl rfl rfl mm1 rfl U28 rfl fun a E=>fn 2 E rfl fun a E=>?_
 refine fb E rfl (wn rfl) rfl rfl rfl rfl mm2 rfl U32 rfl fun a E=>fn 1 E rfl fun a E=>fb E rfl (wn rfl) rfl rfl rfl rfl m0 rfl U9 rfl fun a E=>fb E rfl (wn rfl) rfl rfl rfl rfl mm3 rfl U32 rfl fun a E=>fn 1 E rfl fun a E=>fb E rfl (wn rfl) rfl rfl rfl rfl m0 rfl U9 rfl fun a E=>bZ rfl<|bd hm fun u36 hx37 hm=>xk E rfl rfl rfl rfl rfl V4 (sK H hr33 hx37) fun w H a E=>?_
 refine nt<|?_
 refine ⟨⟨_,_,H,(aB m0 (aB mm1 (aB mm2 (aB mm3 (aL))))),(aM)⟩,?_⟩
 refine bZ rfl<|bd hm fun u38 hx39 hm=>xk E rfl rfl rfl rfl rfl V4 (sK H hr34 hx39) fun w H a E=>nt<|?_
 refine ⟨⟨_,_,H,(aB m0 (aB mm1 (aB mm2 (aB mm3 (aL))))),(aM)⟩,?_⟩
 refine bZ rfl<|pr 1 E rfl fun a E=>nt<|?_
 refine ⟨⟨_,_,H,(aB m0 (aB mm1 (aB mm2 (aB mm3 (aL))))),(aM)⟩,?_⟩
 refine bQ rfl<|pr 1 E rfl fun a E=>nt<|bR<|?_
 clear hI
 refine aC<|wp_seq<|?_
 obtain ⟨u40,H⟩:=H.raw hr33
 obtain ⟨u41,H⟩:=H.raw (t1 hr34)
 refine dw [(0,0),(1,0),(2,0),(3,0),(4,0),(5,0),(6,0),(7,0),(8,0),(9,0),(10,0),(11,0),(12,0),(13,0),(14,0),(15,0),(16,0),(17,0),(18,0),(19,0),(20,0),(21,0),(22,2)] [1,2,3] [1,0] H (by kernel_rfl) (fun _ _ _ h=>False.elim h.2) fun w W0 hI H=>fn 3 E rfl fun a E=>cs hm (fun hb42 hm=>?_) fun hb42 hm=>?_
 ·refine fk 19 E (kc 20 rfl hb42) rfl fun a E=>bQ rfl<|pr 1 E rfl fun a E=>nt<|bR<|?_
  clear hI
  refine aC<|wp_ret<|aY E rfl rfl<|have H:=H.drop 0;?_
  cases hm
  exact ⟨rfl,H.reads (Y2 Y0)⟩
 ·refine fk 4 E (kc 20 rfl hb42) rfl fun a E=>cs hm (fun hb43 hm=>?_) fun hb43 hm=>?_
  ·refine fk 15 E (kc 24 rfl hb43) rfl fun a E=>bQ rfl<|pr 1 E rfl fun a E=>nt<|bR<|?_
   clear hI
   refine aC<|wp_ret<|aY E rfl rfl<|have H:=H.drop 0;?_
   cases hm
   exact ⟨rfl,H.reads (Y2 Y0)⟩
  ·refine fb E rfl (ws' (d:=24) E rfl rfl rfl rfl hb43) rfl rfl rfl rfl m0 rfl U28 rfl fun a E=>fk 2 E (kc 24 rfl hb43) rfl fun a E=>fb E rfl (ws' (d:=24) E rfl rfl rfl rfl hb43) rfl rfl rfl rfl mm1 rfl U32 rfl fun a E=>fk 1 E (kc 24 rfl hb43) rfl fun a E=>bd hm fun x44 hx45 hm=>?_
   obtain ⟨q46,u49,hx47,hx48⟩:=oO (P:=Tryz.prog) (k:=.i64) hI (oN (.head _)) U32 gL hx45
   refine bW E rfl (ws' (d:=24) E rfl rfl rfl rfl hb43) rfl rfl (fun w hW=>rI E rfl rfl rfl (hx47 w)) fun a E=>?_
   have hx50:=uU hx48 (fun _ _ _ h=>nV h)
   refine fk 1 E (kc 24 rfl hb43) rfl fun a E=>fa E rfl (ws' (d:=24) E rfl rfl rfl rfl hb43) rfl rfl rfl rfl hx50 U9 rfl fun a E=>fb E rfl (ws' (d:=24) E rfl rfl rfl rfl hb43) rfl rfl rfl rfl mm2 rfl U32 rfl fun a E=>fk 1 E (kc 24 rfl hb43) rfl fun a E=>bd hm fun x51 hx52 hm=>?_
   obtain ⟨q53,u56,hx54,hx55⟩:=oO (P:=Tryz.prog) (k:=.i64) hI (oN (.tail _ (.head _))) U32 gL hx52
   refine bW E rfl (ws' (d:=24) E rfl rfl rfl rfl hb43) rfl rfl (fun w hW=>rI E rfl rfl rfl (hx54 w)) fun a E=>?_
   have hx57:=uU hx55 (fun _ _ _ h=>nV h)
   refine fk 1 E (kc 24 rfl hb43) rfl fun a E=>fa E rfl (ws' (d:=24) E rfl rfl rfl rfl hb43) rfl rfl rfl rfl hx57 U9 rfl fun a E=>fk 2 E (kc 24 rfl hb43) rfl fun a E=>bQ rfl<|pr 1 E rfl fun a E=>nt<|bR<|?_
   clear hI
   refine aC<|wp_ret<|aY E rfl rfl<|have H:=H.drop 0;?_
   cases hm
   exact ⟨rfl,H.reads (Y2 Y0)⟩

def eW (l2:List aN) (l10:List aH) (l25:List aH):Nat→Int→Option Int
  | 0,_=>none
  | k1+1,x37=>
    if (decide (x37 < (l2.length:Int)))=true then ((idx l2 x37).bind fun x40=>(rV x40 l10 l25).bind fun u43=>if u43=true then (some (x37)) else (eW l2 l10 l25 k1 (IntKind.i64.wrap (x37+1)))) else (some ((-1)))
def iM (l2:List aN) (l10:List aH) (l25:List aH):Option Int:=
  eW l2 l10 l25 (((l2.length:Int) - 0:Int).toNat+1) 0
theorem tZ {w:World} {Fo:List Ob} {rs:List Rp} {v1 v9 v24 v26 v27 v28 v29 v30 v31 v32 v33:Value} {l2:List aN} {p3 p4 p23:Nat} {l10 l25:List aH} (H:Sep w (Blk p3 28 [pt p4 0]::Blk p4 75 [v26,v27,v9,v28,v29,v30,v31,v32,v33]::Blk p23 32 [v24]::Fo) rs) (hr34:rSl bG v1 l2 ∈ rs) (hr35:rSl aS v9 l10 ∈ rs) (hr36:rSl aS v24 l25 ∈ rs) {r:Int} (hm:iM l2 l10 l25=some r) :
    Calls Tryz.prog 120 [v1,.func (.func 155) #[] #[pt p3 0,pt p23 0]].toArray w (Ret fun v w'=>.int .i64 r=v∧Sep w' (Blk p3 28 [pt p4 0]::Blk p4 75 [v26,v27,v9,v28,v29,v30,v31,v32,v33]::Blk p23 32 [v24]::Fo) (rs)):=by
 unfold iM at hm
 refine ent Tryz.func120 rfl Tryz.ntmps120 rfl rfl fun a E=>sq<|pr 1 E rfl fun a E=>nt<|wp_seq<|sq<|pr 1 E rfl fun a E=>sv E rfl rfl rfl (cR E H rfl rfl hr34 U62) fun a E=>pr 1 E rfl fun a E=>?_
 refine nt<|wp_block<|bX (fun k1 a w=>∃ x37 rs38,Env 19 a [(0,v1),(1,.func (.func 155) #[] #[pt p3 0,pt p23 0]),(7,.int .i64 (l2.length:Int)),(8,.int .i64 x37)]∧Sep w (Blk p3 28 [pt p4 0]::Blk p23 32 [v24]::Blk p4 75 [v26,v27,v9,v28,v29,v30,v31,v32,v33]::Fo) rs38∧(∀ r,r ∈ rs→r ∈ rs38)∧eW l2 l10 l25 k1 x37=some r) (((l2.length:Int) - 0:Int).toNat+1) ?_ ?_
 ·exact have H:=H.frs [1,2,2] rfl;⟨_,_,E.to rfl,H,Y0,hm⟩
 ·clear E H hm
  rintro k1 a w ⟨x37,rs38,E,H,hs39,hm⟩
  cases k1 with
  | zero=>exact (bT hm rfl).elim
  | succ k1=>
   unfold eW at hm
   refine sq<|pr 1 E rfl fun a E=>nt<|wp_seq<|wif E hm rfl (fun hm=>?_) fun hm=>?_
   ·refine wp_skip<|aC<|wp_seq<|wp_block<|sq<|pr 2 E rfl fun a E=>nx<|pr 3 E rfl fun a E=>bd hm fun x40 hx41 hm=>?_
    refine dE E H (wn rfl) rfl rfl rfl rfl rfl (hs39 _ hr34) U62 gQ hx41 fun q42 a H E=>ldf eC E H rfl rfl rfl rfl rfl m0 j8 rfl gQ fun a E=>have H:=H.frs [1,2,2] rfl;bd hm fun u43 hx44 hm=>aU E (wn rfl) rfl rfl (bP E rfl rfl rfl (Ww _)) (E9 H (t1 (hs39 _ hr35)) (t1 (hs39 _ hr36)) hx44)<|?_
    rintro _ w ⟨rfl,H⟩ a E
    refine nt<|wif E hm rfl (fun hm=>?_) fun hm=>?_
    ·refine sq<|pr 2 E rfl fun a E=>nt<|wp_ret<|bV<|aP<|aP<|bV<|aP<|?_
     refine aY E rfl rfl<|?_
     cases hm
     exact ⟨rfl,H.reads (Y1 hs39)⟩
    ·exact wp_skip<|bY<|aC<|wp_region_lit<|pr 2 E rfl fun a E=>nt<|have H:=H.frs [1,2,2] rfl;⟨k1,Nat.lt_succ_self k1,_,_,E.to rfl,H,(Y1 hs39),hm⟩
   ·refine wp_exit<|bH<|bH<|dG<|aC<|sq<|pr 1 E rfl fun a E=>nt<|wp_ret<|?_
    refine aY E rfl rfl<|have H:=H.frs [1,2,2] rfl;?_
    cases hm
    exact ⟨rfl,H.reads hs39⟩

def gU (l2:List aN) (l10:List aH) (l25:List aH):Option Bool:=
  (iM l2 l10 l25).bind fun u37=>some (decide (u37 ≥ 0))
theorem sD {w:World} {Fo:List Ob} {rs:List Rp} {v1 v9 v24 v26 v27 v28 v29 v30 v31 v32 v33:Value} {l2:List aN} {p3 p4 p23:Nat} {l10 l25:List aH} (H:Sep w (Blk p3 28 [pt p4 0]::Blk p4 75 [v26,v27,v9,v28,v29,v30,v31,v32,v33]::Blk p23 32 [v24]::Fo) rs) (hr34:rSl bG v1 l2 ∈ rs) (hr35:rSl aS v9 l10 ∈ rs) (hr36:rSl aS v24 l25 ∈ rs) {r:Bool} (hm:gU l2 l10 l25=some r) :
    Calls Tryz.prog 127 [v1,.func (.func 155) #[] #[pt p3 0,pt p23 0]].toArray w (Ret fun v w'=>.bool r=v∧Sep w' (Blk p3 28 [pt p4 0]::Blk p4 75 [v26,v27,v9,v28,v29,v30,v31,v32,v33]::Blk p23 32 [v24]::Fo) (rs)):=by
 unfold gU at hm
 refine ent Tryz.func127 rfl Tryz.ntmps127 rfl rfl fun a E=>sq<|pr 1 E rfl fun a E=>nx<|pr 2 E rfl fun a E=>bd hm fun u37 hx38 hm=>xk E rfl rfl rfl rfl rfl Ag (tZ H hr34 hr35 hr36 hx38) fun w H a E=>pr 2 E rfl fun a E=>nt<|?_
 refine wp_ret<|aY E rfl rfl<|?_
 cases hm
 exact ⟨rfl,H.reads Y0⟩

def uA (l7:List aH) (l9:List aN) (l21:List aH):Option Bool:=
  (gU l9 l7 l21).bind fun u36=>some (u36)
theorem K1 {w:World} {Fo:List Ob} {rs:List Rp} {p1:Nat} {v6 v8 v20 v22 v23 v24 v25 v26 v27 v28:Value} {l7 l21:List aH} {l9:List aN} (H:Sep w (Blk p1 75 [v22,v23,v6,v8,v24,v25,v26,v27,v28]::Fo) rs) (hr29:rSl aS v6 l7 ∈ rs) (hr30:rSl bG v8 l9 ∈ rs) (hr31:rSl aS v20 l21 ∈ rs) {r:Bool} (hm:uA l7 l9 l21=some r) :
    Calls Tryz.prog 81 [pt p1 0,v20].toArray w (Ret fun v w'=>.bool r=v∧Sep w' (Blk p1 75 [v22,v23,v6,v8,v24,v25,v26,v27,v28]::Fo) (rs)):=by
 unfold uA at hm
 refine ent Tryz.func81 rfl Tryz.ntmps81 rfl rfl fun a E=>sq<|bS E H (wn rfl) rfl rfl rfl rfl rfl fun p32 w a H E=>?_
 obtain ⟨q34,x35,rfl⟩:=H.slform hr31
 refine bS E H (wn rfl) rfl rfl rfl rfl rfl fun p33 w a H E=>pr 1 E rfl fun a E=>nx<|lb E H 1 rfl rfl rfl rfl rfl rfl rfl U28 rfl fun a E=>pr 2 E rfl fun a E=>lb E H 2 rfl rfl rfl rfl rfl rfl rfl U62 rfl fun a E=>sv E rfl rfl rfl (iP E rfl rfl rfl) fun a E=>have H:=H.frs [0,2,2] rfl;bd hm fun u36 hx37 hm=>?_
 refine xk E rfl rfl rfl rfl rfl Hy (sD H hr30 hr29 hr31 hx37) fun w H a E=>pr 1 E rfl fun a E=>nt<|wp_ret<|aY E rfl rfl<|have H:=H.drs [0,1];?_
 cases hm
 exact ⟨rfl,H.reads Y0⟩

def wG (x1:aH) (s2:ByteArray):Option Int:=
  (jZ x1.Prefix s2).bind fun u4=>some (u4)
theorem F1 {w:World} {Fo:List Ob} {rs:List Rp} {x1:aH} {s2:ByteArray} (H:Sep w (Fo) rs) {r:Int} (hm:wG x1 s2=some r) :
    Calls Tryz.prog 153 [.agg (kN x1).toArray,.string s2].toArray w (Ret fun v w'=>.int .i64 r=v∧Sep w' (Fo) (rs)):=by
 unfold wG at hm
 refine ent Tryz.func153 rfl Tryz.ntmps153 rfl rfl fun a E=>sq<|bS E H (wn rfl) rfl rfl rfl rfl rfl fun p3 w a H E=>pr 1 E rfl fun a E=>nx<|pr 1 E rfl fun a E=>lb E H 0 rfl rfl rfl rfl rfl rfl rfl U9 rfl fun a E=>pr 1 E rfl fun a E=>bd hm fun u4 hx5 hm=>?_
 refine xk E rfl rfl rfl rfl rfl Er (oP H hx5) fun w H a E=>pr 1 E rfl fun a E=>nt<|wp_ret<|aY E rfl rfl<|have H:=H.drop 0;?_
 cases hm
 exact ⟨rfl,H.reads Y0⟩

def cW (l2:List aH) (s3:ByteArray):Nat→Int→Int→Option (Int×Bool)
  | 0,_,_=>none
  | k1+1,x4,x5=>
    if (decide (x4 < x5))=true then ((idx l2 (IntKind.i64.wrap (pH .u64 (IntKind.u64.wrap (IntKind.i64.wrap (x4+x5))) 1))).bind fun x8=>(wG x8 s3).bind fun u13=>if (decide (u13 < 0))=true then (cW l2 s3 k1 (IntKind.i64.wrap ((IntKind.i64.wrap (pH .u64 (IntKind.u64.wrap (IntKind.i64.wrap (x4+x5))) 1))+1)) x5) else (cW l2 s3 k1 x4 (IntKind.i64.wrap (pH .u64 (IntKind.u64.wrap (IntKind.i64.wrap (x4+x5))) 1)))) else (if (decide (x4 < (l2.length:Int)))=true then ((idx l2 x4).bind fun x16=>(wG x16 s3).bind fun u21=>some (x4,u21 == 0)) else (some (x4,false)))
def eF (l2:List aH) (s3:ByteArray):Option (Int×Bool):=
  cW l2 s3 (((l2.length:Int) - 0:Int).toNat+1) 0 (l2.length:Int)
theorem nR {w:World} {Fo:List Ob} {rs:List Rp} {v1:Value} {l2:List aH} {s3:ByteArray} (H:Sep w (Row 31 aS v1 l2::Fo) rs) {r:Int×Bool} (hm:eF l2 s3=some r) :
    Calls Tryz.prog 152 [v1,.string s3,.func (.func 153) #[] #[]].toArray w (Ret fun v w'=>.tuple #[.int .i64 r.1,.bool r.2]=v∧Sep w' (Row 31 aS v1 l2::Fo) (rs)):=by
 unfold eF at hm
 refine ent Tryz.func152 rfl Tryz.ntmps152 rfl rfl fun a E=>sq<|pr 2 E rfl fun a E=>nx<|pr 1 E rfl fun a E=>sv E rfl rfl rfl (iZ (i:=0) E H rfl rfl rfl U32) fun a E=>pr 1 E rfl fun a E=>nx<|pr 3 E rfl fun a E=>?_
 refine nt<|wp_seq<|wp_block<|bX (fun k1 a w=>∃ x4 x5 rs6,Env 49 a [(0,v1),(1,.string s3),(2,.func (.func 153) #[] #[]),(8,.int .i64 (l2.length:Int)),(9,.int .i64 x4),(10,.int .i64 x5)]∧Sep w (Row 31 aS v1 l2::Fo) rs6∧(∀ r,r ∈ rs→r ∈ rs6)∧cW l2 s3 k1 x4 x5=some r) (((l2.length:Int) - 0:Int).toNat+1) ?_ ?_
 ·exact X3 ⟨E.to rfl,H,Y0,hm⟩
 ·clear E H hm
  rintro k1 a w ⟨x4,x5,rs6,E,H,hs7,hm⟩
  cases k1 with
  | zero=>exact (bT hm rfl).elim
  | succ k1=>
   unfold cW at hm
   refine wp_seq<|sq<|pr 3 E rfl fun a E=>nt<|wif E hm rfl (fun hm=>?_) fun hm=>?_
   ·refine wp_skip<|aC<|wp_block<|sq<|pr 4 E rfl fun a E=>sv E rfl rfl rfl (F7 E rfl rfl rfl (by decide)) fun a E=>pr 2 E rfl fun a E=>nx<|pr 3 E rfl fun a E=>?_
    refine bd hm fun x8 hx9 hm=>?_
    obtain ⟨p10,x11,hx12⟩:=H.rowformNE (i:=0) rfl hx9
    refine sv E rfl rfl rfl (cY (d:=aS) E hx12 rfl rfl rfl rfl U32 gL hx9) fun a E=>sv E rfl rfl rfl (fZ (i:=0) E H gZ hx12 rfl rfl rfl hx9 (us:=[.string x8.Prefix,.int .i64 x8.Epoch,.int .i64 x8.State]) rfl U31 rfl gL) fun a E=>pr 1 E rfl fun a E=>bd hm fun u13 hx14 hm=>aU E (wn rfl) rfl rfl (bP E rfl rfl rfl (Me _)) (F1 H hx14)<|?_
    rintro _ w ⟨rfl,H⟩ a E
    refine pr 1 E rfl fun a E=>nt<|wif E hm rfl (fun hm=>?_) fun hm=>?_
    ·exact wp_region_lit<|pr 3 E rfl fun a E=>wpList_nil<|bY<|aC<|⟨k1,Nat.lt_succ_self k1,X3 ⟨E.to rfl,H,hs7,hm⟩⟩
    ·exact wp_region_lit<|pr 2 E rfl fun a E=>wpList_nil<|bY<|aC<|⟨k1,Nat.lt_succ_self k1,X3 ⟨E.to rfl,H,hs7,hm⟩⟩
   ·refine wp_exit<|bH<|bH<|dG<|aC<|sq<|pr 5 E rfl fun a E=>cs hm (fun hb15 hm=>?_) fun hb15 hm=>?_
    ·refine pk 3 E (kc 39 rfl hb15) rfl fun a E=>bd hm fun x16 hx17 hm=>?_
     obtain ⟨p18,x19,hx20⟩:=H.rowformNE (i:=0) rfl hx17
     refine aQ E (ws' (d:=39) E rfl rfl rfl rfl hb15) rfl rfl (cY (d:=aS) E hx20 rfl rfl rfl rfl U32 gL hx17) fun a E=>aQ E (ws' (d:=39) E rfl rfl rfl rfl hb15) rfl rfl (fZ (i:=0) E H gZ hx20 rfl rfl rfl hx17 (us:=[.string x16.Prefix,.int .i64 x16.Epoch,.int .i64 x16.State]) rfl U31 rfl gL) fun a E=>pk 1 E (kc 39 rfl hb15) rfl fun a E=>bd hm fun u21 hx22 hm=>aU E (ws' (d:=39) E rfl rfl rfl rfl hb15) rfl rfl (bP E rfl rfl rfl (Me _)) (F1 H hx22)<|?_
     rintro _ w ⟨rfl,H⟩ a E
     refine pk 4 E (kc 39 rfl hb15) rfl fun a E=>nt<|wp_ret<|fX E rfl rfl rfl<|?_
     cases hm
     exact ⟨rfl,H.reads hs7⟩
    ·refine pk 11 E (kc 39 rfl hb15) rfl fun a E=>nt<|wp_ret<|fX E rfl rfl rfl<|?_
     cases hm
     exact ⟨rfl,H.reads hs7⟩

def uL (rec_1:(List aH)→Int→Option (List aH)) (x8:Int) (l12:(List aH)):Option (List aH):=
  rec_1 l12 (IntKind.i64.wrap (x8+1))
def oE (l4:List ByteArray):Nat→(List aH)→Int→Option (List aH)
  | 0,_,_=>none
  | k1+1,l7,x8=>
    if (decide (x8 < (l4.length:Int)))=true then ((idx l4 x8).bind fun x15=>(eF l7 x15).bind fun u18=>if (!u18.2)=true then ((ck (0 ≤ u18.1∧u18.1 ≤ l7.length∧l7.length ≤ 1000000)).bind fun u21=>uL (oE l4 k1) x8 (l7.take u18.1.toNat ++ (⟨x15,0,3⟩:aH)::l7.drop u18.1.toNat)) else (uL (oE l4 k1) x8 l7)) else (some (l7))
def r6 (l2:List aH) (l4:List ByteArray):Option (List aH):=
  oE l4 (((l4.length:Int) - 0:Int).toNat+1) l2 0
theorem Fa {w:World} {Fo:List Ob} {rs:List Rp} {v1 v3:Value} {l2:List aH} {l4:List ByteArray} (H:Sep w (Row 31 aS v1 l2::Fo) rs) (hr5:rSl kS v3 l4 ∈ rs) {r:(List aH)} (hm:r6 l2 l4=some r) :
    Calls Tryz.prog 80 [v1,v3].toArray w (Ret fun v w'=>∃ y1,y1=v∧Sep w' (Row 31 aS y1 r::Fo) (rs)):=by
 unfold r6 at hm
 refine ent Tryz.func80 rfl Tryz.ntmps80 rfl rfl fun a E=>sq<|pr 1 E rfl fun a E=>nt<|wp_seq<|sq<|pr 1 E rfl fun a E=>sv E rfl rfl rfl (cR E H rfl rfl hr5 U33) fun a E=>pr 1 E rfl fun a E=>?_
 refine nt<|wp_block<|bX (fun k1 a w=>∃ v6 l7 x8 rs9,Env 31 a [(0,v6),(9,v3),(10,.int .i64 (l4.length:Int)),(11,.int .i64 x8)]∧Sep w (Row 31 aS v6 l7::Fo) rs9∧(∀ r,r ∈ rs→r ∈ rs9)∧oE l4 k1 l7 x8=some r) (((l4.length:Int) - 0:Int).toNat+1) ?_ ?_
 ·exact X4 ⟨E.to rfl,H,Y0,hm⟩
 ·clear E H hm
  rintro k1 a w ⟨v6,l7,x8,rs9,E,H,hs10,hm⟩
  cases k1 with
  | zero=>exact (bT hm rfl).elim
  | succ k1=>
   unfold oE at hm
   refine sq<|pr 1 E rfl fun a E=>nt<|wp_seq<|wif E hm rfl (fun hm=>?_) fun hm=>?_
   ·refine wp_skip<|aC<|aT (fun a w=>∃ v11 l12 rs13,Env 31 a [(0,v11),(9,v3),(10,.int .i64 (l4.length:Int)),(11,.int .i64 x8)]∧Sep w (Row 31 aS v11 l12::Fo) rs13∧(∀ r,r ∈ rs→r ∈ rs13)∧uL (oE l4 k1) x8 l12=some r) ?_ ?_
    ·refine wp_block<|sq<|bd hm fun x15 hx16 hm=>dE E H (wn rfl) rfl rfl rfl rfl rfl (hs10 _ hr5) U33 sz9 hx16 fun q17 a H E=>sv E rfl rfl rfl (nT E H rfl rfl m0 U9 rfl) fun a E=>pr 1 E rfl fun a E=>nx<|pr 2 E rfl fun a E=>bd hm fun u18 hx19 hm=>?_
     refine xk E rfl rfl rfl rfl rfl Ma (nR H hx19) fun w H a E=>pr 5 E rfl fun a E=>nx<|pr 2 E rfl fun a E=>nt<|wif E hm rfl (fun hm=>?_) fun hm=>?_
     ·refine wp_region_lit<|pr 3 E rfl fun a E=>sv E rfl rfl rfl (cI E rfl (E.evs rfl) (v:=.agg #[.string x15,.int .i64 0,.int .i64 3]) (by kernel_rfl)) fun a E=>fY (e:=31) (d:=aS) (cs:=[.string x15,.int .i64 0,.int .i64 3]) (xs:=[(⟨x15,0,3⟩:aH)]) E H (wn rfl) rfl rfl rfl (E.evs rfl) (by kernel_rfl) rfl rfl (fun ok hr=>(Rows.single (d:=aS) (cs:=[.string x15,.int .i64 0,.int .i64 3]) (x:=(⟨x15,0,3⟩:aH)) rR)) fun v20 w a H E=>bk hm fun hx22 hm=>aU E (wn rfl) rfl rfl (cC E rfl rfl (Mc _)) (Ra.insert_a (ix:=1) (iu:=0) H rfl rfl (by decide) hx22) fun v23 w H a E=>pr 1 E rfl fun a E=>wpList_nil<|bY<|?_
      exact aC<|have H:=H.drop 0;X3 ⟨E.to rfl,H,(Y1 hs10),hm⟩
     ·exact wp_skip<|bY<|aC<|X3 ⟨E.to rfl,H,(Y1 hs10),hm⟩
    ·clear E H hm
     rintro a w ⟨v11,l12,rs13,E,H,hs14,hm⟩
     unfold uL at hm
     exact wp_region_lit<|pr 2 E rfl fun a E=>nt<|⟨k1,Nat.lt_succ_self k1,X4 ⟨E.to rfl,H,hs14,hm⟩⟩
   ·refine wp_exit<|bH<|bH<|dG<|aC<|sq<|pr 2 E rfl fun a E=>nt<|wp_ret<|?_
    refine aY E rfl rfl<|?_
    cases hm
    exact ⟨_,rfl,H.reads hs10⟩

def pP (x20:bA) (l50:(List aH)) (l78:(List aE)) (l80:(List aI)):Option (aG×(List aE)×(List aI)×(List aH)):=
  (tL x20.Store l50 x20.Prefix).bind fun u84=>(ck (l78.length+u84.1.length ≤ LIM)).bind fun u101=>(ck (l80.length+u84.2.1.length ≤ LIM)).bind fun u106=>(ck ((l78 ++ u84.1).length ≤ 1000000)).bind fun u110=>(ck ((l80 ++ u84.2.1).length ≤ 1000000)).bind fun u112=>some ((⟨0,0,false,0,[],(⟨[],[]⟩:bB),[],[],[]⟩:aG),srtN (l78 ++ u84.1),Tn.srtN (l80 ++ u84.2.1),l50)
def lU (x20:bA) (l50:(List aH)) (l3:List aE) (l5:List aI) (l7:List aH) (b64:Bool):Option (aG×(List aE)×(List aI)×(List aH)):=
  if b64=true then ((dM 131).bind fun u68=>some (u68,l3,l5,l7)) else ((tL (⟨l3,l5⟩:bB) l50 x20.Prefix).bind fun u116=>pP x20 l50 u116.2.2.1 u116.2.2.2)
def lV (x20:bA) (l50:(List aH)) (l3:List aE) (l5:List aI) (l7:List aH) (l9:List aN) (b53:Bool):Option (aG×(List aE)×(List aI)×(List aH)):=
  if b53=true then ((dM 2).bind fun u56=>some (u56,l3,l5,l7)) else ((qX l9 l50 x20.Prefix).bind fun u292=>if u292=true then (lU x20 l50 l3 l5 l7 u292) else ((uA l7 l9 l50).bind fun u294=>lU x20 l50 l3 l5 l7 u294))
def lW (x20:bA) (l3:List aE) (l5:List aI) (l7:List aH) (l9:List aN) (u46:(List aH)×Bool) (l50:(List aH)):Option (aG×(List aE)×(List aI)×(List aH)):=
  if (!u46.2)=true then (lV x20 l50 l3 l5 l7 l9 (!u46.2)) else (lV x20 l50 l3 l5 l7 l9 (decide ((l50.length:Int) > 32)))
def lX (x20:bA) (l3:List aE) (l5:List aI) (l7:List aH) (l9:List aN) (b43:Bool):Option (aG×(List aE)×(List aI)×(List aH)):=
  if b43=true then (some ((⟨0,0,false,0,[],(⟨[],[]⟩:bB),[],[],[]⟩:aG),l3,l5,l7)) else ((zF l7 x20.Prefix x20.Epoch).bind fun u46=>if u46.2=true then ((r6 u46.1 x20.Gone).bind fun u296=>lW x20 l3 l5 l7 l9 u46 u296) else (lW x20 l3 l5 l7 l9 u46 u46.1))
def rW (l3:List aE) (l5:List aI) (l7:List aH) (l9:List aN) (x20:bA):Option (aG×(List aE)×(List aI)×(List aH)):=
  (nQ l7 x20.Prefix).bind fun u40=>if u40.2=true then (lX x20 l3 l5 l7 l9 (decide (u40.1.Epoch ≥ x20.Epoch))) else (lX x20 l3 l5 l7 l9 false)
theorem F2 {w:World} {Fo:List Ob} {rs:List Rp} {p1:Nat} {v2 v4 v6 v8 v21 v22 v23 v24 v25 v26 v27 v28 v29:Value} {l3:List aE} {l5:List aI} {l7:List aH} {l9:List aN} {x20:bA} (H:Sep w (Blk p1 75 [v2,v4,v6,v8,v25,v26,v27,v28,v29]::Fo) rs) (hr30:rSl aF v2 l3 ∈ rs) (hr31:rSl aJ v4 l5 ∈ rs) (hr32:rSl aS v6 l7 ∈ rs) (hr33:rSl bG v8 l9 ∈ rs) (hr35:rSl aF v22 x20.Store.Nodes ∈ rs) (hr36:rSl aJ v23 x20.Store.Turns ∈ rs) (hr37:rSl kS v24 x20.Gone ∈ rs) {r:aG×(List aE)×(List aI)×(List aH)} (hm:rW l3 l5 l7 l9 x20=some r) :
    Calls Tryz.prog 30 [pt p1 0,.agg (aR x20 v21 v22 v23 v24).toArray].toArray w (Ret fun v w'=>∃ y2 y3 y4 y5 y6 y7 y8 y10 y12,.agg (bC r.1 y2 y3 y4 y5 y6 y7).toArray=v∧Sep w' (Blk p1 75 [y8,y10,y12,v8,v25,v26,v27,v28,v29]::Fo) (rSl bE y2 r.1.Results::rSl aF y3 r.1.Store.Nodes::rSl aJ y4 r.1.Store.Turns::rSl aV y5 r.1.Events::rSl bL y6 r.1.Mounts::rSl (kI .i64) y7 r.1.Wounded::rSl aF y8 r.2.1::rSl aJ y10 r.2.2.1::rSl aS y12 r.2.2.2::rs)):=by
 unfold rW at hm
 refine ent Tryz.func30 rfl Tryz.ntmps30 rfl rfl fun a E=>sq<|bS E H (wn rfl) rfl rfl rfl rfl rfl fun p38 w a H E=>al E H rfl rfl rfl rfl gN fun p39 w a H E=>nt<|wp_seq<|sq<|pr 2 E rfl fun a E=>lb E H 1 rfl rfl rfl rfl rfl rfl rfl U9 rfl fun a E=>?_
 refine have H:=H.frs [1,1,2] rfl;bd hm fun u40 hx41 hm=>xk E rfl rfl rfl rfl rfl Ku (vE H hr32 hx41) fun w H a E=>pr 3 E rfl fun a E=>al E H rfl rfl rfl rfl Bd fun p42 w a H E=>aZ (i:=0) E H (wn rfl) rfl rfl rfl rfl rfl rfl gL rfl rfl fun w H=>pr 1 E rfl fun a E=>nt<|aT (fun a w=>∃ b43 rs44,Env 110 a [(0,pt p1 0),(3,pt p38 0),(4,pt p39 0),(27,.bool b43)]∧Sep w (Blk p1 75 [v2,v4,v6,v8,v25,v26,v27,v28,v29]::Blk p38 37 (aR x20 v21 v22 v23 v24)::Blk p39 48 bN::Fo) rs44∧(∀ r,r ∈ rs→r ∈ rs44)∧lX x20 l3 l5 l7 l9 b43=some r) ?_ ?_
 ·refine wp_region_lit<|pr 2 E rfl fun a E=>cs hm (fun hb299 hm=>?_) fun hb299 hm=>?_
  ·exact pk 1 E (kc 21 rfl hb299) rfl fun a E=>aQ E (ws' (d:=21) E rfl rfl rfl rfl hb299) rfl rfl (cD (i:=0) E H rfl rfl rfl rfl U2 rfl) fun a E=>pk 1 E (kc 21 rfl hb299) rfl fun a E=>aQ E (ws' (d:=21) E rfl rfl rfl rfl hb299) rfl rfl (cD (i:=3) E H rfl rfl rfl rfl U2 rfl) fun a E=>pk 2 E (kc 21 rfl hb299) rfl fun a E=>nt<|have H:=H.drop 0;have H:=H.frs [1,2,2] rfl;⟨decide (u40.1.Epoch ≥ x20.Epoch),_,E.sel [0,3,4,27] rfl,H,fun r hr=>hr,hm⟩
  ·exact pk 6 E (kc 21 rfl hb299) rfl fun a E=>nt<|have H:=H.drop 0;have H:=H.frs [1,2,2] rfl;⟨false,_,E.sel [0,3,4,27] rfl,H,fun r hr=>hr,hm⟩
 ·clear E H hm
  rintro a w ⟨b43,rs44,E,H,hs45,hm⟩
  unfold lX at hm
  refine wif E hm rfl (fun hm=>?_) fun hm=>?_
  ·refine sq<|sv E rfl rfl rfl (cI E rfl (E.evs rfl) (v:=.agg bN.toArray) (by kernel_rfl)) fun a E=>aZ (i:=2) E H (wn rfl) rfl rfl rfl rfl rfl rfl bU rfl rfl fun w H=>?_
   replace H:Sep w (Blk p1 75 [v2,v4,v6,v8,v25,v26,v27,v28,v29]::Blk p38 37 (aR x20 v21 v22 v23 v24)::Blk p39 48 bN::Fo) _:=H
   refine nt<|wp_ret<|aP<|dH E rfl (cV (i:=2) (us:=bN) H rfl rfl rfl U48 rfl bU)<|have H:=H.nilSl bE;have H:=H.nilSl aF;have H:=H.nilSl aJ;have H:=H.nilSl aV;have H:=H.nilSl bL;?_
   refine have H:=H.nilSl (kI .i64);have H:=H.drs [1,1];?_
   cases hm
   exact ⟨(.slice none 0 0),(.slice none 0 0),(.slice none 0 0),(.slice none 0 0),(.slice none 0 0),(.slice none 0 0),v2,v4,v6,rfl,H.reads (aA mm5 (aA mm4 (aA mm3 (aA mm2 (aA mm1 (aA m0 (aA (t6 (hs45 _ hr30)) (aA (t6 (hs45 _ hr31)) (aA (t6 (hs45 _ hr32)) (fun r hr=>(t6 (hs45 r hr))))))))))))⟩
  ·refine wp_skip<|aC<|wp_seq<|dw [(0,0),(1,0),(2,0),(3,0),(4,0),(5,0),(6,0),(7,0),(8,1),(9,0),(10,0),(11,0),(12,1),(13,2)] [0,1] [] H (by kernel_rfl) (fun _ _ _ h=>False.elim h.2) fun w W0 hI H=>fn 3 E rfl fun a E=>fb E rfl (wn rfl) rfl rfl rfl rfl m0 rfl U32 rfl fun a E=>fn 1 E rfl fun a E=>fb E rfl (wn rfl) rfl rfl rfl rfl mm1 rfl U9 rfl fun a E=>fn 1 E rfl fun a E=>?_
   refine fb E rfl (wn rfl) rfl rfl rfl rfl mm1 rfl U2 rfl fun a E=>bZ rfl<|bd hm fun u46 hx47 hm=>cG E rfl rfl rfl rfl rfl Yt (Av H (hs45 _ hr32) hx47)<|?_
   rintro _ w ⟨v48,rfl,H⟩ a E
   refine nt<|?_
   refine ⟨⟨_,_,H,(aB mm1 (aB mm2 (aL))),(aM)⟩,?_⟩
   refine fn 3 E rfl fun a E=>bZ rfl<|pr 1 E rfl fun a E=>nt<|?_
   refine ⟨⟨_,_,H,(aB mm1 (aB mm2 (aL))),(aM)⟩,?_⟩
   refine bQ rfl<|pr 1 E rfl fun a E=>nt<|bR<|?_
   clear hI
   refine aC<|aT (fun a w=>∃ v49 l50 rs51,Env 110 a [(0,pt p1 0),(3,pt p38 0),(4,pt p39 0),(7,v49),(8,.bool u46.2)]∧Sep w (Blk p1 75 [v2,v4,v6,v8,v25,v26,v27,v28,v29]::Blk p38 37 (aR x20 v21 v22 v23 v24)::Blk p39 48 bN::Row 31 aS v49 l50::Fo) rs51∧(∀ r,r ∈ rs→r ∈ rs51)∧lW x20 l3 l5 l7 l9 u46 l50=some r) ?_ ?_
   ·refine sq<|pr 1 E rfl fun a E=>nt<|wif E hm rfl (fun hm=>?_) fun hm=>?_
    ·refine wp_region_lit<|pr 2 E rfl fun a E=>lb E H 2 rfl rfl rfl rfl rfl rfl rfl U33 rfl fun a E=>bd hm fun u296 hx297 hm=>cG E rfl rfl rfl rfl rfl Yu (Fa H (hs45 _ hr37) hx297)<|?_
     rintro _ w ⟨v298,rfl,H⟩ a E
     exact pr 1 E rfl fun a E=>nt<|have H:=H.frs [0,3,3,3] rfl;⟨v298,u296,_,E.sel [0,3,4,7,8] rfl,H,hs45,hm⟩
    ·exact wp_skip<|aC<|have H:=H.frs [0,3,3,3] rfl;⟨v48,u46.1,_,E.sel [0,3,4,7,8] rfl,H,hs45,hm⟩
   ·clear E H hm
    rintro a w ⟨v49,l50,rs51,E,H,hs52,hm⟩
    unfold lW at hm
    refine wp_seq<|wp_block<|aT (fun a w=>∃ b53 rs54,Env 110 a [(0,pt p1 0),(3,pt p38 0),(4,pt p39 0),(7,v49),(46,.bool b53)]∧Sep w (Blk p1 75 [v2,v4,v6,v8,v25,v26,v27,v28,v29]::Blk p38 37 (aR x20 v21 v22 v23 v24)::Blk p39 48 bN::Row 31 aS v49 l50::Fo) rs54∧(∀ r,r ∈ rs→r ∈ rs54)∧lV x20 l50 l3 l5 l7 l9 b53=some r) ?_ ?_
    ·refine sq<|pr 3 E rfl fun a E=>nt<|wif E hm rfl (fun hm=>?_) fun hm=>?_
     ·exact wp_skip<|aC<|⟨!u46.2,_,E.sel [0,3,4,7,46] rfl,H,hs52,hm⟩
     ·exact wp_region_lit<|pr 1 E rfl fun a E=>sv E rfl rfl rfl (iZ (i:=3) E H rfl rfl rfl U32) fun a E=>pr 2 E rfl fun a E=>nt<|⟨decide ((l50.length:Int) > 32),_,E.sel [0,3,4,7,46] rfl,H,hs52,hm⟩
    ·clear E H hm
     rintro a w ⟨b53,rs54,E,H,hs55,hm⟩
     unfold lV at hm
     refine wif E hm rfl (fun hm=>?_) fun hm=>?_
     ·refine sq<|bd hm fun u56 hx57 hm=>cG E rfl rfl rfl rfl rfl tM (dT H hx57)<|?_
      rintro _ w ⟨v58,v59,v60,v61,v62,v63,rfl,H⟩ a E
      refine aZ (i:=2) E H (wn rfl) rfl rfl rfl rfl rfl rfl bU rfl (bF H m0 mm1 mm2 mm3 mm4 mm5) fun w H=>nt<|wp_ret<|bV<|aP<|dH E rfl (cV (i:=2) (us:=(bC u56 v58 v59 v60 v61 v62 v63)) H rfl rfl rfl U48 rfl bU)<|have H:=H.drs [1,1,1];?_
      cases hm
      exact ⟨v58,v59,v60,v61,v62,v63,v2,v4,v6,rfl,H.reads (aA m0 (aA mm1 (aA mm2 (aA mm3 (aA mm4 (aA mm5 (aA (t6 (hs55 _ hr30)) (aA (t6 (hs55 _ hr31)) (aA (t6 (hs55 _ hr32)) (fun r hr=>(t6 (hs55 r hr))))))))))))⟩
     ·refine aT (fun a w=>∃ b64 rs65,Env 110 a [(0,pt p1 0),(3,pt p38 0),(4,pt p39 0),(7,v49),(53,.bool b64)]∧Sep w (Blk p1 75 [v2,v4,v6,v8,v25,v26,v27,v28,v29]::Blk p38 37 (aR x20 v21 v22 v23 v24)::Blk p39 48 bN::Fo) rs65∧(∀ r,r ∈ rs→r ∈ rs65)∧rSl aS v49 l50 ∈ rs65∧lU x20 l50 l3 l5 l7 b64=some r) ?_ ?_
      ·refine sq<|pr 3 E rfl fun a E=>lb E H 1 rfl rfl rfl rfl rfl rfl rfl U9 rfl fun a E=>have H:=H.thaw (i:=3) rfl;bd hm fun u292 hx293 hm=>xk E rfl rfl rfl rfl rfl Rq (j2 H (t1 (hs55 _ hr33)) m0 hx293) fun w H a E=>pr 1 E rfl fun a E=>nt<|wif E hm rfl (fun hm=>?_) fun hm=>?_
       ·exact wp_skip<|aC<|⟨u292,_,E.sel [0,3,4,7,53] rfl,H,fun r hr=>(t1 (hs55 r hr)),m0,hm⟩
       ·exact wp_region_lit<|pr 2 E rfl fun a E=>bd hm fun u294 hx295 hm=>xk E rfl rfl rfl rfl rfl Yv (K1 H (t1 (hs55 _ hr32)) (t1 (hs55 _ hr33)) m0 hx295) fun w H a E=>pr 1 E rfl fun a E=>nt<|⟨u294,_,E.sel [0,3,4,7,53] rfl,H,fun r hr=>(t1 (hs55 r hr)),m0,hm⟩
      ·clear E H hm
       rintro a w ⟨b64,rs65,E,H,hs66,hr67,hm⟩
       unfold lU at hm
       refine wif E hm rfl (fun hm=>?_) fun hm=>?_
       ·refine sq<|bd hm fun u68 hx69 hm=>cG E rfl rfl rfl rfl rfl tM (dT H hx69)<|?_
        rintro _ w ⟨v70,v71,v72,v73,v74,v75,rfl,H⟩ a E
        refine aZ (i:=2) E H (wn rfl) rfl rfl rfl rfl rfl rfl bU rfl (bF H m0 mm1 mm2 mm3 mm4 mm5) fun w H=>?_
        replace H:Sep w (Blk p1 75 [v2,v4,v6,v8,v25,v26,v27,v28,v29]::Blk p38 37 (aR x20 v21 v22 v23 v24)::Blk p39 48 (bC u68 v70 v71 v72 v73 v74 v75)::Fo) _:=H
        refine nt<|wp_ret<|bV<|aP<|dH E rfl (cV (i:=2) (us:=(bC u68 v70 v71 v72 v73 v74 v75)) H rfl rfl rfl U48 rfl bU)<|have H:=H.drs [1,1];?_
        cases hm
        exact ⟨v70,v71,v72,v73,v74,v75,v2,v4,v6,rfl,H.reads (aA m0 (aA mm1 (aA mm2 (aA mm3 (aA mm4 (aA mm5 (aA (t6 (hs66 _ hr30)) (aA (t6 (hs66 _ hr31)) (aA (t6 (hs66 _ hr32)) (fun r hr=>(t6 (hs66 r hr))))))))))))⟩
       ·refine wp_skip<|bY<|aC<|aT (fun a w=>∃ p76 v77 v79 l78 l80 rs81,Env 110 a [(0,pt p1 0),(3,pt p38 0),(4,pt p39 0),(7,v49),(10,pt p76 0)]∧Sep w (Blk p1 75 [v2,v4,v6,v8,v25,v26,v27,v28,v29]::Blk p38 37 (aR x20 v21 v22 v23 v24)::Blk p39 48 bN::Blk p76 25 [v77,v79]::Row 95 aF v77 l78::Row 77 aJ v79 l80::Fo) rs81∧(∀ r,r ∈ rs→r ∈ rs81)∧rSl aS v49 l50 ∈ rs81∧pP x20 l50 l78 l80=some r) ?_ ?_
        ·refine bd hm fun u116 hx117 hm=>?_
         have hI:dP [Blk p1 75 [v2,v4,v6,v8,v25,v26,v27,v28,v29],Blk p38 37 (aR x20 v21 v22 v23 v24)] [] { w with drawn:=w.drawn+1 }:=⟨_,_,H.kept (Kp.drawn _ w _),(aB m0 (aB mm1 (aL))),(aM)⟩
         refine jY _ (.go 0 0 (.go 1 0 (.go 2 0 (.go 3 0 (.go 4 0 (.go 5 0 (.go 6 0 (.alt3 7 (.go 8 0 (.go 9 0 (.go 10 0 (.alt 11 (.go 12 1 (.go 13 1 (.go 14 2 .nil))) 12 (.go 11 1 (.go 13 1 (.go 14 2 .nil))))))) 11 (.alt 7 (.go 8 0 (.go 9 0 (.go 10 0 (.go 12 1 (.go 13 1 (.go 14 2 .nil)))))) 12 (.go 7 1 (.go 8 0 (.go 9 0 (.go 10 0 (.go 13 1 (.go 14 2 .nil))))))) 12 (.alt 7 (.go 8 0 (.go 9 0 (.go 10 0 (.go 11 1 (.go 13 1 (.go 14 2 .nil)))))) 11 (.go 7 1 (.go 8 0 (.go 9 0 (.go 10 0 (.go 13 1 (.go 14 2 .nil))))))))))))))) [14] kG (by kernel_rfl) (fun _ _ _ h=>False.elim h.2) hI<|have H:=H.kept (Kp.drawn _ w (w.drawn+1));?_
         generalize ({ w with drawn:=w.drawn+1 }:World)=w at H hI ⊢
         replace hI:∃ W,dP [Blk p1 75 [v2,v4,v6,v8,v25,v26,v27,v28,v29],Blk p38 37 (aR x20 v21 v22 v23 v24)] [] W:=⟨_,hI⟩
         obtain ⟨W0,hI⟩:=hI
         refine aW E rfl (wn rfl) rfl rfl (fun w hW=>(bD E rfl rfl)) fun a E=>aW E rfl (wn rfl) rfl rfl (fun w hW=>(sF E rfl rfl)) fun a E=>aW E rfl (wn rfl) rfl rfl (fun w hW=>iY E rfl rfl (v:=pt p1 0) (Ah _ _)) fun a E=>aW E rfl (wn rfl) rfl rfl (fun w hW=>eZ E rfl rfl (yN (us:=[v2,v4]) m0 rfl U25 rfl dA w hW)) fun a E=>aW E rfl (wn rfl) rfl rfl (fun w hW=>(bD E rfl rfl)) fun a E=>aW E rfl (wn rfl) rfl rfl (fun w hW=>iY E rfl rfl (v:=pt p38 6) (Ek _ _)) fun a E=>aW E rfl (wn rfl) rfl rfl (fun w hW=>eZ E rfl rfl (kD mm1 rfl U9 rfl w hW)) fun a E=>?_
         refine Ga rfl rfl rfl ?_ ?_ ?_
         ·refine cG E rfl rfl rfl rfl rfl j9 (jL (x1:=(⟨l3,l5⟩:bB)) H (hs66 _ hr30) (hs66 _ hr31) hr67 hx117)<|?_
          rintro _ w ⟨v206,v207,v208,v209,rfl,H⟩ a E
          refine nt<|?_
          refine ⟨⟨_,_,H,(aB mm4 (aB mm5 (aL))),(aM)⟩,?_⟩
          refine aW E rfl (wn rfl) rfl rfl (fun w hW=>(bD E rfl rfl)) fun a E=>aW E rfl (wn rfl) rfl rfl (fun w hW=>(cX E rfl rfl rfl)) fun a E=>aW E rfl (wn rfl) rfl rfl (fun w hW=>(cX E rfl rfl rfl)) fun a E=>?_
          refine kM rfl rfl ?_ ?_
          ·refine al E H rfl rfl rfl rfl jN fun p210 w a H E=>nt<|?_
           refine ⟨⟨_,_,H,(aB mm5 (aB mm6 (aL))),(aM)⟩,?_⟩
           refine cJ rfl<|al E H rfl rfl rfl rfl jN fun p211 w a H E=>nt<|?_
           refine ⟨⟨_,_,H,(aB mm6 (aB (t1 mm6) (aL))),(aM)⟩,?_⟩
           refine cJ rfl<|?_
           obtain ⟨q212,x213,rfl⟩:=H.rowform (i:=2) rfl
           obtain ⟨q214,x215,rfl⟩:=H.rowform (i:=3) rfl
           refine aZ (i:=1) E H (wn rfl) rfl rfl rfl rfl rfl rfl dA rfl rfl fun w H=>?_
           replace H:Sep w (Blk p211 25 [.slice none 0 0,.slice none 0 0]::Blk p210 25 [(.slice q212 u116.1.length x213),(.slice q214 u116.2.1.length x215)]::Row 95 aF (.slice q212 u116.1.length x213) u116.1::Row 77 aJ (.slice q214 u116.2.1.length x215) u116.2.1::Row 95 aF v208 u116.2.2.1::Row 77 aJ v209 u116.2.2.2::Blk p1 75 [v2,v4,v6,v8,v25,v26,v27,v28,v29]::Blk p38 37 (aR x20 v21 v22 v23 v24)::Blk p39 48 bN::Fo) _:=H
           refine nt<|?_
           refine ⟨⟨_,_,H,(aB mm6 (aB (t1 mm6) (aL))),(aM)⟩,?_⟩
           refine cP rfl<|?_
           obtain ⟨q216,x217,rfl⟩:=H.rowform (i:=4) rfl
           obtain ⟨q218,x219,rfl⟩:=H.rowform (i:=5) rfl
           refine aZ (i:=0) E H (wn rfl) rfl rfl rfl rfl rfl rfl dA rfl rfl fun w H=>nt<|dW<|?_
           clear hI
           exact aC<|have H:=H.drs [1,1,1];have H:=H.frs [2,2,2,5,5,5] rfl;⟨p211,(.slice q216 u116.2.2.1.length x217),(.slice q218 u116.2.2.2.length x219),u116.2.2.1,u116.2.2.2,_,E.sel [0,3,4,7,10] rfl,H,hs66,hr67,hm⟩
          ·refine al E H rfl rfl rfl rfl jN fun p220 w a H E=>nt<|?_
           refine ⟨⟨_,_,H,(aB mm5 (aB mm6 (aL))),(aM)⟩,?_⟩
           refine cJ rfl<|al E H rfl rfl rfl rfl jN fun p221 w a H E=>nt<|?_
           refine ⟨⟨_,_,H,(aB mm6 (aB (t1 mm6) (aL))),(aM)⟩,?_⟩
           refine cJ rfl<|?_
           obtain ⟨q222,x223,rfl⟩:=H.rowform (i:=2) rfl
           obtain ⟨q224,x225,rfl⟩:=H.rowform (i:=3) rfl
           refine aZ (i:=0) E H (wn rfl) rfl rfl rfl rfl rfl rfl dA rfl rfl fun w H=>?_
           replace H:Sep w (Blk p221 25 [(.slice q222 u116.1.length x223),(.slice q224 u116.2.1.length x225)]::Blk p220 25 [.slice none 0 0,.slice none 0 0]::Row 95 aF (.slice q222 u116.1.length x223) u116.1::Row 77 aJ (.slice q224 u116.2.1.length x225) u116.2.1::Row 95 aF v208 u116.2.2.1::Row 77 aJ v209 u116.2.2.2::Blk p1 75 [v2,v4,v6,v8,v25,v26,v27,v28,v29]::Blk p38 37 (aR x20 v21 v22 v23 v24)::Blk p39 48 bN::Fo) _:=H
           refine nt<|?_
           refine ⟨⟨_,_,H,(aB mm6 (aB (t1 mm6) (aL))),(aM)⟩,?_⟩
           refine cP rfl<|?_
           obtain ⟨q226,x227,rfl⟩:=H.rowform (i:=4) rfl
           obtain ⟨q228,x229,rfl⟩:=H.rowform (i:=5) rfl
           refine aZ (i:=1) E H (wn rfl) rfl rfl rfl rfl rfl rfl dA rfl rfl fun w H=>nt<|dW<|?_
           clear hI
           exact aC<|have H:=H.drs [0,1,1];have H:=H.frs [2,2,2,5,5,5] rfl;⟨p220,(.slice q226 u116.2.2.1.length x227),(.slice q228 u116.2.2.2.length x229),u116.2.2.1,u116.2.2.2,_,E.sel [0,3,4,7,10] rfl,H,hs66,hr67,hm⟩
         ·refine al E H rfl rfl rfl rfl jN fun p230 w a H E=>nt<|?_
          refine ⟨⟨_,_,H,(aB mm1 (aB mm2 (aL))),(aM)⟩,?_⟩
          refine kM rfl rfl ?_ ?_
          ·refine cG E rfl rfl rfl rfl rfl j9 (jL (x1:=(⟨l3,l5⟩:bB)) H (hs66 _ hr30) (hs66 _ hr31) hr67 hx117)<|?_
           rintro _ w ⟨v233,v234,v235,v236,rfl,H⟩ a E
           refine nt<|?_
           refine ⟨⟨_,_,H,(aB mm5 (aB mm6 (aL))),(aM)⟩,?_⟩
           refine aW E rfl (wn rfl) rfl rfl (fun w hW=>(bD E rfl rfl)) fun a E=>aW E rfl (wn rfl) rfl rfl (fun w hW=>(cX E rfl rfl rfl)) fun a E=>aW E rfl (wn rfl) rfl rfl (fun w hW=>(cX E rfl rfl rfl)) fun a E=>cJ rfl<|al E H rfl rfl rfl rfl jN fun p237 w a H E=>nt<|?_
           replace H:Sep w (Blk p237 25 [.slice none 0 0,.slice none 0 0]::Row 95 aF v233 u116.1::Row 77 aJ v234 u116.2.1::Row 95 aF v235 u116.2.2.1::Row 77 aJ v236 u116.2.2.2::Blk p230 25 [.slice none 0 0,.slice none 0 0]::Blk p1 75 [v2,v4,v6,v8,v25,v26,v27,v28,v29]::Blk p38 37 (aR x20 v21 v22 v23 v24)::Blk p39 48 bN::Fo) (rs65):=H
           refine ⟨⟨_,_,H,(aB mm6 (aB (t1 mm6) (aL))),(aM)⟩,?_⟩
           refine cJ rfl<|?_
           obtain ⟨q238,x239,rfl⟩:=H.rowform (i:=1) rfl
           obtain ⟨q240,x241,rfl⟩:=H.rowform (i:=2) rfl
           refine aZ (i:=5) E H (wn rfl) rfl rfl rfl rfl rfl rfl dA rfl rfl fun w H=>nt<|?_
           refine ⟨⟨_,_,H,(aB mm6 (aB (t1 mm6) (aL))),(aM)⟩,?_⟩
           refine cP rfl<|?_
           obtain ⟨q242,x243,rfl⟩:=H.rowform (i:=3) rfl
           obtain ⟨q244,x245,rfl⟩:=H.rowform (i:=4) rfl
           refine aZ (i:=0) E H (wn rfl) rfl rfl rfl rfl rfl rfl dA rfl rfl fun w H=>nt<|dW<|?_
           clear hI
           exact aC<|have H:=H.drs [1,1,3];have H:=H.frs [2,2,2,5,5,5] rfl;⟨p237,(.slice q242 u116.2.2.1.length x243),(.slice q244 u116.2.2.2.length x245),u116.2.2.1,u116.2.2.2,_,E.sel [0,3,4,7,10] rfl,H,hs66,hr67,hm⟩
          ·refine al E H rfl rfl rfl rfl jN fun p246 w a H E=>nt<|?_
           refine ⟨⟨_,_,H,(aB mm2 (aB mm3 (aL))),(aM)⟩,?_⟩
           refine cJ rfl<|cG E rfl rfl rfl rfl rfl j9 (jL (x1:=(⟨l3,l5⟩:bB)) H (hs66 _ hr30) (hs66 _ hr31) hr67 hx117)<|?_
           rintro _ w ⟨v249,v250,v251,v252,rfl,H⟩ a E
           refine nt<|?_
           replace H:Sep w (Row 95 aF v249 u116.1::Row 77 aJ v250 u116.2.1::Row 95 aF v251 u116.2.2.1::Row 77 aJ v252 u116.2.2.2::Blk p246 25 [.slice none 0 0,.slice none 0 0]::Blk p230 25 [.slice none 0 0,.slice none 0 0]::Blk p1 75 [v2,v4,v6,v8,v25,v26,v27,v28,v29]::Blk p38 37 (aR x20 v21 v22 v23 v24)::Blk p39 48 bN::Fo) (rs65):=H
           refine ⟨⟨_,_,H,(aB mm6 (aB (t1 mm6) (aL))),(aM)⟩,?_⟩
           refine aW E rfl (wn rfl) rfl rfl (fun w hW=>(bD E rfl rfl)) fun a E=>aW E rfl (wn rfl) rfl rfl (fun w hW=>(cX E rfl rfl rfl)) fun a E=>aW E rfl (wn rfl) rfl rfl (fun w hW=>(cX E rfl rfl rfl)) fun a E=>cJ rfl<|?_
           obtain ⟨q253,x254,rfl⟩:=H.rowform (i:=0) rfl
           obtain ⟨q255,x256,rfl⟩:=H.rowform (i:=1) rfl
           refine aZ (i:=5) E H (wn rfl) rfl rfl rfl rfl rfl rfl dA rfl rfl fun w H=>nt<|?_
           refine ⟨⟨_,_,H,(aB mm6 (aB (t1 mm6) (aL))),(aM)⟩,?_⟩
           refine cP rfl<|?_
           obtain ⟨q257,x258,rfl⟩:=H.rowform (i:=2) rfl
           obtain ⟨q259,x260,rfl⟩:=H.rowform (i:=3) rfl
           refine aZ (i:=4) E H (wn rfl) rfl rfl rfl rfl rfl rfl dA rfl rfl fun w H=>nt<|dW<|?_
           clear hI
           exact aC<|have H:=H.drs [0,0,3];have H:=H.frs [1,1,2,5,5,5] rfl;⟨p246,(.slice q257 u116.2.2.1.length x258),(.slice q259 u116.2.2.2.length x260),u116.2.2.1,u116.2.2.2,_,E.sel [0,3,4,7,10] rfl,H,hs66,hr67,hm⟩
         ·refine al E H rfl rfl rfl rfl jN fun p261 w a H E=>nt<|?_
          refine ⟨⟨_,_,H,(aB mm1 (aB mm2 (aL))),(aM)⟩,?_⟩
          refine kM rfl rfl ?_ ?_
          ·refine cG E rfl rfl rfl rfl rfl j9 (jL (x1:=(⟨l3,l5⟩:bB)) H (hs66 _ hr30) (hs66 _ hr31) hr67 hx117)<|?_
           rintro _ w ⟨v264,v265,v266,v267,rfl,H⟩ a E
           refine nt<|?_
           replace H:Sep w (Row 95 aF v264 u116.1::Row 77 aJ v265 u116.2.1::Row 95 aF v266 u116.2.2.1::Row 77 aJ v267 u116.2.2.2::Blk p261 25 [.slice none 0 0,.slice none 0 0]::Blk p1 75 [v2,v4,v6,v8,v25,v26,v27,v28,v29]::Blk p38 37 (aR x20 v21 v22 v23 v24)::Blk p39 48 bN::Fo) (rs65):=H
           refine ⟨⟨_,_,H,(aB mm5 (aB mm6 (aL))),(aM)⟩,?_⟩
           refine aW E rfl (wn rfl) rfl rfl (fun w hW=>(bD E rfl rfl)) fun a E=>aW E rfl (wn rfl) rfl rfl (fun w hW=>(cX E rfl rfl rfl)) fun a E=>aW E rfl (wn rfl) rfl rfl (fun w hW=>(cX E rfl rfl rfl)) fun a E=>cJ rfl<|al E H rfl rfl rfl rfl jN fun p268 w a H E=>nt<|?_
           refine ⟨⟨_,_,H,(aB mm6 (aB (t1 mm6) (aL))),(aM)⟩,?_⟩
           refine cJ rfl<|?_
           obtain ⟨q269,x270,rfl⟩:=H.rowform (i:=1) rfl
           obtain ⟨q271,x272,rfl⟩:=H.rowform (i:=2) rfl
           refine aZ (i:=0) E H (wn rfl) rfl rfl rfl rfl rfl rfl dA rfl rfl fun w H=>nt<|?_
           refine ⟨⟨_,_,H,(aB mm6 (aB (t1 mm6) (aL))),(aM)⟩,?_⟩
           refine cP rfl<|?_
           obtain ⟨q273,x274,rfl⟩:=H.rowform (i:=3) rfl
           obtain ⟨q275,x276,rfl⟩:=H.rowform (i:=4) rfl
           refine aZ (i:=5) E H (wn rfl) rfl rfl rfl rfl rfl rfl dA rfl rfl fun w H=>nt<|dW<|?_
           clear hI
           exact aC<|have H:=H.drs [0,0,0];have H:=H.frs [1,1,2,5,5,5] rfl;⟨p261,(.slice q273 u116.2.2.1.length x274),(.slice q275 u116.2.2.2.length x276),u116.2.2.1,u116.2.2.2,_,E.sel [0,3,4,7,10] rfl,H,hs66,hr67,hm⟩
          ·refine al E H rfl rfl rfl rfl jN fun p277 w a H E=>nt<|?_
           replace H:Sep w (Blk p277 25 [.slice none 0 0,.slice none 0 0]::Blk p261 25 [.slice none 0 0,.slice none 0 0]::Blk p1 75 [v2,v4,v6,v8,v25,v26,v27,v28,v29]::Blk p38 37 (aR x20 v21 v22 v23 v24)::Blk p39 48 bN::Fo) (rs65):=H
           refine ⟨⟨_,_,H,(aB mm2 (aB mm3 (aL))),(aM)⟩,?_⟩
           refine cJ rfl<|cG E rfl rfl rfl rfl rfl j9 (jL (x1:=(⟨l3,l5⟩:bB)) H (hs66 _ hr30) (hs66 _ hr31) hr67 hx117)<|?_
           rintro _ w ⟨v280,v281,v282,v283,rfl,H⟩ a E
           refine nt<|?_
           refine ⟨⟨_,_,H,(aB mm6 (aB (t1 mm6) (aL))),(aM)⟩,?_⟩
           refine aW E rfl (wn rfl) rfl rfl (fun w hW=>(bD E rfl rfl)) fun a E=>aW E rfl (wn rfl) rfl rfl (fun w hW=>(cX E rfl rfl rfl)) fun a E=>aW E rfl (wn rfl) rfl rfl (fun w hW=>(cX E rfl rfl rfl)) fun a E=>cJ rfl<|?_
           obtain ⟨q284,x285,rfl⟩:=H.rowform (i:=0) rfl
           obtain ⟨q286,x287,rfl⟩:=H.rowform (i:=1) rfl
           refine aZ (i:=4) E H (wn rfl) rfl rfl rfl rfl rfl rfl dA rfl rfl fun w H=>nt<|?_
           refine ⟨⟨_,_,H,(aB mm6 (aB (t1 mm6) (aL))),(aM)⟩,?_⟩
           refine cP rfl<|?_
           obtain ⟨q288,x289,rfl⟩:=H.rowform (i:=2) rfl
           obtain ⟨q290,x291,rfl⟩:=H.rowform (i:=3) rfl
           refine aZ (i:=5) E H (wn rfl) rfl rfl rfl rfl rfl rfl dA rfl rfl fun w H=>nt<|dW<|?_
           clear hI
           exact aC<|have H:=H.drs [0,0,2];have H:=H.frs [1,1,2,5,5,5] rfl;⟨p261,(.slice q288 u116.2.2.1.length x289),(.slice q290 u116.2.2.2.length x291),u116.2.2.1,u116.2.2.2,_,E.sel [0,3,4,7,10] rfl,H,hs66,hr67,hm⟩
        ·clear E H hm
         rintro a w ⟨p76,v77,v79,l78,l80,rs81,E,H,hs82,hr83,hm⟩
         unfold pP at hm
         refine sq<|pr 1 E rfl fun a E=>sv E rfl rfl rfl (cA (i:=1) (us:=[v22,v23]) E H rfl rfl rfl rfl U25 rfl dA) fun a E=>pr 2 E rfl fun a E=>lb E H 1 rfl rfl rfl rfl rfl rfl rfl U9 rfl fun a E=>bd hm fun u84 hx85 hm=>cG E rfl rfl rfl rfl rfl j9 (jL H (hs82 _ hr35) (hs82 _ hr36) hr83 hx85)<|?_
         rintro _ w ⟨v86,v87,v88,v89,rfl,H⟩ a E
         refine pr 3 E rfl fun a E=>al E H rfl rfl rfl rfl jN fun p90 w a H E=>al E H rfl rfl rfl rfl jN fun p91 w a H E=>?_
         obtain ⟨q92,x93,rfl⟩:=H.rowform (i:=2) rfl
         obtain ⟨q94,x95,rfl⟩:=H.rowform (i:=3) rfl
         refine aZ (i:=1) E H (wn rfl) rfl rfl rfl rfl rfl rfl dA rfl rfl fun w H=>?_
         replace H:Sep w (Blk p91 25 [.slice none 0 0,.slice none 0 0]::Blk p90 25 [(.slice q92 u84.1.length x93),(.slice q94 u84.2.1.length x95)]::Row 95 aF (.slice q92 u84.1.length x93) u84.1::Row 77 aJ (.slice q94 u84.2.1.length x95) u84.2.1::Row 95 aF v88 u84.2.2.1::Row 77 aJ v89 u84.2.2.2::Blk p1 75 [v2,v4,v6,v8,v25,v26,v27,v28,v29]::Blk p38 37 (aR x20 v21 v22 v23 v24)::Blk p39 48 bN::Blk p76 25 [v77,v79]::Row 95 aF v77 l78::Row 77 aJ v79 l80::Fo) _:=H
         obtain ⟨q96,x97,rfl⟩:=H.rowform (i:=4) rfl
         obtain ⟨q98,x99,rfl⟩:=H.rowform (i:=5) rfl
         refine aZ (i:=0) E H (wn rfl) rfl rfl rfl rfl rfl rfl dA rfl rfl fun w H=>nx<|pr 1 E rfl fun a E=>lb E H 9 rfl rfl rfl rfl rfl rfl rfl U22 rfl fun a E=>pr 1 E rfl fun a E=>lb E H 1 rfl rfl rfl rfl rfl rfl rfl U22 rfl fun a E=>bk hm fun hx102 hm=>dV (i:=10) E H (wn rfl) rfl rfl rfl rfl rfl rfl (O1 (i:=2) rfl) U22 Db rfl hx102 rfl fun v100 w a H E=>pr 1 E rfl fun a E=>?_
         obtain ⟨q103,x104,rfl⟩:=H.rowform (i:=10) rfl
         refine aZ (i:=9) E H (wn rfl) rfl rfl rfl rfl rfl rfl Bg rfl rfl fun w H=>nx<|pr 1 E rfl fun a E=>lb E H 9 rfl rfl rfl rfl rfl rfl rfl U23 rfl fun a E=>pr 1 E rfl fun a E=>lb E H 1 rfl rfl rfl rfl rfl rfl rfl U23 rfl fun a E=>bk hm fun hx107 hm=>dV (i:=11) E H (wn rfl) rfl rfl rfl rfl rfl rfl (O1 (i:=3) rfl) U23 Dc rfl hx107 rfl fun v105 w a H E=>pr 1 E rfl fun a E=>?_
         obtain ⟨q108,x109,rfl⟩:=H.rowform (i:=11) rfl
         refine aZ (i:=9) E H (wn rfl) rfl rfl rfl rfl rfl rfl G4 rfl rfl fun w H=>nx<|pr 1 E rfl fun a E=>lb E H 9 rfl rfl rfl rfl rfl rfl rfl U22 rfl fun a E=>bk hm fun hx111 hm=>cG E rfl rfl rfl rfl rfl Yw (sort_c (ix:=10) H rfl hx111)<|?_
         rintro _ w ⟨rfl,H⟩ a E
         refine nx<|pr 1 E rfl fun a E=>lb E H 9 rfl rfl rfl rfl rfl rfl rfl U23 rfl fun a E=>bk hm fun hx113 hm=>cG E rfl rfl rfl rfl rfl Yx (Tn.sort_c (ix:=11) H rfl hx113)<|?_
         rintro _ w ⟨rfl,H⟩ a E
         replace H:Sep w (Blk p91 25 [(.slice q96 u84.2.2.1.length x97),(.slice q98 u84.2.2.2.length x99)]::Blk p90 25 [(.slice q92 u84.1.length x93),(.slice q94 u84.2.1.length x95)]::Row 95 aF (.slice q92 u84.1.length x93) u84.1::Row 77 aJ (.slice q94 u84.2.1.length x95) u84.2.1::Row 95 aF (.slice q96 u84.2.2.1.length x97) u84.2.2.1::Row 77 aJ (.slice q98 u84.2.2.2.length x99) u84.2.2.2::Blk p1 75 [v2,v4,v6,v8,v25,v26,v27,v28,v29]::Blk p38 37 (aR x20 v21 v22 v23 v24)::Blk p39 48 bN::Blk p76 25 [(.slice q103 (l78 ++ u84.1).length x104),(.slice q108 (l80 ++ u84.2.1).length x109)]::Row 95 aF (.slice q103 (l78 ++ u84.1).length x104) (srtN (l78 ++ u84.1))::Row 77 aJ (.slice q108 (l80 ++ u84.2.1).length x109) (Tn.srtN (l80 ++ u84.2.1))::Fo) (rs81):=H
         refine nx<|pr 2 E rfl fun a E=>sv E rfl rfl rfl (cA (i:=9) (us:=[(.slice q103 (l78 ++ u84.1).length x104),(.slice q108 (l80 ++ u84.2.1).length x109)]) E H rfl rfl rfl rfl U25 rfl dA) fun a E=>pr 3 E rfl fun a E=>aZ (i:=6) E H (wn rfl) rfl rfl rfl rfl rfl rfl dA rfl rfl fun w H=>pr 2 E rfl fun a E=>?_
         obtain ⟨q114,x115,rfl⟩:=H.slform hr83
         refine aZ (i:=6) E H (wn rfl) rfl rfl rfl rfl rfl rfl Kt rfl rfl fun w H=>nx<|sv E rfl rfl rfl (cI E rfl (E.evs rfl) (v:=.agg bN.toArray) (by kernel_rfl)) fun a E=>aZ (i:=8) E H (wn rfl) rfl rfl rfl rfl rfl rfl bU rfl rfl fun w H=>nt<|wp_ret<|dH E rfl (cV (i:=8) (us:=bN) H rfl rfl rfl U48 rfl bU)<|have H:=H.nilSl bE;have H:=H.nilSl aF;?_
         refine have H:=H.nilSl aJ;have H:=H.nilSl aV;have H:=H.nilSl bL;have H:=H.nilSl (kI .i64);have H:=H.thaw (i:=10) rfl;have H:=H.thaw (i:=10) rfl;have H:=H.drs [0,0,0,0,0,0,1,1,1];?_
         cases hm
         exact ⟨(.slice none 0 0),(.slice none 0 0),(.slice none 0 0),(.slice none 0 0),(.slice none 0 0),(.slice none 0 0),(.slice q103 (l78 ++ u84.1).length x104),(.slice q108 (l80 ++ u84.2.1).length x109),(.slice q114 l50.length x115),rfl,H.reads (aA (t1 mm6) (aA mm6 (aA mm5 (aA mm4 (aA mm3 (aA mm2 (aA mm1 (aA m0 (aA (t8 hr83) (fun r hr=>(t8 (hs82 r hr))))))))))))⟩

def lJ (l11:List aK) (l13:List aD) (x20:bM) (l24:List bK) (x25:Int):Option (aG×(List aK)×(List aD)):=
  if (x25 != 0)=true then ((dM x25).bind fun u40=>some (u40,l11,l13)) else (some ((⟨0,0,false,0,[],(⟨[],[]⟩:bB),l24,[],[]⟩:aG),x20.Watches,x20.Sessions))
theorem rX {w:World} {Fo:List Ob} {rs:List Rp} {p1:Nat} {v10 v12 v21 v22 v23 v26 v27 v28 v29 v30 v31 v32:Value} {l11:List aK} {l13:List aD} {x20:bM} {l24:List bK} {x25:Int} (H:Sep w (Blk p1 75 [v26,v27,v28,v29,v10,v12,v30,v31,v32]::Fo) rs) (hr33:rSl aX v10 l11 ∈ rs) (hr34:rSl aO v12 l13 ∈ rs) (hr35:rSl aX v21 x20.Watches ∈ rs) (hr36:rSl aO v22 x20.Sessions ∈ rs) (hr37:rSl aV v23 l24 ∈ rs) {r:aG×(List aK)×(List aD)} (hm:lJ l11 l13 x20 l24 x25=some r) :
    Calls Tryz.prog 89 [pt p1 0,.agg #[v21,v22],v23,.int .i64 x25].toArray w (Ret fun v w'=>∃ y2 y3 y4 y5 y6 y7 y8 y10,.agg (bC r.1 y2 y3 y4 y5 y6 y7).toArray=v∧Sep w' (Blk p1 75 [v26,v27,v28,v29,y8,y10,v30,v31,v32]::Fo) (rSl bE y2 r.1.Results::rSl aF y3 r.1.Store.Nodes::rSl aJ y4 r.1.Store.Turns::rSl aV y5 r.1.Events::rSl bL y6 r.1.Mounts::rSl (kI .i64) y7 r.1.Wounded::rSl aX y8 r.2.1::rSl aO y10 r.2.2::rs)):=by
 unfold lJ at hm
 refine ent Tryz.func89 rfl Tryz.ntmps89 rfl rfl fun a E=>sq<|bS E H (wn rfl) rfl rfl rfl rfl rfl fun p38 w a H E=>al E H rfl rfl rfl rfl gN fun p39 w a H E=>nt<|wp_seq<|sq<|pr 2 E rfl fun a E=>nt<|wif E hm rfl (fun hm=>?_) fun hm=>?_
 ·refine sq<|pr 1 E rfl fun a E=>bd hm fun u40 hx41 hm=>cG E rfl rfl rfl rfl rfl tM (dT H hx41)<|?_
  rintro _ w ⟨v42,v43,v44,v45,v46,v47,rfl,H⟩ a E
  refine aZ (i:=0) E H (wn rfl) rfl rfl rfl rfl rfl rfl bU rfl (bF H m0 mm1 mm2 mm3 mm4 mm5) fun w H=>nt<|wp_ret<|aP<|dH E rfl (cV (i:=0) (us:=(bC u40 v42 v43 v44 v45 v46 v47)) H rfl rfl rfl U48 rfl bU)<|have H:=H.drs [0,0];?_
  cases hm
  exact X8 ⟨rfl,H.reads (aA m0 (aA mm1 (aA mm2 (aA mm3 (aA mm4 (aA mm5 (aA (t6 hr33) (aA (t6 hr34) (fun r hr=>(t6 hr))))))))))⟩
 ·refine wp_skip<|aC<|sq<|pr 1 E rfl fun a E=>sv E rfl rfl rfl (cA (i:=1) (us:=[v21,v22]) E H rfl rfl rfl rfl U73 rfl eE) fun a E=>pr 2 E rfl fun a E=>aZ (i:=2) E H (wn rfl) rfl rfl rfl rfl rfl rfl eE rfl (gB H hr35 hr36) fun w H=>nx<|pr 1 E rfl fun a E=>?_
  obtain ⟨q48,x49,rfl⟩:=H.slform hr37
  refine sv E rfl rfl rfl (cI E rfl (E.evs rfl) (v:=.agg #[.int .i64 0,.int .i64 0,.bool false,.int .i64 0,.slice none 0 0,.slice none 0 0,.slice none 0 0,(.slice q48 l24.length x49),.slice none 0 0,.slice none 0 0]) (by kernel_rfl)) fun a E=>aZ (i:=0) E H (wn rfl) rfl rfl rfl rfl rfl rfl bU rfl rfl fun w H=>nt<|wp_ret<|dH E rfl (cV (i:=0) (us:=[.int .i64 0,.int .i64 0,.bool false,.int .i64 0,.slice none 0 0,.slice none 0 0,.slice none 0 0,(.slice q48 l24.length x49),.slice none 0 0,.slice none 0 0]) H rfl rfl rfl U48 rfl bU)<|have H:=H.nilSl bE;have H:=H.nilSl aF;have H:=H.nilSl aJ;have H:=H.nilSl bL;?_
  refine have H:=H.nilSl (kI .i64);have H:=H.drs [0,0];?_
  cases hm
  exact X8 ⟨rfl,H.reads (aA mm4 (aA mm3 (aA mm2 (aA (t5 hr37) (aA mm1 (aA m0 (aA (t5 hr35) (aA (t5 hr36) (fun r hr=>(t5 hr))))))))))⟩

def cU (l2:List aD) (x3:Int):Nat→Int→Int→Option (Int×Bool)
  | 0,_,_=>none
  | k1+1,x5,x6=>
    if (decide (x5 < x6))=true then ((idx l2 (IntKind.i64.wrap (pH .u64 (IntKind.u64.wrap (IntKind.i64.wrap (x5+x6))) 1))).bind fun x9=>(wD x9 x3).bind fun u14=>if (decide (u14 < 0))=true then (cU l2 x3 k1 (IntKind.i64.wrap ((IntKind.i64.wrap (pH .u64 (IntKind.u64.wrap (IntKind.i64.wrap (x5+x6))) 1))+1)) x6) else (cU l2 x3 k1 x5 (IntKind.i64.wrap (pH .u64 (IntKind.u64.wrap (IntKind.i64.wrap (x5+x6))) 1)))) else (if (decide (x5 < (l2.length:Int)))=true then ((idx l2 x5).bind fun x17=>(wD x17 x3).bind fun u22=>some (x5,u22 == 0)) else (some (x5,false)))
def dS (l2:List aD) (x3:Int):Option (Int×Bool):=
  cU l2 x3 (((l2.length:Int) - 0:Int).toNat+1) 0 (l2.length:Int)
theorem gR {w:World} {Fo:List Ob} {rs:List Rp} {v1:Value} {l2:List aD} {x3:Int} (H:Sep w (Fo) rs) (hr4:rSl aO v1 l2 ∈ rs) {r:Int×Bool} (hm:dS l2 x3=some r) :
    Calls Tryz.prog 163 [v1,.int .i64 x3,.func (.func 164) #[] #[]].toArray w (Ret fun v w'=>.tuple #[.int .i64 r.1,.bool r.2]=v∧Sep w' (Fo) (rs)):=by
 unfold dS at hm
 refine ent Tryz.func163 rfl Tryz.ntmps163 rfl rfl fun a E=>sq<|pr 2 E rfl fun a E=>nx<|pr 1 E rfl fun a E=>sv E rfl rfl rfl (cR E H rfl rfl hr4 U71) fun a E=>pr 1 E rfl fun a E=>nx<|pr 3 E rfl fun a E=>?_
 refine nt<|wp_seq<|wp_block<|bX (fun k1 a w=>∃ x5 x6 rs7,Env 49 a [(0,v1),(1,.int .i64 x3),(2,.func (.func 164) #[] #[]),(8,.int .i64 (l2.length:Int)),(9,.int .i64 x5),(10,.int .i64 x6)]∧Sep w (Fo) rs7∧(∀ r,r ∈ rs→r ∈ rs7)∧cU l2 x3 k1 x5 x6=some r) (((l2.length:Int) - 0:Int).toNat+1) ?_ ?_
 ·exact X3 ⟨E.to rfl,H,Y0,hm⟩
 ·clear E H hm
  rintro k1 a w ⟨x5,x6,rs7,E,H,hs8,hm⟩
  cases k1 with
  | zero=>exact (bT hm rfl).elim
  | succ k1=>
   unfold cU at hm
   refine wp_seq<|sq<|pr 3 E rfl fun a E=>nt<|wif E hm rfl (fun hm=>?_) fun hm=>?_
   ·refine wp_skip<|aC<|wp_block<|sq<|pr 4 E rfl fun a E=>sv E rfl rfl rfl (F7 E rfl rfl rfl (by decide)) fun a E=>pr 2 E rfl fun a E=>nx<|pr 3 E rfl fun a E=>?_
    refine bd hm fun x9 hx10 hm=>dE E H (wn rfl) rfl rfl rfl rfl rfl (hs8 _ hr4) U71 rL hx10 fun q11 a H E=>K6 E H (wn rfl) rfl rfl rfl rfl m0 Be rfl rL fun u12 a H E=>?_
    obtain ⟨v13,rfl,h⟩:=j5 H;clear H;have H:=h
    refine pr 1 E rfl fun a E=>bd hm fun u14 hx15 hm=>aU E (wn rfl) rfl rfl (bP E rfl rfl rfl (Cy _)) (n3 H hx15)<|?_
    rintro _ w ⟨rfl,H⟩ a E
    refine pr 1 E rfl fun a E=>nt<|wif E hm rfl (fun hm=>?_) fun hm=>?_
    ·exact wp_region_lit<|pr 3 E rfl fun a E=>wpList_nil<|bY<|aC<|⟨k1,Nat.lt_succ_self k1,X3 ⟨E.to rfl,H,(Y3 hs8),hm⟩⟩
    ·exact wp_region_lit<|pr 2 E rfl fun a E=>wpList_nil<|bY<|aC<|⟨k1,Nat.lt_succ_self k1,X3 ⟨E.to rfl,H,(Y3 hs8),hm⟩⟩
   ·refine wp_exit<|bH<|bH<|dG<|aC<|sq<|pr 5 E rfl fun a E=>cs hm (fun hb16 hm=>?_) fun hb16 hm=>?_
    ·refine pk 3 E (kc 39 rfl hb16) rfl fun a E=>bd hm fun x17 hx18 hm=>dE E H (ws' (d:=39) E rfl rfl rfl rfl hb16) rfl rfl rfl rfl rfl (hs8 _ hr4) U71 rL hx18 fun q19 a H E=>K6 E H (ws' (d:=39) E rfl rfl rfl rfl hb16) rfl rfl rfl rfl m0 Be rfl rL fun u20 a H E=>?_
     obtain ⟨v21,rfl,h⟩:=j5 H;clear H;have H:=h
     refine pk 1 E (kc 39 rfl hb16) rfl fun a E=>bd hm fun u22 hx23 hm=>aU E (ws' (d:=39) E rfl rfl rfl rfl hb16) rfl rfl (bP E rfl rfl rfl (Cy _)) (n3 H hx23)<|?_
     rintro _ w ⟨rfl,H⟩ a E
     refine pk 4 E (kc 39 rfl hb16) rfl fun a E=>nt<|wp_ret<|fX E rfl rfl rfl<|?_
     cases hm
     exact ⟨rfl,H.reads (Y3 hs8)⟩
    ·refine pk 11 E (kc 39 rfl hb16) rfl fun a E=>nt<|wp_ret<|fX E rfl rfl rfl<|?_
     cases hm
     exact ⟨rfl,H.reads hs8⟩

def wH (x1:bK) (x3:Int):Option Bool:=
  some (decide (x1.Num ≤ x3))
theorem F3 {w:World} {Fo:List Ob} {rs:List Rp} {x1:bK} {p2:Nat} {x3:Int} (H:Sep w (Blk p2 2 [.int .i64 x3]::Fo) rs) {r:Bool} (hm:wH x1 x3=some r) :
    Calls Tryz.prog 171 [.agg (A6 x1).toArray,pt p2 0].toArray w (Ret fun v w'=>.bool r=v∧Sep w' (Blk p2 2 [.int .i64 x3]::Fo) (rs)):=by
 unfold wH at hm
 refine ent Tryz.func171 rfl Tryz.ntmps171 rfl rfl fun a E=>sq<|bS E H (wn rfl) rfl rfl rfl rfl rfl fun p4 w a H E=>pr 1 E rfl fun a E=>nx<|pr 1 E rfl fun a E=>lb E H 0 rfl rfl rfl rfl rfl rfl rfl U2 rfl fun a E=>lb E H 1 rfl rfl rfl rfl rfl rfl rfl U2 rfl fun a E=>pr 2 E rfl fun a E=>?_
 refine nt<|wp_ret<|aY E rfl rfl<|have H:=H.drop 0;?_
 cases hm
 exact ⟨rfl,H.reads Y0⟩

def eX (l2:List bK) (x4:Int):Nat→Int→Option Int
  | 0,_=>none
  | k1+1,x5=>
    if (decide (x5 < (l2.length:Int)))=true then ((idx l2 x5).bind fun x8=>(wH x8 x4).bind fun u13=>if u13=true then (some (x5)) else (eX l2 x4 k1 (IntKind.i64.wrap (x5+1)))) else (some ((-1)))
def iN (l2:List bK) (x4:Int):Option Int:=
  eX l2 x4 (((l2.length:Int) - 0:Int).toNat+1) 0
theorem uB {w:World} {Fo:List Ob} {rs:List Rp} {v1:Value} {l2:List bK} {p3:Nat} {x4:Int} (H:Sep w (Row 223 aV v1 l2::Blk p3 2 [.int .i64 x4]::Fo) rs) {r:Int} (hm:iN l2 x4=some r) :
    Calls Tryz.prog 235 [v1,.func (.func 171) #[] #[pt p3 0]].toArray w (Ret fun v w'=>.int .i64 r=v∧Sep w' (Blk p3 2 [.int .i64 x4]::Row 223 aV v1 l2::Fo) (rs)):=by
 unfold iN at hm
 refine ent Tryz.func235 rfl Tryz.ntmps235 rfl rfl fun a E=>sq<|pr 1 E rfl fun a E=>nt<|wp_seq<|sq<|pr 1 E rfl fun a E=>sv E rfl rfl rfl (iZ (i:=0) E H rfl rfl rfl U44) fun a E=>pr 1 E rfl fun a E=>?_
 refine nt<|wp_block<|bX (fun k1 a w=>∃ x5 rs6,Env 19 a [(0,v1),(1,.func (.func 171) #[] #[pt p3 0]),(7,.int .i64 (l2.length:Int)),(8,.int .i64 x5)]∧Sep w (Row 223 aV v1 l2::Blk p3 2 [.int .i64 x4]::Fo) rs6∧(∀ r,r ∈ rs→r ∈ rs6)∧eX l2 x4 k1 x5=some r) (((l2.length:Int) - 0:Int).toNat+1) ?_ ?_
 ·exact ⟨_,_,E.to rfl,H,Y0,hm⟩
 ·clear E H hm
  rintro k1 a w ⟨x5,rs6,E,H,hs7,hm⟩
  cases k1 with
  | zero=>exact (bT hm rfl).elim
  | succ k1=>
   unfold eX at hm
   refine sq<|pr 1 E rfl fun a E=>nt<|wp_seq<|wif E hm rfl (fun hm=>?_) fun hm=>?_
   ·refine wp_skip<|aC<|wp_seq<|wp_block<|sq<|pr 2 E rfl fun a E=>nx<|pr 3 E rfl fun a E=>bd hm fun x8 hx9 hm=>?_
    obtain ⟨p10,x11,hx12⟩:=H.rowformNE (i:=0) rfl hx9
    refine sv E rfl rfl rfl (cY (d:=aV) E hx12 rfl rfl rfl rfl U44 rM hx9) fun a E=>sv E rfl rfl rfl (fZ (i:=0) E H mZ hx12 rfl rfl rfl hx9 (us:=[.int .i64 x8.Num,.int .i64 x8.Kind,.string x8.Path,.int .i64 x8.Watch]) rfl Bf rfl rM) fun a E=>have H:=H.frs [0,1] rfl;bd hm fun u13 hx14 hm=>aU E (wn rfl) rfl rfl (bP E rfl rfl rfl (Ls _)) (F3 H hx14)<|?_
    rintro _ w ⟨rfl,H⟩ a E
    refine nt<|wif E hm rfl (fun hm=>?_) fun hm=>?_
    ·refine sq<|pr 2 E rfl fun a E=>nt<|wp_ret<|bV<|aP<|aP<|bV<|aP<|?_
     refine aY E rfl rfl<|?_
     cases hm
     exact ⟨rfl,H.reads hs7⟩
    ·exact wp_skip<|bY<|aC<|wp_region_lit<|pr 2 E rfl fun a E=>nt<|have H:=H.frs [0,1] rfl;⟨k1,Nat.lt_succ_self k1,_,_,E.to rfl,H,hs7,hm⟩
   ·refine wp_exit<|bH<|bH<|dG<|aC<|sq<|pr 1 E rfl fun a E=>nt<|wp_ret<|?_
    refine aY E rfl rfl<|have H:=H.frs [0,1] rfl;?_
    cases hm
    exact ⟨rfl,H.reads hs7⟩

def eL (rec_1:(List bK)→Int→Int→Option (List bK)) (x9:Int) (l12:(List bK)) (x13:Int):Option (List bK):=
  rec_1 l12 x13 (IntKind.i64.wrap (x9+1))
def dO (x4:Int):Nat→(List bK)→Int→Int→Option (List bK)
  | 0,_,_,_=>none
  | k1+1,l7,x8,x9=>
    if (decide (x9 < (l7.length:Int)))=true then ((idx l7 x9).bind fun x16=>(wH x16 x4).bind fun u22=>if (!u22)=true then ((idx l7 x8).bind fun x24=>eL (dO x4 k1) x9 (l7.set x8.toNat x16) (IntKind.i64.wrap (x8+1))) else (eL (dO x4 k1) x9 l7 x8)) else ((ck (0 ≤ x8∧x8 ≤ l7.length)).bind fun u29=>(ck (0 ≤ x8∧x8 ≤ (l7.take x8.toNat ++ List.replicate (l7.length - x8.toNat) (⟨0,0,⟨#[]⟩,0⟩:bK)).length)).bind fun u31=>some ((l7.take x8.toNat ++ List.replicate (l7.length - x8.toNat) (⟨0,0,⟨#[]⟩,0⟩:bK)).take x8.toNat))
def iB (l2:List bK) (x4:Int):Option (List bK):=
  (iN l2 x4).bind fun u5=>if (u5 == (-1))=true then (some (l2)) else (dO x4 (((l2.length:Int) - (IntKind.i64.wrap (u5+1)):Int).toNat+1) l2 u5 (IntKind.i64.wrap (u5+1)))
theorem tJ {w:World} {Fo:List Ob} {rs:List Rp} {v1:Value} {l2:List bK} {p3:Nat} {x4:Int} (H:Sep w (Row 223 aV v1 l2::Blk p3 2 [.int .i64 x4]::Fo) rs) {r:(List bK)} (hm:iB l2 x4=some r) :
    Calls Tryz.prog 169 [v1,.func (.func 171) #[] #[pt p3 0]].toArray w (Ret fun v w'=>∃ y1,y1=v∧Sep w' (Row 223 aV y1 r::Blk p3 2 [.int .i64 x4]::Fo) (rs)):=by
 unfold iB at hm
 refine ent Tryz.func169 rfl Tryz.ntmps169 rfl rfl fun a E=>sq<|pr 1 E rfl fun a E=>nx<|pr 2 E rfl fun a E=>bd hm fun u5 hx6 hm=>xk E rfl rfl rfl rfl rfl Uw (uB H hx6) fun w H a E=>pr 1 E rfl fun a E=>nt<|?_
 refine wp_seq<|sq<|pr 2 E rfl fun a E=>nt<|wif E hm rfl (fun hm=>?_) fun hm=>?_
 ·refine sq<|pr 2 E rfl fun a E=>nt<|wp_ret<|aP<|aY E rfl rfl<|have H:=H.frs [0,1] rfl;?_
  cases hm
  exact ⟨_,rfl,H.reads Y0⟩
 ·refine wp_skip<|aC<|wp_seq<|sq<|pr 3 E rfl fun a E=>nt<|wp_block<|bX (fun k1 a w=>∃ l7 x8 x9 rs10,Env 42 a [(0,v1),(1,.func (.func 171) #[] #[pt p3 0]),(5,.int .i64 x8),(6,.int .i64 x9)]∧Sep w (Row 223 aV v1 l7::Blk p3 2 [.int .i64 x4]::Fo) rs10∧(∀ r,r ∈ rs→r ∈ rs10)∧dO x4 k1 l7 x8 x9=some r) (((l2.length:Int) - (IntKind.i64.wrap (u5+1)):Int).toNat+1) ?_ ?_
  ·exact have H:=H.frs [0,1] rfl;X4 ⟨E.to rfl,H,Y0,hm⟩
  ·clear E H hm
   rintro k1 a w ⟨l7,x8,x9,rs10,E,H,hs11,hm⟩
   cases k1 with
   | zero=>exact (bT hm rfl).elim
   | succ k1=>
    unfold dO at hm
    refine wp_seq<|sq<|pr 2 E rfl fun a E=>sv E rfl rfl rfl (iZ (i:=0) E H rfl rfl rfl U44) fun a E=>pr 1 E rfl fun a E=>nt<|wif E hm rfl (fun hm=>?_) fun hm=>?_
    ·refine wp_skip<|aC<|aT (fun a w=>∃ l12 x13 rs14,Env 42 a [(0,v1),(1,.func (.func 171) #[] #[pt p3 0]),(5,.int .i64 x13),(6,.int .i64 x9)]∧Sep w (Row 223 aV v1 l12::Blk p3 2 [.int .i64 x4]::Fo) rs14∧(∀ r,r ∈ rs→r ∈ rs14)∧eL (dO x4 k1) x9 l12 x13=some r) ?_ ?_
     ·refine wp_block<|sq<|pr 2 E rfl fun a E=>bd hm fun x16 hx17 hm=>?_
      obtain ⟨p18,x19,hx20⟩:=H.rowformNE (i:=0) rfl hx17
      refine sv E rfl rfl rfl (cY (d:=aV) E hx20 rfl rfl rfl rfl U44 rM hx17) fun a E=>sv E rfl rfl rfl (fZ (i:=0) E H mZ hx20 rfl rfl rfl hx17 (us:=[.int .i64 x16.Num,.int .i64 x16.Kind,.string x16.Path,.int .i64 x16.Watch]) rfl Bf rfl rM) fun a E=>al E H rfl rfl rfl rfl Hf fun p21 w a H E=>aZ (i:=0) E H (wn rfl) rfl rfl rfl rfl rfl rfl rM rfl rfl fun w H=>nx<|pr 1 E rfl fun a E=>sv E rfl rfl rfl (cA (i:=0) (us:=(A6 x16)) E H rfl rfl rfl rfl Bf rfl rM) fun a E=>have H:=H.frs [1,1,2] rfl;bd hm fun u22 hx23 hm=>?_
      refine aU E (wn rfl) rfl rfl (bP E rfl rfl rfl (Ls _)) (F3 H hx23)<|?_
      rintro _ w ⟨rfl,H⟩ a E
      refine pr 1 E rfl fun a E=>nt<|wif E hm rfl (fun hm=>?_) fun hm=>?_
      ·refine sq<|pr 2 E rfl fun a E=>sv E rfl rfl rfl (cA (i:=1) (us:=(A6 x16)) E H rfl rfl rfl rfl Bf rfl rM) fun a E=>bd hm fun x24 hx25 hm=>?_
       obtain ⟨p26,x27,hx28⟩:=H.rowformNE (i:=2) rfl hx25
       refine sv E rfl rfl rfl (cY (d:=aV) E hx28 rfl rfl rfl rfl U44 rM hx25) fun a E=>yO (d:=aV) (i:=2) (us:=[.int .i64 x16.Num,.int .i64 x16.Kind,.string x16.Path,.int .i64 x16.Watch]) (z':=x16) E H mZ (wn rfl) rfl hx28 rfl rfl rfl rfl rfl rfl rfl hx25 rM fun w H=>nt<|wp_region_lit<|pr 3 E rfl fun a E=>wpList_nil<|bY<|aC<|have H:=H.drop 1;?_
       exact have H:=H.frs [0,1] rfl;X3 ⟨E.to rfl,H,hs11,hm⟩
      ·exact wp_skip<|bY<|aC<|have H:=H.drop 1;have H:=H.frs [0,1] rfl;X3 ⟨E.to rfl,H,hs11,hm⟩
     ·clear E H hm
      rintro a w ⟨l12,x13,rs14,E,H,hs15,hm⟩
      unfold eL at hm
      exact wp_region_lit<|pr 3 E rfl fun a E=>nt<|⟨k1,Nat.lt_succ_self k1,X4 ⟨E.to rfl,H,hs15,hm⟩⟩
    ·refine wp_exit<|bH<|bH<|dG<|aC<|sq<|pr 2 E rfl fun a E=>bk hm fun hx30 hm=>sv E rfl rfl rfl (F9 (d:=aV) (i:=0) E H rfl rfl rfl rfl U44 rM hx30) fun a E=>?_
     refine c9 (i:=0) (z0:=(⟨0,0,⟨#[]⟩,0⟩:bK)) E H mZ (wn rfl) rfl rfl rfl U44 Qu rfl rfl rfl hx30 fun w H=>nx<|pr 2 E rfl fun a E=>bk hm fun hx32 hm=>w9 (i:=0) E H mZ (wn rfl) rfl rfl rfl rfl rfl rfl U44 rM hx32 fun v33 a H E=>pr 1 E rfl fun a E=>nt<|wp_ret<|aY E rfl rfl<|?_
     cases hm
     exact ⟨_,rfl,H.reads hs11⟩

def r7 (x1:bM) (x4:Int) (x5:Int):Option (bM×(List bK)×Int):=
  (qN x1).bind fun u11=>if (!u11)=true then (some ((⟨[],[]⟩:bM),[],1)) else ((dS x1.Sessions x4).bind fun u13=>if (!u13.2)=true then (some (x1,[],62)) else ((ck (x1.Sessions.length ≤ LIM)).bind fun u16=>(idx x1.Sessions u13.1).bind fun x20=>(ck (x20.Events.length ≤ LIM)).bind fun u28=>(iB x20.Events x5).bind fun u30=>(idx x1.Sessions u13.1).bind fun x33=>(ck (u30.length ≤ LIM)).bind fun u41=>some ((⟨x1.Watches,x1.Sessions.set u13.1.toNat ({ x33 with Events:=u30 }:aD)⟩:bM),u30,0)))
theorem Fb {w:World} {Fo:List Ob} {rs:List Rp} {x1:bM} {v2 v3:Value} {x4 x5:Int} (H:Sep w (Fo) rs) (hr6:rSl aX v2 x1.Watches ∈ rs) (hr7:rSl aO v3 x1.Sessions ∈ rs) {r:bM×(List bK)×Int} (hm:r7 x1 x4 x5=some r) :
    Calls Tryz.prog 91 [.agg #[v2,v3],.int .i64 x4,.int .i64 x5].toArray w (Ret fun v w'=>∃ y2 y3 y4,.tuple #[.agg #[y2,y3],y4,.int .i64 r.2.2]=v∧Sep w' (Row 223 aV y4 r.2.1::Fo) (rSl aX y2 r.1.Watches::rSl aO y3 r.1.Sessions::rs)):=by
 unfold r7 at hm
 refine ent Tryz.func91 rfl Tryz.ntmps91 rfl rfl fun a E=>sq<|bS E H (wn rfl) rfl rfl rfl rfl rfl fun p8 w a H E=>bS E H (wn rfl) rfl rfl rfl rfl rfl fun p9 w a H E=>al E H rfl rfl rfl rfl G2 fun p10 w a H E=>pr 2 E rfl fun a E=>nt<|wp_seq<|sq<|?_
 refine sv E rfl rfl rfl (cA (i:=2) (us:=[v2,v3]) E H rfl rfl rfl rfl U73 rfl eE) fun a E=>bd hm fun u11 hx12 hm=>xk E rfl rfl rfl rfl rfl Cw (xQ H hr6 hr7 hx12) fun w H a E=>pr 1 E rfl fun a E=>nt<|wif E hm rfl (fun hm=>?_) fun hm=>?_
 ·refine sq<|sv E rfl rfl rfl (cI E rfl (E.evs rfl) (v:=.agg #[.slice none 0 0,.slice none 0 0]) (by kernel_rfl)) fun a E=>aZ (i:=0) E H (wn rfl) rfl rfl rfl rfl rfl rfl eE rfl rfl fun w H=>pr 2 E rfl fun a E=>nt<|wp_ret<|aP<|Gi E rfl (cV (i:=0) (us:=[.slice none 0 0,.slice none 0 0]) H rfl rfl rfl U73 rfl eE) (rvT rfl) (rvT rfl)<|have H:=H.nilSl aX;?_
  refine have H:=H.nilSl aO;have H:=H.nilRow 223 aV;have H:=H.drs [1,1,1];?_
  cases hm
  exact X3 ⟨rfl,H.reads (aA mm1 (aA m0 (fun r hr=>(t2 hr))))⟩
 ·refine wp_skip<|aC<|sq<|pr 1 E rfl fun a E=>lb E H 2 rfl rfl rfl rfl rfl rfl rfl U71 rfl fun a E=>pr 1 E rfl fun a E=>bd hm fun u13 hx14 hm=>xk E rfl rfl rfl rfl rfl Hg (gR H hr7 hx14) fun w H a E=>pr 5 E rfl fun a E=>?_
  refine nt<|wp_seq<|sq<|pr 2 E rfl fun a E=>nt<|wif E hm rfl (fun hm=>?_) fun hm=>?_
  ·refine sq<|sv E rfl rfl rfl (cA (i:=2) (us:=[v2,v3]) E H rfl rfl rfl rfl U73 rfl eE) fun a E=>aZ (i:=0) E H (wn rfl) rfl rfl rfl rfl rfl rfl eE rfl (gB H hr6 hr7) fun w H=>pr 2 E rfl fun a E=>nt<|wp_ret<|aP<|Gi E rfl (cV (i:=0) (us:=[v2,v3]) H rfl rfl rfl U73 rfl eE) (rvT rfl) (rvT rfl)<|have H:=H.nilRow 223 aV;?_
   refine have H:=H.drs [1,1,1];?_
   cases hm
   exact X3 ⟨rfl,H.reads (aA hr6 (aA hr7 (fun r hr=>hr)))⟩
  ·refine wp_skip<|aC<|sq<|pr 1 E rfl fun a E=>lb E H 2 rfl rfl rfl rfl rfl rfl rfl U71 rfl fun a E=>bk hm fun hx17 hm=>aU E (wn rfl) rfl rfl (cC E rfl rfl (Cz _)) (eG H hr7 hx17) fun v15 w H a E=>pr 1 E rfl fun a E=>?_
   obtain ⟨q18,x19,rfl⟩:=H.rowform (i:=0) rfl
   refine aZ (i:=3) E H (wn rfl) rfl rfl rfl rfl rfl rfl Ep rfl rfl fun w H=>nx<|pr 1 E rfl fun a E=>lb E H 3 rfl rfl rfl rfl rfl rfl rfl U71 rfl fun a E=>pr 1 E rfl fun a E=>bd hm fun x20 hx21 hm=>?_
   obtain ⟨p22,x23,hx24⟩:=H.rowformNE (i:=0) rfl hx21
   refine sv E rfl rfl rfl (cY (d:=aO) E hx24 rfl rfl rfl rfl U71 rL hx21) fun a E=>pr 1 E rfl fun a E=>yI (i:=0) (k:=2) E H hx24 (wn rfl) rfl rfl rfl rfl rfl hx21 rfl U44 rfl fun u25 a H E=>?_
   obtain ⟨_,hcs⟩:=H.rd (.head _)
   obtain ⟨v26,rfl,-⟩:=dF hcs
   clear hcs
   refine have H:=H.derive1 m0 (rSl aV v26 x20.Events) (fun ok h=>gA h);?_
   replace E:Env 48 a ((35,v26)::_):=E
   refine bk hm fun hx29 hm=>aU E (wn rfl) rfl rfl (cC E rfl rfl (Ae _)) (dZ H m0 hx29) fun v27 w H a E=>sv E rfl rfl rfl (iP E rfl rfl rfl) fun a E=>have H:=H.frs [4,3,3,4,4] rfl;bd hm fun u30 hx31 hm=>cG E rfl rfl rfl rfl rfl Uv (tJ H hx31)<|?_
   rintro _ w ⟨v32,rfl,H⟩ a E
   refine pr 1 E rfl fun a E=>nx<|pr 1 E rfl fun a E=>lb E H 4 rfl rfl rfl rfl rfl rfl rfl U71 rfl fun a E=>pr 2 E rfl fun a E=>bd hm fun x33 hx34 hm=>?_
   obtain ⟨p35,x36,hx37⟩:=H.rowformNE (i:=2) rfl hx34
   refine sv E rfl rfl rfl (cY (d:=aO) E hx37 rfl rfl rfl rfl U71 rL hx34) fun a E=>pr 1 E rfl fun a E=>?_
   obtain ⟨q38,x39,rfl⟩:=H.rowform (i:=0) rfl
   refine have H:=H.thaw (i:=0) rfl;yP (i:=1) (k:=2) (us:=[(.slice q38 u30.length x39)]) (y':=({ x33 with Events:=u30 }:aD)) E H hx37 (wn rfl) rfl rfl rfl rfl rfl rfl hx34 rfl Hh rfl (fun ok cs hr h=>by obtain ⟨v1,rfl,g1⟩:=dF h;exact jB (x:=({ x33 with Events:=u30 }:aD)) (hr _ m0)) fun w H=>nt<|wp_seq<|dw [(0,0),(1,0),(2,1),(3,1),(4,2),(5,2)] [3] [] H (by kernel_rfl) (fun _ _ _ h=>False.elim h.2) fun w W0 hI H=>fbn E [v2,(.slice q18 x1.Sessions.length x19)] rfl (wn rfl) rfl rfl rfl rfl m0 rfl U73 rfl eE fun a E=>fn 1 E rfl fun a E=>bZ rfl<|bk hm fun hx42 hm=>?_
   refine aU E (wn rfl) rfl rfl (cC E rfl rfl (Ae _)) (dZ H m0 hx42) fun v40 w H a E=>nt<|?_
   refine ⟨⟨_,_,H,(aB mm4 (aL)),(aM)⟩,?_⟩
   refine bZ rfl<|?_
   obtain ⟨q43,x44,rfl⟩:=H.slform (t3 hr6)
   refine aZ (i:=3) E H (wn rfl) rfl rfl rfl rfl rfl rfl eE rfl rfl fun w H=>nt<|?_
   refine ⟨⟨_,_,H,(aB mm4 (aL)),(aM)⟩,?_⟩
   refine bQ rfl<|pr 1 E rfl fun a E=>nt<|bQ rfl<|pr 1 E rfl fun a E=>nt<|bR<|?_
   clear hI
   refine aC<|wp_ret<|Gi E rfl (cV (i:=3) (us:=[(.slice q43 x1.Watches.length x44),(.slice q18 x1.Sessions.length x19)]) H rfl rfl rfl U73 rfl eE) (rvT rfl) (rvT rfl)<|have H:=H.thaw (i:=2) rfl;have H:=H.drs [1,1,1];?_
   cases hm
   exact X3 ⟨rfl,H.reads (aA (t4 hr6) (aA m0 (fun r hr=>(t4 hr))))⟩

def vF (l11:List aK) (l13:List aD) (x20:bA):Option (aG×(List aK)×(List aD)):=
  (r7 (⟨l11,l13⟩:bM) x20.Watch.Session x20.Epoch).bind fun u40=>(lJ l11 l13 u40.1 u40.2.1 u40.2.2).bind fun u45=>some (u45.1,u45.2.1,u45.2.2)
theorem N4 {w:World} {Fo:List Ob} {rs:List Rp} {p1:Nat} {v10 v12 v21 v22 v23 v24 v25 v26 v27 v28 v29 v30 v31:Value} {l11:List aK} {l13:List aD} {x20:bA} (H:Sep w (Blk p1 75 [v25,v26,v27,v28,v10,v12,v29,v30,v31]::Fo) rs) (hr32:rSl aX v10 l11 ∈ rs) (hr33:rSl aO v12 l13 ∈ rs) {r:aG×(List aK)×(List aD)} (hm:vF l11 l13 x20=some r) :
    Calls Tryz.prog 34 [pt p1 0,.agg (aR x20 v21 v22 v23 v24).toArray].toArray w (Ret fun v w'=>∃ y2 y3 y4 y5 y6 y7 y8 y10,.agg (bC r.1 y2 y3 y4 y5 y6 y7).toArray=v∧Sep w' (Blk p1 75 [v25,v26,v27,v28,y8,y10,v29,v30,v31]::Fo) (rSl bE y2 r.1.Results::rSl aF y3 r.1.Store.Nodes::rSl aJ y4 r.1.Store.Turns::rSl aV y5 r.1.Events::rSl bL y6 r.1.Mounts::rSl (kI .i64) y7 r.1.Wounded::rSl aX y8 r.2.1::rSl aO y10 r.2.2::rs)):=by
 unfold vF at hm
 refine ent Tryz.func34 rfl Tryz.ntmps34 rfl rfl fun a E=>sq<|bS E H (wn rfl) rfl rfl rfl rfl rfl fun p38 w a H E=>al E H rfl rfl rfl rfl gN fun p39 w a H E=>nt<|wp_seq<|dwc [(0,0),(1,0),(2,0),(3,0),(5,0),(6,0),(8,0),(4,0),(7,0),(9,1),(10,1),(11,0),(12,0),(13,0),(14,2),(15,2)] [1,2] [] H (by kernel_rfl) (fun _ _ _ h=>False.elim h.2) fun w W0 hI H=>fn 7 E rfl fun a E=>fbn E [v10,v12] rfl (wn rfl) rfl rfl rfl rfl mm1 rfl U73 rfl eE fun a E=>?_
 refine fb E rfl (wn rfl) rfl rfl rfl rfl m0 rfl U2 rfl fun a E=>bZ rfl<|lb E H 1 rfl rfl rfl rfl rfl rfl rfl U2 rfl fun a E=>nt<|?_
 refine ⟨⟨_,_,H,(aB mm1 (aB mm2 (aL))),(aM)⟩,?_⟩
 refine bZ rfl<|bd hm fun u40 hx41 hm=>cG E rfl rfl rfl rfl rfl Ye (Fb (x1:=(⟨l11,l13⟩:bM)) H hr32 hr33 hx41)<|?_
 rintro _ w ⟨v42,v43,v44,rfl,H⟩ a E
 refine nt<|?_
 refine ⟨⟨_,_,H,(aB mm2 (aB mm3 (aL))),(aM)⟩,?_⟩
 refine fn 3 E rfl fun a E=>bQ rfl<|have H:=H.thaw (i:=0) rfl;have H:=H.frs [1,1,2] rfl;bd hm fun u45 hx46 hm=>cG E rfl rfl rfl rfl rfl Ko (rX H (t3 hr32) (t3 hr33) mm1 mm2 m0 hx46)<|?_
 rintro _ w ⟨v47,v48,v49,v50,v51,v52,v53,v54,rfl,H⟩ a E
 refine nt<|bQ rfl<|aZ (i:=1) E H (wn rfl) rfl rfl rfl rfl rfl rfl bU rfl (bF H m0 mm1 mm2 mm3 mm4 mm5) fun w H=>nt<|bR<|?_
 clear hI
 refine aC<|wp_ret<|dH E rfl (cV (i:=1) (us:=(bC u45.1 v47 v48 v49 v50 v51 v52)) H rfl rfl rfl U48 rfl bU)<|have H:=H.drs [1,1];?_
 cases hm
 exact X8 ⟨rfl,H.reads (aA m0 (aA mm1 (aA mm2 (aA mm3 (aA mm4 (aA mm5 (aA mm6 (aA (t1 mm6) (fun r hr=>(t3 (t8 hr)))))))))))⟩

def oF (u77:aG×(List aK)×(List aD)) (x88:(List ((Int)×aG))):Option (aG×(List aK)×(List aD)×(List ((Int)×aG))):=
  some (u77.1,u77.2.1,u77.2.2,x88)
def lK (u77:aG×(List aK)×(List aD)) (l15:List ((Int)×aG)) (x20:bA) (b99:Bool):Option (aG×(List aK)×(List aD)×(List ((Int)×aG))):=
  if b99=true then ((mpt (kyI .i64) l15 x20.Id u77.1).bind fun l111=>oF u77 l111) else (oF u77 l15)
def oG (l15:List ((Int)×aG)) (x20:bA) (l11:List aK) (l13:List aD) (b66:Bool):Option (aG×(List aK)×(List aD)×(List ((Int)×aG))):=
  if b66=true then ((dM 2).bind fun u69=>some (u69,l11,l13,l15)) else ((vF l11 l13 x20).bind fun u77=>if (x20.Id != 0)=true then (if (u77.1.Err != 131)=true then (lK u77 l15 x20 (u77.1.Err != 132)) else (lK u77 l15 x20 false)) else (lK u77 l15 x20 false))
def rY (l15:List ((Int)×aG)) (x20:bA) (l11:List aK) (l13:List aD) (b41:Bool) (x42:Int) (x43:Int) (b44:Bool) (x45:Int) (l47:(List cL)) (l49:(List aE)) (l51:(List aI)) (l53:(List bK)) (l55:(List lQ)) (l57:(List Int)):Option (aG×(List aK)×(List aD)×(List ((Int)×aG))):=
  if b41=true then (some ((⟨x42,x43,b44,x45,l47,(⟨l49,l51⟩:bB),l53,l55,l57⟩:aG),l11,l13,l15)) else (if (x20.Id != 0)=true then (oG l15 x20 l11 l13 ((l15.length:Int) == 512)) else (oG l15 x20 l11 l13 false))
def vG (l11:List aK) (l13:List aD) (l15:List ((Int)×aG)) (x20:bA):Option (aG×(List aK)×(List aD)×(List ((Int)×aG))):=
  (o8 (kyI .i64) l15 x20.Id nP).bind fun x117=>rY l15 x20 l11 l13 x117.2 x117.1.Err x117.1.At x117.1.Yes x117.1.Epoch x117.1.Results x117.1.Store.Nodes x117.1.Store.Turns x117.1.Events x117.1.Mounts x117.1.Wounded
theorem N5 {w:World} {Fo:List Ob} {rs:List Rp} {p1 p14:Nat} {v10 v12 v21 v22 v23 v24 v25 v26 v27 v28 v29 v30:Value} {l11:List aK} {l13:List aD} {l15:List ((Int)×aG)} {x20:bA} (H:Sep w (Blk p1 75 [v25,v26,v27,v28,v10,v12,.map (some p14),v29,v30]::cB Tryz.prog 2 (kyI .i64) bI true p14 l15::Fo) rs) (hr31:rSl aX v10 l11 ∈ rs) (hr32:rSl aO v12 l13 ∈ rs) {r:aG×(List aK)×(List aD)×(List ((Int)×aG))} (hm:vG l11 l13 l15 x20=some r) :
    Calls Tryz.prog 37 [pt p1 0,.agg (aR x20 v21 v22 v23 v24).toArray,.func (.func 34) #[] #[]].toArray w (Ret fun v w'=>∃ y2 y3 y4 y5 y6 y7 y8 y10,.agg (bC r.1 y2 y3 y4 y5 y6 y7).toArray=v∧Sep w' (Blk p1 75 [v25,v26,v27,v28,y8,y10,.map (some p14),v29,v30]::cB Tryz.prog 2 (kyI .i64) bI true p14 r.2.2.2::Fo) (rSl bE y2 r.1.Results::rSl aF y3 r.1.Store.Nodes::rSl aJ y4 r.1.Store.Turns::rSl aV y5 r.1.Events::rSl bL y6 r.1.Mounts::rSl (kI .i64) y7 r.1.Wounded::rSl aX y8 r.2.1::rSl aO y10 r.2.2.1::rs)):=by
 unfold vG at hm
 refine ent Tryz.func37 rfl Tryz.ntmps37 rfl rfl fun a E=>sq<|bS E H (wn rfl) rfl rfl rfl rfl rfl fun p38 w a H E=>al E H rfl rfl rfl rfl gN fun p39 w a H E=>nt<|wp_seq<|aT (fun a w=>∃ p40 v46 v48 v50 v52 v54 v56 b41 x42 x43 b44 x45 l47 l49 l51 l53 l55 l57 rs58,Env 59 a [(0,pt p1 0),(2,.func (.func 34) #[] #[]),(4,pt p38 0),(6,pt p39 0),(7,pt p40 0),(8,.bool b41)]∧Sep w (Blk p1 75 [v25,v26,v27,v28,v10,v12,.map (some p14),v29,v30]::Blk p38 37 (aR x20 v21 v22 v23 v24)::Blk p39 48 bN::Blk p40 48 [.int .i64 x42,.int .i64 x43,.bool b44,.int .i64 x45,v46,v48,v50,v52,v54,v56]::cB Tryz.prog 2 (kyI .i64) bI true p14 l15::Fo) rs58∧(∀ r,r ∈ rs→r ∈ rs58)∧rSl bE v46 l47 ∈ rs58∧rSl aF v48 l49 ∈ rs58∧rSl aJ v50 l51 ∈ rs58∧rSl aV v52 l53 ∈ rs58∧rSl bL v54 l55 ∈ rs58∧rSl (kI .i64) v56 l57 ∈ rs58∧rY l15 x20 l11 l13 b41 x42 x43 b44 x45 l47 l49 l51 l53 l55 l57=some r) ?_ ?_
 ·refine bd hm fun x117 hx115 hm=>?_
  have hI:dP [Blk p38 37 (aR x20 v21 v22 v23 v24),Blk p1 75 [v25,v26,v27,v28,v10,v12,.map (some p14),v29,v30]] [] { w with drawn:=w.drawn+1 }:=⟨_,_,H.kept (Kp.drawn _ w _),(aB mm1 (aB mm2 (aL))),(aM)⟩
  refine jY _ (.go 0 0 (.go 1 0 (.go 2 0 (.go 3 0 (.go 4 0 (.go 5 0 (.alt 6 (.go 7 0 (.go 8 0 (.go 9 0 (.go 10 1 (.go 11 1 (.go 12 2 .nil)))))) 10 (.go 6 1 (.go 7 0 (.go 8 0 (.go 9 0 (.go 11 1 (.go 12 2 .nil))))))))))))) [12] kG (by kernel_rfl) (fun _ _ _ h=>False.elim h.2) hI<|have H:=H.kept (Kp.drawn _ w (w.drawn+1));?_
  generalize ({ w with drawn:=w.drawn+1 }:World)=w at H hI ⊢
  replace hI:∃ W,dP [Blk p38 37 (aR x20 v21 v22 v23 v24),Blk p1 75 [v25,v26,v27,v28,v10,v12,.map (some p14),v29,v30]] [] W:=⟨_,hI⟩
  obtain ⟨W0,hI⟩:=hI
  refine aW E rfl (wn rfl) rfl rfl (fun w hW=>(bD E rfl rfl)) fun a E=>aW E rfl (wn rfl) rfl rfl (fun w hW=>(sF E rfl rfl)) fun a E=>aW E rfl (wn rfl) rfl rfl (fun w hW=>iY E rfl rfl (v:=pt p1 6) (L7 _ _)) fun a E=>aW E rfl (wn rfl) rfl rfl (fun w hW=>eZ E rfl rfl (kD mm1 rfl U68 rfl w hW)) fun a E=>aW E rfl (wn rfl) rfl rfl (fun w hW=>iY E rfl rfl (v:=pt p38 1) (L6 _ _)) fun a E=>aW E rfl (wn rfl) rfl rfl (fun w hW=>eZ E rfl rfl (kD m0 rfl U2 rfl w hW)) fun a E=>?_
  refine kM rfl rfl ?_ ?_
  ·refine lR (i:=3) (K:=(kyI .i64)) E H (wn rfl) rfl rfl rfl rfl rfl rfl (dX U2) U68 yV q3 hx115 fun u140 a H E=>?_
   obtain ⟨v141,v142,v143,v144,v145,v146,rfl,h⟩:=jC H;clear H;have H:=h
   refine nt<|?_
   refine ⟨⟨_,_,H,(aB mm1 (aB mm2 (aL))),(aM)⟩,?_⟩
   refine aW E rfl (wn rfl) rfl rfl (fun w hW=>(bD E rfl rfl)) fun a E=>aW E rfl (wn rfl) rfl rfl (fun w hW=>(cX E rfl rfl rfl)) fun a E=>aW E rfl (wn rfl) rfl rfl (fun w hW=>(cX E rfl rfl rfl)) fun a E=>cJ rfl<|al E H rfl rfl rfl rfl gN fun p147 w a H E=>nt<|?_
   refine ⟨⟨_,_,H,(aB mm2 (aB mm3 (aL))),(aM)⟩,?_⟩
   refine cJ rfl<|aZ (i:=0) E H (wn rfl) rfl rfl rfl rfl rfl rfl bU rfl (bF H mm5 mm4 mm3 mm2 mm1 m0) fun w H=>nt<|?_
   refine ⟨⟨_,_,H,(aB mm2 (aB mm3 (aL))),(aM)⟩,?_⟩
   refine cP rfl<|pr 1 E rfl fun a E=>nt<|dW<|?_
   clear hI
   exact aC<|have H:=H.frs [4,1,2,3,4] rfl;X19 ⟨E.to rfl,H,(Y7 Y0),mm5,mm4,mm3,mm2,mm1,m0,hm⟩
  ·refine al E H rfl rfl rfl rfl gN fun p148 w a H E=>nt<|?_
   refine ⟨⟨_,_,H,(aB mm2 (aB mm3 (aL))),(aM)⟩,?_⟩
   refine cJ rfl<|lR (i:=4) (K:=(kyI .i64)) E H (wn rfl) rfl rfl rfl rfl rfl rfl (dX U2) U68 yV q3 hx115 fun u152 a H E=>?_
   obtain ⟨v153,v154,v155,v156,v157,v158,rfl,h⟩:=jC H;clear H;have H:=h
   refine nt<|?_
   refine ⟨⟨_,_,H,(aB mm2 (aB mm3 (aL))),(aM)⟩,?_⟩
   refine aW E rfl (wn rfl) rfl rfl (fun w hW=>(bD E rfl rfl)) fun a E=>aW E rfl (wn rfl) rfl rfl (fun w hW=>(cX E rfl rfl rfl)) fun a E=>aW E rfl (wn rfl) rfl rfl (fun w hW=>(cX E rfl rfl rfl)) fun a E=>cJ rfl<|aZ (i:=0) E H (wn rfl) rfl rfl rfl rfl rfl rfl bU rfl (bF H mm5 mm4 mm3 mm2 mm1 m0) fun w H=>nt<|?_
   refine ⟨⟨_,_,H,(aB mm2 (aB mm3 (aL))),(aM)⟩,?_⟩
   refine cP rfl<|pr 1 E rfl fun a E=>nt<|dW<|?_
   clear hI
   exact aC<|have H:=H.frs [4,1,2,3,4] rfl;X19 ⟨E.to rfl,H,(Y7 Y0),mm5,mm4,mm3,mm2,mm1,m0,hm⟩
 ·clear E H hm
  rintro a w ⟨p40,v46,v48,v50,v52,v54,v56,b41,x42,x43,b44,x45,l47,l49,l51,l53,l55,l57,rs58,E,H,hs59,hr60,hr61,hr62,hr63,hr64,hr65,hm⟩
  unfold rY at hm
  refine sq<|pr 1 E rfl fun a E=>nt<|wif E hm rfl (fun hm=>?_) fun hm=>?_
  ·refine sq<|sv E rfl rfl rfl (cA (i:=3) (us:=[.int .i64 x42,.int .i64 x43,.bool b44,.int .i64 x45,v46,v48,v50,v52,v54,v56]) E H rfl rfl rfl rfl U48 rfl bU) fun a E=>aZ (i:=2) E H (wn rfl) rfl rfl rfl rfl rfl rfl bU rfl (bF H hr60 hr61 hr62 hr63 hr64 hr65) fun w H=>nt<|wp_ret<|aP<|dH E rfl (cV (i:=2) (us:=[.int .i64 x42,.int .i64 x43,.bool b44,.int .i64 x45,v46,v48,v50,v52,v54,v56]) H rfl rfl rfl U48 rfl bU)<|have H:=H.drs [1,1,1];?_
   cases hm
   exact X8 ⟨rfl,H.reads (aA hr60 (aA hr61 (aA hr62 (aA hr63 (aA hr64 (aA hr65 (aA (hs59 _ hr31) (aA (hs59 _ hr32) (hs59)))))))))⟩
  ·refine wp_skip<|aC<|wp_seq<|aT (fun a w=>∃ b66 rs67,Env 59 a [(0,pt p1 0),(2,.func (.func 34) #[] #[]),(4,pt p38 0),(6,pt p39 0),(32,.bool b66)]∧Sep w (Blk p1 75 [v25,v26,v27,v28,v10,v12,.map (some p14),v29,v30]::Blk p38 37 (aR x20 v21 v22 v23 v24)::Blk p39 48 bN::cB Tryz.prog 2 (kyI .i64) bI true p14 l15::Fo) rs67∧(∀ r,r ∈ rs→r ∈ rs67)∧oG l15 x20 l11 l13 b66=some r) ?_ ?_
   ·refine wp_region_lit<|pr 1 E rfl fun a E=>lb E H 1 rfl rfl rfl rfl rfl rfl rfl U2 rfl fun a E=>pr 2 E rfl fun a E=>cs hm (fun hb114 hm=>?_) fun hb114 hm=>?_
    ·exact pk 3 E (kc 25 rfl hb114) rfl fun a E=>aQ E (ws' (d:=25) E rfl rfl rfl rfl hb114) rfl rfl (cD (i:=0) E H rfl rfl rfl rfl U68 rfl) fun a E=>aQ E (ws' (d:=25) E rfl rfl rfl rfl hb114) rfl rfl (i1 (i:=4) E H rfl rfl rfl U68) fun a E=>pk 2 E (kc 25 rfl hb114) rfl fun a E=>nt<|have H:=H.drop 3;⟨_,_,E.to rfl,H,hs59,hm⟩
    ·exact pk 7 E (kc 25 rfl hb114) rfl fun a E=>nt<|have H:=H.drop 3;⟨_,_,E.to rfl,H,hs59,hm⟩
   ·clear E H hm
    rintro a w ⟨b66,rs67,E,H,hs68,hm⟩
    unfold oG at hm
    refine wif E hm rfl (fun hm=>?_) fun hm=>?_
    ·refine sq<|bd hm fun u69 hx70 hm=>cG E rfl rfl rfl rfl rfl tM (dT H hx70)<|?_
     rintro _ w ⟨v71,v72,v73,v74,v75,v76,rfl,H⟩ a E
     refine aZ (i:=2) E H (wn rfl) rfl rfl rfl rfl rfl rfl bU rfl (bF H m0 mm1 mm2 mm3 mm4 mm5) fun w H=>nt<|wp_ret<|aP<|dH E rfl (cV (i:=2) (us:=(bC u69 v71 v72 v73 v74 v75 v76)) H rfl rfl rfl U48 rfl bU)<|have H:=H.drs [1,1];?_
     cases hm
     exact X8 ⟨rfl,H.reads (aA m0 (aA mm1 (aA mm2 (aA mm3 (aA mm4 (aA mm5 (aA (t6 (hs68 _ hr31)) (aA (t6 (hs68 _ hr32)) (fun r hr=>(t6 (hs68 r hr)))))))))))⟩
    ·refine wp_skip<|aC<|sq<|pr 2 E rfl fun a E=>sv E rfl rfl rfl (cA (i:=1) (us:=(aR x20 v21 v22 v23 v24)) E H rfl rfl rfl rfl U37 rfl j6) fun a E=>bd hm fun u77 hx78 hm=>aU E (wn rfl) rfl rfl (bP E rfl rfl rfl (Yd _)) (N4 H (hs68 _ hr31) (hs68 _ hr32) hx78)<|?_
     rintro _ w ⟨v79,v80,v81,v82,v83,v84,v85,v86,rfl,H⟩ a E
     refine al E H rfl rfl rfl rfl gN fun p87 w a H E=>aZ (i:=0) E H (wn rfl) rfl rfl rfl rfl rfl rfl bU rfl (bF H m0 mm1 mm2 mm3 mm4 mm5) fun w H=>nt<|aT (fun a w=>∃ x88 rs89,Env 59 a [(6,pt p39 0),(9,pt p87 0)]∧Sep w (Blk p39 48 bN::Blk p87 48 (bC u77.1 v79 v80 v81 v82 v83 v84)::Blk p1 75 [v25,v26,v27,v28,v85,v86,.map (some p14),v29,v30]::cB Tryz.prog 2 (kyI .i64) bI true p14 x88::Fo) rs89∧(∀ r,r ∈ rs→r ∈ rs89)∧rSl bE v79 u77.1.Results ∈ rs89∧rSl aF v80 u77.1.Store.Nodes ∈ rs89∧rSl aJ v81 u77.1.Store.Turns ∈ rs89∧rSl aV v82 u77.1.Events ∈ rs89∧rSl bL v83 u77.1.Mounts ∈ rs89∧rSl (kI .i64) v84 u77.1.Wounded ∈ rs89∧rSl aX v85 u77.2.1 ∈ rs89∧rSl aO v86 u77.2.2 ∈ rs89∧oF u77 x88=some r) ?_ ?_
     ·refine aT (fun a w=>∃ b99 rs100,Env 59 a [(0,pt p1 0),(4,pt p38 0),(6,pt p39 0),(9,pt p87 0),(50,.bool b99)]∧Sep w (Blk p1 75 [v25,v26,v27,v28,v85,v86,.map (some p14),v29,v30]::Blk p38 37 (aR x20 v21 v22 v23 v24)::Blk p39 48 bN::Blk p87 48 (bC u77.1 v79 v80 v81 v82 v83 v84)::cB Tryz.prog 2 (kyI .i64) bI true p14 l15::Fo) rs100∧(∀ r,r ∈ rs→r ∈ rs100)∧rSl aX v85 u77.2.1 ∈ rs100∧rSl aO v86 u77.2.2 ∈ rs100∧rSl bE v79 u77.1.Results ∈ rs100∧rSl aF v80 u77.1.Store.Nodes ∈ rs100∧rSl aJ v81 u77.1.Store.Turns ∈ rs100∧rSl aV v82 u77.1.Events ∈ rs100∧rSl bL v83 u77.1.Mounts ∈ rs100∧rSl (kI .i64) v84 u77.1.Wounded ∈ rs100∧lK u77 l15 x20 b99=some r) ?_ ?_
      ·refine wp_region_lit<|pr 1 E rfl fun a E=>lb E H 2 rfl rfl rfl rfl rfl rfl rfl U2 rfl fun a E=>pr 2 E rfl fun a E=>cs hm (fun hb112 hm=>?_) fun hb112 hm=>?_
       ·refine pk 1 E (kc 41 rfl hb112) rfl fun a E=>aQ E (ws' (d:=41) E rfl rfl rfl rfl hb112) rfl rfl (cD (i:=0) E H rfl rfl rfl rfl U41 rfl) fun a E=>pk 3 E (kc 41 rfl hb112) rfl fun a E=>cs hm (fun hb113 hm=>?_) fun hb113 hm=>?_
        ·exact pk 1 E (kc 46 rfl hb113) rfl fun a E=>aQ E (ws' (d:=46) E rfl rfl rfl rfl hb113) rfl rfl (cD (i:=0) E H rfl rfl rfl rfl U41 rfl) fun a E=>pk 2 E (kc 46 rfl hb113) rfl fun a E=>nt<|have H:=H.frs [4,1,4,4,4] rfl;⟨_,_,E.to rfl,H,(Y8 hs68),mm6,(t1 mm6),m0,mm1,mm2,mm3,mm4,mm5,hm⟩
        ·exact pk 4 E (kc 46 rfl hb113) rfl fun a E=>nt<|have H:=H.frs [4,1,4,4,4] rfl;⟨_,_,E.to rfl,H,(Y8 hs68),mm6,(t1 mm6),m0,mm1,mm2,mm3,mm4,mm5,hm⟩
       ·exact pk 9 E (kc 41 rfl hb112) rfl fun a E=>nt<|have H:=H.frs [4,1,4,4,4] rfl;⟨_,_,E.to rfl,H,(Y8 hs68),mm6,(t1 mm6),m0,mm1,mm2,mm3,mm4,mm5,hm⟩
      ·clear E H hm
       rintro a w ⟨b99,rs100,E,H,hs101,hr102,hr103,hr104,hr105,hr106,hr107,hr108,hr109,hm⟩
       unfold lK at hm
       refine wif E hm rfl (fun hm=>?_) fun hm=>?_
       ·refine dw [(0,0),(1,0),(2,0),(3,0),(4,0),(5,0),(6,0),(7,2)] [0,1,3] [] H (by kernel_rfl) (fun _ _ _ h=>False.elim h.2) fun w W0 hI H=>fn 3 E rfl fun a E=>fb E rfl (wn rfl) rfl rfl rfl rfl m0 rfl U68 rfl fun a E=>fn 1 E rfl fun a E=>fb E rfl (wn rfl) rfl rfl rfl rfl mm1 rfl U2 rfl fun a E=>fbn E (bC u77.1 v79 v80 v81 v82 v83 v84) rfl (wn rfl) rfl rfl rfl rfl mm2 rfl U48 rfl bU fun a E=>bQ rfl<|bd hm fun l111 hx110 hm=>zR (i:=4) (K:=(kyI .i64)) (v:=u77.1) (cs:=[.int .i64 u77.1.Err,.int .i64 u77.1.At,.bool u77.1.Yes,.int .i64 u77.1.Epoch,v79,v80,v81,v82,v83,v84]) E H (wn rfl) rfl rfl rfl rfl rfl rfl (dX U2) U68 hx110 (fun ok hr=>(lS (hr _ hr104) (hr _ hr105) (hr _ hr106) (hr _ hr107) (hr _ hr108) (hr _ hr109))) fun w H=>?_
        refine nt<|bR<|?_
        clear hI
        exact aC<|have H:=H.drop 1;have H:=H.frs [3,1,3,3] rfl;⟨_,_,E.to rfl,H,hs101,hr104,hr105,hr106,hr107,hr108,hr109,hr102,hr103,hm⟩
       ·exact wp_skip<|aC<|have H:=H.drop 1;have H:=H.frs [3,1,3,3] rfl;⟨_,_,E.to rfl,H,hs101,hr104,hr105,hr106,hr107,hr108,hr109,hr102,hr103,hm⟩
     ·clear E H hm
      rintro a w ⟨x88,rs89,E,H,hs90,hr91,hr92,hr93,hr94,hr95,hr96,hr97,hr98,hm⟩
      unfold oF at hm
      refine sq<|sv E rfl rfl rfl (cA (i:=1) (us:=(bC u77.1 v79 v80 v81 v82 v83 v84)) E H rfl rfl rfl rfl U48 rfl bU) fun a E=>aZ (i:=0) E H (wn rfl) rfl rfl rfl rfl rfl rfl bU rfl (bF H hr91 hr92 hr93 hr94 hr95 hr96) fun w H=>nt<|wp_ret<|dH E rfl (cV (i:=0) (us:=(bC u77.1 v79 v80 v81 v82 v83 v84)) H rfl rfl rfl U48 rfl bU)<|have H:=H.drs [0,0];?_
      cases hm
      exact X8 ⟨rfl,H.reads (aA hr91 (aA hr92 (aA hr93 (aA hr94 (aA hr95 (aA hr96 (aA hr97 (aA hr98 (hs90)))))))))⟩

def zZ (x1:aK) (x3:Int) (x5:Int):Option Bool:=
  if (x1.Session == x3)=true then (some (x1.Num == x5)) else (some (false))
theorem Bn {w:World} {Fo:List Ob} {rs:List Rp} {x1:aK} {p2 p4:Nat} {x3 x5:Int} (H:Sep w (Blk p2 2 [.int .i64 x3]::Blk p4 2 [.int .i64 x5]::Fo) rs) {r:Bool} (hm:zZ x1 x3 x5=some r) :
    Calls Tryz.prog 231 [.agg (dL x1).toArray,pt p2 0,pt p4 0].toArray w (Ret fun v w'=>.bool r=v∧Sep w' (Blk p2 2 [.int .i64 x3]::Blk p4 2 [.int .i64 x5]::Fo) (rs)):=by
 unfold zZ at hm
 refine ent Tryz.func231 rfl Tryz.ntmps231 rfl rfl fun a E=>sq<|bS E H (wn rfl) rfl rfl rfl rfl rfl fun p6 w a H E=>pr 1 E rfl fun a E=>nx<|pr 1 E rfl fun a E=>lb E H 0 rfl rfl rfl rfl rfl rfl rfl U2 rfl fun a E=>lb E H 1 rfl rfl rfl rfl rfl rfl rfl U2 rfl fun a E=>pr 2 E rfl fun a E=>cs hm (fun hb7 hm=>?_) fun hb7 hm=>?_
 ·refine pk 1 E (kc 9 rfl hb7) rfl fun a E=>aQ E (ws' (d:=9) E rfl rfl rfl rfl hb7) rfl rfl (cD (i:=0) E H rfl rfl rfl rfl U2 rfl) fun a E=>aQ E (ws' (d:=9) E rfl rfl rfl rfl hb7) rfl rfl (cD (i:=2) E H rfl rfl rfl rfl U2 rfl) fun a E=>pk 3 E (kc 9 rfl hb7) rfl fun a E=>nt<|wp_ret<|aY E rfl rfl<|have H:=H.drop 0;?_
  cases hm
  exact ⟨rfl,H.reads Y0⟩
 ·refine pk 6 E (kc 9 rfl hb7) rfl fun a E=>nt<|wp_ret<|aY E rfl rfl<|have H:=H.drop 0;?_
  cases hm
  exact ⟨rfl,H.reads Y0⟩

def eI (l2:List aK) (x4:Int) (x6:Int):Nat→Int→Option Int
  | 0,_=>none
  | k1+1,x8=>
    if (decide (x8 < (l2.length:Int)))=true then ((idx l2 x8).bind fun x11=>(zZ x11 x4 x6).bind fun u14=>if u14=true then (some (x8)) else (eI l2 x4 x6 k1 (IntKind.i64.wrap (x8+1)))) else (some ((-1)))
def hN (l2:List aK) (x4:Int) (x6:Int):Option Int:=
  eI l2 x4 x6 (((l2.length:Int) - 0:Int).toNat+1) 0
theorem sS {w:World} {Fo:List Ob} {rs:List Rp} {v1:Value} {l2:List aK} {p3 p5:Nat} {x4 x6:Int} (H:Sep w (Blk p3 2 [.int .i64 x4]::Blk p5 2 [.int .i64 x6]::Fo) rs) (hr7:rSl aX v1 l2 ∈ rs) {r:Int} (hm:hN l2 x4 x6=some r) :
    Calls Tryz.prog 230 [v1,.func (.func 231) #[] #[pt p3 0,pt p5 0]].toArray w (Ret fun v w'=>.int .i64 r=v∧Sep w' (Blk p3 2 [.int .i64 x4]::Blk p5 2 [.int .i64 x6]::Fo) (rs)):=by
 unfold hN at hm
 refine ent Tryz.func230 rfl Tryz.ntmps230 rfl rfl fun a E=>sq<|pr 1 E rfl fun a E=>nt<|wp_seq<|sq<|pr 1 E rfl fun a E=>sv E rfl rfl rfl (cR E H rfl rfl hr7 U70) fun a E=>pr 1 E rfl fun a E=>?_
 refine nt<|wp_block<|bX (fun k1 a w=>∃ x8 rs9,Env 19 a [(0,v1),(1,.func (.func 231) #[] #[pt p3 0,pt p5 0]),(7,.int .i64 (l2.length:Int)),(8,.int .i64 x8)]∧Sep w (Blk p3 2 [.int .i64 x4]::Blk p5 2 [.int .i64 x6]::Fo) rs9∧(∀ r,r ∈ rs→r ∈ rs9)∧eI l2 x4 x6 k1 x8=some r) (((l2.length:Int) - 0:Int).toNat+1) ?_ ?_
 ·exact ⟨_,_,E.to rfl,H,Y0,hm⟩
 ·clear E H hm
  rintro k1 a w ⟨x8,rs9,E,H,hs10,hm⟩
  cases k1 with
  | zero=>exact (bT hm rfl).elim
  | succ k1=>
   unfold eI at hm
   refine sq<|pr 1 E rfl fun a E=>nt<|wp_seq<|wif E hm rfl (fun hm=>?_) fun hm=>?_
   ·refine wp_skip<|aC<|wp_seq<|wp_block<|sq<|pr 2 E rfl fun a E=>nx<|pr 3 E rfl fun a E=>bd hm fun x11 hx12 hm=>?_
    refine dE E H (wn rfl) rfl rfl rfl rfl rfl (hs10 _ hr7) U70 pK hx12 fun q13 a H E=>ldf hB E H rfl rfl rfl rfl rfl m0 U35 rfl pK fun a E=>bd hm fun u14 hx15 hm=>aU E (wn rfl) rfl rfl (bP E rfl rfl rfl (Ux _)) (Bn H hx15)<|?_
    rintro _ w ⟨rfl,H⟩ a E
    refine nt<|wif E hm rfl (fun hm=>?_) fun hm=>?_
    ·refine sq<|pr 2 E rfl fun a E=>nt<|wp_ret<|bV<|aP<|aP<|bV<|aP<|?_
     refine aY E rfl rfl<|?_
     cases hm
     exact ⟨rfl,H.reads (Y1 hs10)⟩
    ·exact wp_skip<|bY<|aC<|wp_region_lit<|pr 2 E rfl fun a E=>nt<|⟨k1,Nat.lt_succ_self k1,_,_,E.to rfl,H,(Y1 hs10),hm⟩
   ·refine wp_exit<|bH<|bH<|dG<|aC<|sq<|pr 1 E rfl fun a E=>nt<|wp_ret<|?_
    refine aY E rfl rfl<|?_
    cases hm
    exact ⟨rfl,H.reads hs10⟩

def zG (x1:bM) (x4:Int) (x5:Int):Option Int:=
  (hN x1.Watches x4 x5).bind fun u11=>some (u11)
theorem N6 {w:World} {Fo:List Ob} {rs:List Rp} {x1:bM} {v2 v3:Value} {x4 x5:Int} (H:Sep w (Fo) rs) (hr6:rSl aX v2 x1.Watches ∈ rs) {r:Int} (hm:zG x1 x4 x5=some r) :
    Calls Tryz.prog 162 [.agg #[v2,v3],.int .i64 x4,.int .i64 x5].toArray w (Ret fun v w'=>.int .i64 r=v∧Sep w' (Fo) (rs)):=by
 unfold zG at hm
 refine ent Tryz.func162 rfl Tryz.ntmps162 rfl rfl fun a E=>sq<|bS E H (wn rfl) rfl rfl rfl rfl rfl fun p8 w a H E=>bS E H (wn rfl) rfl rfl rfl rfl rfl fun p9 w a H E=>bS E H (wn rfl) rfl rfl rfl rfl rfl fun p10 w a H E=>pr 1 E rfl fun a E=>nx<|pr 1 E rfl fun a E=>lb E H 2 rfl rfl rfl rfl rfl rfl rfl U70 rfl fun a E=>?_
 refine sv E rfl rfl rfl (iP E rfl rfl rfl) fun a E=>have H:=H.frs [2,1,2] rfl;bd hm fun u11 hx12 hm=>xk E rfl rfl rfl rfl rfl He (sS H hr6 hx12) fun w H a E=>pr 1 E rfl fun a E=>nt<|wp_ret<|aY E rfl rfl<|have H:=H.drs [0,0,0];?_
 cases hm
 exact ⟨rfl,H.reads Y0⟩

def k8 (x1:bM) (x4:Int) (x5:Int):Option (bM×Int):=
  (qN x1).bind fun u10=>if (!u10)=true then (some ((⟨[],[]⟩:bM),1)) else ((zG x1 x4 x5).bind fun u12=>if (decide (u12 < 0))=true then (some (x1,62)) else ((ck (x1.Watches.length ≤ LIM)).bind fun u15=>(ck (0 ≤ u12∧u12 < x1.Watches.length∧IntKind.i64.wrap (u12+1)=u12+1)).bind fun u17=>some ((⟨x1.Watches.eraseIdx u12.toNat,x1.Sessions⟩:bM),0)))
theorem J4 {w:World} {Fo:List Ob} {rs:List Rp} {x1:bM} {v2 v3:Value} {x4 x5:Int} (H:Sep w (Fo) rs) (hr6:rSl aX v2 x1.Watches ∈ rs) (hr7:rSl aO v3 x1.Sessions ∈ rs) {r:bM×Int} (hm:k8 x1 x4 x5=some r) :
    Calls Tryz.prog 90 [.agg #[v2,v3],.int .i64 x4,.int .i64 x5].toArray w (Ret fun v w'=>∃ y2 y3,.tuple #[.agg #[y2,y3],.int .i64 r.2]=v∧Sep w' (Fo) (rSl aX y2 r.1.Watches::rSl aO y3 r.1.Sessions::rs)):=by
 unfold k8 at hm
 refine ent Tryz.func90 rfl Tryz.ntmps90 rfl rfl fun a E=>sq<|bS E H (wn rfl) rfl rfl rfl rfl rfl fun p8 w a H E=>al E H rfl rfl rfl rfl G2 fun p9 w a H E=>pr 1 E rfl fun a E=>nt<|wp_seq<|sq<|sv E rfl rfl rfl (cA (i:=1) (us:=[v2,v3]) E H rfl rfl rfl rfl U73 rfl eE) fun a E=>?_
 refine bd hm fun u10 hx11 hm=>xk E rfl rfl rfl rfl rfl Cw (xQ H hr6 hr7 hx11) fun w H a E=>pr 1 E rfl fun a E=>nt<|wif E hm rfl (fun hm=>?_) fun hm=>?_
 ·refine sq<|sv E rfl rfl rfl (cI E rfl (E.evs rfl) (v:=.agg #[.slice none 0 0,.slice none 0 0]) (by kernel_rfl)) fun a E=>aZ (i:=0) E H (wn rfl) rfl rfl rfl rfl rfl rfl eE rfl rfl fun w H=>pr 1 E rfl fun a E=>nt<|wp_ret<|aP<|rJ E rfl (cV (i:=0) (us:=[.slice none 0 0,.slice none 0 0]) H rfl rfl rfl U73 rfl eE) (rvT rfl)<|have H:=H.nilSl aX;?_
  refine have H:=H.nilSl aO;have H:=H.drs [0,0];?_
  cases hm
  exact ⟨_,_,rfl,H.reads (aA mm1 (aA m0 (fun r hr=>(t2 hr))))⟩
 ·refine wp_skip<|aC<|sq<|sv E rfl rfl rfl (cA (i:=1) (us:=[v2,v3]) E H rfl rfl rfl rfl U73 rfl eE) fun a E=>pr 2 E rfl fun a E=>bd hm fun u12 hx13 hm=>xk E rfl rfl rfl rfl rfl Lt (N6 H hr6 hx13) fun w H a E=>pr 1 E rfl fun a E=>nt<|?_
  refine wp_seq<|sq<|pr 2 E rfl fun a E=>nt<|wif E hm rfl (fun hm=>?_) fun hm=>?_
  ·refine sq<|sv E rfl rfl rfl (cA (i:=1) (us:=[v2,v3]) E H rfl rfl rfl rfl U73 rfl eE) fun a E=>aZ (i:=0) E H (wn rfl) rfl rfl rfl rfl rfl rfl eE rfl (gB H hr6 hr7) fun w H=>pr 1 E rfl fun a E=>nt<|wp_ret<|aP<|rJ E rfl (cV (i:=0) (us:=[v2,v3]) H rfl rfl rfl U73 rfl eE) (rvT rfl)<|have H:=H.drs [0,0];?_
   cases hm
   exact ⟨_,_,rfl,H.reads (aA hr6 (aA hr7 (fun r hr=>hr)))⟩
  ·refine wp_skip<|aC<|sq<|pr 1 E rfl fun a E=>lb E H 1 rfl rfl rfl rfl rfl rfl rfl U70 rfl fun a E=>bk hm fun hx16 hm=>aU E (wn rfl) rfl rfl (cC E rfl rfl (Da _)) (fM H hr6 hx16) fun v14 w H a E=>pr 3 E rfl fun a E=>bk hm fun hx18 hm=>?_
   refine aU E (wn rfl) rfl rfl (cC E rfl rfl (Uy _)) (Wa.delete_c (ix:=0) H rfl hx18) fun v19 w H a E=>pr 1 E rfl fun a E=>?_
   obtain ⟨q20,x21,rfl⟩:=H.rowform (i:=0) rfl
   refine aZ (i:=2) E H (wn rfl) rfl rfl rfl rfl rfl rfl Hj rfl rfl fun w H=>nx<|sv E rfl rfl rfl (cA (i:=2) (us:=[(.slice q20 (x1.Watches.eraseIdx u12.toNat).length x21),v3]) E H rfl rfl rfl rfl U73 rfl eE) fun a E=>?_
   obtain ⟨q22,x23,rfl⟩:=H.slform hr7
   refine aZ (i:=1) E H (wn rfl) rfl rfl rfl rfl rfl rfl eE rfl rfl fun w H=>pr 1 E rfl fun a E=>nt<|wp_ret<|rJ E rfl (cV (i:=1) (us:=[(.slice q20 (x1.Watches.eraseIdx u12.toNat).length x21),(.slice q22 x1.Sessions.length x23)]) H rfl rfl rfl U73 rfl eE) (rvT rfl)<|have H:=H.thaw (i:=0) rfl;have H:=H.drs [0,0];?_
   cases hm
   exact ⟨_,_,rfl,H.reads (aA m0 (aA (t1 hr7) (fun r hr=>(t1 hr))))⟩

def pQ (l11:List aK) (l13:List aD) (x41:Int) (l43:(List aK)) (l45:(List aD)):Option (aG×(List aK)×(List aD)):=
  (lJ l11 l13 (⟨l43,l45⟩:bM) ([]:List bK) x41).bind fun u50=>some (u50.1,u50.2.1,u50.2.2)
def rZ (l11:List aK) (l13:List aD) (x20:bA):Option (aG×(List aK)×(List aD)):=
  (k8 (⟨l11,l13⟩:bM) x20.Watch.Session x20.Watch.Num).bind fun u60=>pQ l11 l13 u60.2 u60.1.Watches u60.1.Sessions
theorem F4 {w:World} {Fo:List Ob} {rs:List Rp} {p1:Nat} {v10 v12 v21 v22 v23 v24 v25 v26 v27 v28 v29 v30 v31:Value} {l11:List aK} {l13:List aD} {x20:bA} (H:Sep w (Blk p1 75 [v25,v26,v27,v28,v10,v12,v29,v30,v31]::Fo) rs) (hr32:rSl aX v10 l11 ∈ rs) (hr33:rSl aO v12 l13 ∈ rs) {r:aG×(List aK)×(List aD)} (hm:rZ l11 l13 x20=some r) :
    Calls Tryz.prog 33 [pt p1 0,.agg (aR x20 v21 v22 v23 v24).toArray].toArray w (Ret fun v w'=>∃ y2 y3 y4 y5 y6 y7 y8 y10,.agg (bC r.1 y2 y3 y4 y5 y6 y7).toArray=v∧Sep w' (Blk p1 75 [v25,v26,v27,v28,y8,y10,v29,v30,v31]::Fo) (rSl bE y2 r.1.Results::rSl aF y3 r.1.Store.Nodes::rSl aJ y4 r.1.Store.Turns::rSl aV y5 r.1.Events::rSl bL y6 r.1.Mounts::rSl (kI .i64) y7 r.1.Wounded::rSl aX y8 r.2.1::rSl aO y10 r.2.2::rs)):=by
 unfold rZ at hm
 refine ent Tryz.func33 rfl Tryz.ntmps33 rfl rfl fun a E=>sq<|bS E H (wn rfl) rfl rfl rfl rfl rfl fun p38 w a H E=>al E H rfl rfl rfl rfl gN fun p39 w a H E=>nt<|aT (fun a w=>∃ p40 v42 v44 x41 l43 l45 rs46,Env 25 a [(0,pt p1 0),(4,pt p39 0),(5,pt p40 0),(6,.int .i64 x41)]∧Sep w (Blk p1 75 [v25,v26,v27,v28,v10,v12,v29,v30,v31]::Blk p39 48 bN::Blk p40 73 [v42,v44]::Fo) rs46∧(∀ r,r ∈ rs→r ∈ rs46)∧rSl aX v42 l43 ∈ rs46∧rSl aO v44 l45 ∈ rs46∧pQ l11 l13 x41 l43 l45=some r) ?_ ?_
 ·refine bd hm fun u60 hx61 hm=>?_
  have hI:dP [Blk p38 37 (aR x20 v21 v22 v23 v24),Blk p1 75 [v25,v26,v27,v28,v10,v12,v29,v30,v31]] [] { w with drawn:=w.drawn+1 }:=⟨_,_,H.kept (Kp.drawn _ w _),(aB mm1 (aB mm2 (aL))),(aM)⟩
  refine jY _ (.go 0 0 (.go 1 0 (.go 2 0 (.go 3 0 (.go 4 0 (.go 5 0 (.go 6 0 (.go 7 0 (.go 8 0 (.go 9 0 (.alt 10 (.go 11 0 (.go 12 0 (.go 13 0 (.go 14 1 (.go 15 1 (.go 16 2 .nil)))))) 14 (.go 10 1 (.go 11 0 (.go 12 0 (.go 13 0 (.go 15 1 (.go 16 2 .nil))))))))))))))))) [16] kG (by kernel_rfl) (fun _ _ _ h=>False.elim h.2) hI<|have H:=H.kept (Kp.drawn _ w (w.drawn+1));?_
  generalize ({ w with drawn:=w.drawn+1 }:World)=w at H hI ⊢
  replace hI:∃ W,dP [Blk p38 37 (aR x20 v21 v22 v23 v24),Blk p1 75 [v25,v26,v27,v28,v10,v12,v29,v30,v31]] [] W:=⟨_,hI⟩
  obtain ⟨W0,hI⟩:=hI
  refine aW E rfl (wn rfl) rfl rfl (fun w hW=>(bD E rfl rfl)) fun a E=>aW E rfl (wn rfl) rfl rfl (fun w hW=>(sF E rfl rfl)) fun a E=>aW E rfl (wn rfl) rfl rfl (fun w hW=>iY E rfl rfl (v:=pt p1 4) (En _ _)) fun a E=>aW E rfl (wn rfl) rfl rfl (fun w hW=>eZ E rfl rfl (yN (us:=[v10,v12]) mm1 rfl U73 rfl eE w hW)) fun a E=>aW E rfl (wn rfl) rfl rfl (fun w hW=>iY E rfl rfl (v:=pt p38 12) (O9 _ _)) fun a E=>aW E rfl (wn rfl) rfl rfl (fun w hW=>iY E rfl rfl (v:=pt p38 12) (Ad _ _)) fun a E=>aW E rfl (wn rfl) rfl rfl (fun w hW=>eZ E rfl rfl (kD m0 rfl U2 rfl w hW)) fun a E=>aW E rfl (wn rfl) rfl rfl (fun w hW=>iY E rfl rfl (v:=pt p38 12) (O9 _ _)) fun a E=>aW E rfl (wn rfl) rfl rfl (fun w hW=>iY E rfl rfl (v:=pt p38 13) (Em _ _)) fun a E=>?_
  refine aW E rfl (wn rfl) rfl rfl (fun w hW=>eZ E rfl rfl (kD m0 rfl U2 rfl w hW)) fun a E=>?_
  refine kM rfl rfl ?_ ?_
  ·refine cG E rfl rfl rfl rfl rfl Qw (J4 (x1:=(⟨l11,l13⟩:bM)) H hr32 hr33 hx61)<|?_
   rintro _ w ⟨v72,v73,rfl,H⟩ a E
   refine nt<|?_
   refine ⟨⟨_,_,H,(aB mm1 (aB mm2 (aL))),(aM)⟩,?_⟩
   refine aW E rfl (wn rfl) rfl rfl (fun w hW=>(bD E rfl rfl)) fun a E=>aW E rfl (wn rfl) rfl rfl (fun w hW=>(cX E rfl rfl rfl)) fun a E=>aW E rfl (wn rfl) rfl rfl (fun w hW=>(cX E rfl rfl rfl)) fun a E=>cJ rfl<|al E H rfl rfl rfl rfl G2 fun p74 w a H E=>nt<|?_
   refine ⟨⟨_,_,H,(aB mm2 (aB mm3 (aL))),(aM)⟩,?_⟩
   refine cJ rfl<|aZ (i:=0) E H (wn rfl) rfl rfl rfl rfl rfl rfl eE rfl (gB H m0 mm1) fun w H=>nt<|?_
   refine ⟨⟨_,_,H,(aB mm2 (aB mm3 (aL))),(aM)⟩,?_⟩
   refine cP rfl<|pr 1 E rfl fun a E=>nt<|dW<|?_
   clear hI
   exact aC<|have H:=H.drop 2;have H:=H.frs [0,1,2] rfl;X7 ⟨E.to rfl,H,(Y2 Y0),m0,mm1,hm⟩
  ·refine al E H rfl rfl rfl rfl G2 fun p75 w a H E=>nt<|?_
   refine ⟨⟨_,_,H,(aB mm2 (aB mm3 (aL))),(aM)⟩,?_⟩
   refine cJ rfl<|cG E rfl rfl rfl rfl rfl Qw (J4 (x1:=(⟨l11,l13⟩:bM)) H hr32 hr33 hx61)<|?_
   rintro _ w ⟨v78,v79,rfl,H⟩ a E
   refine nt<|?_
   refine ⟨⟨_,_,H,(aB mm2 (aB mm3 (aL))),(aM)⟩,?_⟩
   refine aW E rfl (wn rfl) rfl rfl (fun w hW=>(bD E rfl rfl)) fun a E=>aW E rfl (wn rfl) rfl rfl (fun w hW=>(cX E rfl rfl rfl)) fun a E=>aW E rfl (wn rfl) rfl rfl (fun w hW=>(cX E rfl rfl rfl)) fun a E=>cJ rfl<|aZ (i:=0) E H (wn rfl) rfl rfl rfl rfl rfl rfl eE rfl (gB H m0 mm1) fun w H=>nt<|?_
   refine ⟨⟨_,_,H,(aB mm2 (aB mm3 (aL))),(aM)⟩,?_⟩
   refine cP rfl<|pr 1 E rfl fun a E=>nt<|dW<|?_
   clear hI
   exact aC<|have H:=H.drop 2;have H:=H.frs [0,1,2] rfl;X7 ⟨E.to rfl,H,(Y2 Y0),m0,mm1,hm⟩
 ·clear E H hm
  rintro a w ⟨p40,v42,v44,x41,l43,l45,rs46,E,H,hs47,hr48,hr49,hm⟩
  unfold pQ at hm
  refine sq<|pr 1 E rfl fun a E=>sv E rfl rfl rfl (cA (i:=2) (us:=[v42,v44]) E H rfl rfl rfl rfl U73 rfl eE) fun a E=>pr 1 E rfl fun a E=>have H:=H.nilSl aV;bd hm fun u50 hx51 hm=>cG E rfl rfl rfl rfl rfl Ko (rX (x20:=(⟨l43,l45⟩:bM)) H (t1 (hs47 _ hr32)) (t1 (hs47 _ hr33)) (t1 hr48) (t1 hr49) m0 hx51)<|?_
  rintro _ w ⟨v52,v53,v54,v55,v56,v57,v58,v59,rfl,H⟩ a E
  refine aZ (i:=1) E H (wn rfl) rfl rfl rfl rfl rfl rfl bU rfl (bF H m0 mm1 mm2 mm3 mm4 mm5) fun w H=>nt<|wp_ret<|dH E rfl (cV (i:=1) (us:=(bC u50.1 v52 v53 v54 v55 v56 v57)) H rfl rfl rfl U48 rfl bU)<|have H:=H.drs [1,1];?_
  cases hm
  exact X8 ⟨rfl,H.reads (aA m0 (aA mm1 (aA mm2 (aA mm3 (aA mm4 (aA mm5 (aA mm6 (aA (t1 mm6) (fun r hr=>(t1 (t8 (hs47 r hr))))))))))))⟩

def mK (u77:aG×(List aK)×(List aD)) (x88:(List ((Int)×aG))):Option (aG×(List aK)×(List aD)×(List ((Int)×aG))):=
  some (u77.1,u77.2.1,u77.2.2,x88)
def jV (u77:aG×(List aK)×(List aD)) (l15:List ((Int)×aG)) (x20:bA) (b99:Bool):Option (aG×(List aK)×(List aD)×(List ((Int)×aG))):=
  if b99=true then ((mpt (kyI .i64) l15 x20.Id u77.1).bind fun l111=>mK u77 l111) else (mK u77 l15)
def mL (l15:List ((Int)×aG)) (x20:bA) (l11:List aK) (l13:List aD) (b66:Bool):Option (aG×(List aK)×(List aD)×(List ((Int)×aG))):=
  if b66=true then ((dM 2).bind fun u69=>some (u69,l11,l13,l15)) else ((rZ l11 l13 x20).bind fun u77=>if (x20.Id != 0)=true then (if (u77.1.Err != 131)=true then (jV u77 l15 x20 (u77.1.Err != 132)) else (jV u77 l15 x20 false)) else (jV u77 l15 x20 false))
def qH (l15:List ((Int)×aG)) (x20:bA) (l11:List aK) (l13:List aD) (b41:Bool) (x42:Int) (x43:Int) (b44:Bool) (x45:Int) (l47:(List cL)) (l49:(List aE)) (l51:(List aI)) (l53:(List bK)) (l55:(List lQ)) (l57:(List Int)):Option (aG×(List aK)×(List aD)×(List ((Int)×aG))):=
  if b41=true then (some ((⟨x42,x43,b44,x45,l47,(⟨l49,l51⟩:bB),l53,l55,l57⟩:aG),l11,l13,l15)) else (if (x20.Id != 0)=true then (mL l15 x20 l11 l13 ((l15.length:Int) == 512)) else (mL l15 x20 l11 l13 false))
def sT (l11:List aK) (l13:List aD) (l15:List ((Int)×aG)) (x20:bA):Option (aG×(List aK)×(List aD)×(List ((Int)×aG))):=
  (o8 (kyI .i64) l15 x20.Id nP).bind fun x117=>qH l15 x20 l11 l13 x117.2 x117.1.Err x117.1.At x117.1.Yes x117.1.Epoch x117.1.Results x117.1.Store.Nodes x117.1.Store.Turns x117.1.Events x117.1.Mounts x117.1.Wounded
theorem I2 {w:World} {Fo:List Ob} {rs:List Rp} {p1 p14:Nat} {v10 v12 v21 v22 v23 v24 v25 v26 v27 v28 v29 v30:Value} {l11:List aK} {l13:List aD} {l15:List ((Int)×aG)} {x20:bA} (H:Sep w (Blk p1 75 [v25,v26,v27,v28,v10,v12,.map (some p14),v29,v30]::cB Tryz.prog 2 (kyI .i64) bI true p14 l15::Fo) rs) (hr31:rSl aX v10 l11 ∈ rs) (hr32:rSl aO v12 l13 ∈ rs) {r:aG×(List aK)×(List aD)×(List ((Int)×aG))} (hm:sT l11 l13 l15 x20=some r) :
    Calls Tryz.prog 37 [pt p1 0,.agg (aR x20 v21 v22 v23 v24).toArray,.func (.func 33) #[] #[]].toArray w (Ret fun v w'=>∃ y2 y3 y4 y5 y6 y7 y8 y10,.agg (bC r.1 y2 y3 y4 y5 y6 y7).toArray=v∧Sep w' (Blk p1 75 [v25,v26,v27,v28,y8,y10,.map (some p14),v29,v30]::cB Tryz.prog 2 (kyI .i64) bI true p14 r.2.2.2::Fo) (rSl bE y2 r.1.Results::rSl aF y3 r.1.Store.Nodes::rSl aJ y4 r.1.Store.Turns::rSl aV y5 r.1.Events::rSl bL y6 r.1.Mounts::rSl (kI .i64) y7 r.1.Wounded::rSl aX y8 r.2.1::rSl aO y10 r.2.2.1::rs)):=by
 unfold sT at hm
 refine ent Tryz.func37 rfl Tryz.ntmps37 rfl rfl fun a E=>sq<|bS E H (wn rfl) rfl rfl rfl rfl rfl fun p38 w a H E=>al E H rfl rfl rfl rfl gN fun p39 w a H E=>nt<|wp_seq<|aT (fun a w=>∃ p40 v46 v48 v50 v52 v54 v56 b41 x42 x43 b44 x45 l47 l49 l51 l53 l55 l57 rs58,Env 59 a [(0,pt p1 0),(2,.func (.func 33) #[] #[]),(4,pt p38 0),(6,pt p39 0),(7,pt p40 0),(8,.bool b41)]∧Sep w (Blk p1 75 [v25,v26,v27,v28,v10,v12,.map (some p14),v29,v30]::Blk p38 37 (aR x20 v21 v22 v23 v24)::Blk p39 48 bN::Blk p40 48 [.int .i64 x42,.int .i64 x43,.bool b44,.int .i64 x45,v46,v48,v50,v52,v54,v56]::cB Tryz.prog 2 (kyI .i64) bI true p14 l15::Fo) rs58∧(∀ r,r ∈ rs→r ∈ rs58)∧rSl bE v46 l47 ∈ rs58∧rSl aF v48 l49 ∈ rs58∧rSl aJ v50 l51 ∈ rs58∧rSl aV v52 l53 ∈ rs58∧rSl bL v54 l55 ∈ rs58∧rSl (kI .i64) v56 l57 ∈ rs58∧qH l15 x20 l11 l13 b41 x42 x43 b44 x45 l47 l49 l51 l53 l55 l57=some r) ?_ ?_
 ·refine bd hm fun x117 hx115 hm=>?_
  have hI:dP [Blk p38 37 (aR x20 v21 v22 v23 v24),Blk p1 75 [v25,v26,v27,v28,v10,v12,.map (some p14),v29,v30]] [] { w with drawn:=w.drawn+1 }:=⟨_,_,H.kept (Kp.drawn _ w _),(aB mm1 (aB mm2 (aL))),(aM)⟩
  refine jY _ (.go 0 0 (.go 1 0 (.go 2 0 (.go 3 0 (.go 4 0 (.go 5 0 (.alt 6 (.go 7 0 (.go 8 0 (.go 9 0 (.go 10 1 (.go 11 1 (.go 12 2 .nil)))))) 10 (.go 6 1 (.go 7 0 (.go 8 0 (.go 9 0 (.go 11 1 (.go 12 2 .nil))))))))))))) [12] kG (by kernel_rfl) (fun _ _ _ h=>False.elim h.2) hI<|have H:=H.kept (Kp.drawn _ w (w.drawn+1));?_
  generalize ({ w with drawn:=w.drawn+1 }:World)=w at H hI ⊢
  replace hI:∃ W,dP [Blk p38 37 (aR x20 v21 v22 v23 v24),Blk p1 75 [v25,v26,v27,v28,v10,v12,.map (some p14),v29,v30]] [] W:=⟨_,hI⟩
  obtain ⟨W0,hI⟩:=hI
  refine aW E rfl (wn rfl) rfl rfl (fun w hW=>(bD E rfl rfl)) fun a E=>aW E rfl (wn rfl) rfl rfl (fun w hW=>(sF E rfl rfl)) fun a E=>aW E rfl (wn rfl) rfl rfl (fun w hW=>iY E rfl rfl (v:=pt p1 6) (L7 _ _)) fun a E=>aW E rfl (wn rfl) rfl rfl (fun w hW=>eZ E rfl rfl (kD mm1 rfl U68 rfl w hW)) fun a E=>aW E rfl (wn rfl) rfl rfl (fun w hW=>iY E rfl rfl (v:=pt p38 1) (L6 _ _)) fun a E=>aW E rfl (wn rfl) rfl rfl (fun w hW=>eZ E rfl rfl (kD m0 rfl U2 rfl w hW)) fun a E=>?_
  refine kM rfl rfl ?_ ?_
  ·refine lR (i:=3) (K:=(kyI .i64)) E H (wn rfl) rfl rfl rfl rfl rfl rfl (dX U2) U68 yV q3 hx115 fun u140 a H E=>?_
   obtain ⟨v141,v142,v143,v144,v145,v146,rfl,h⟩:=jC H;clear H;have H:=h
   refine nt<|?_
   refine ⟨⟨_,_,H,(aB mm1 (aB mm2 (aL))),(aM)⟩,?_⟩
   refine aW E rfl (wn rfl) rfl rfl (fun w hW=>(bD E rfl rfl)) fun a E=>aW E rfl (wn rfl) rfl rfl (fun w hW=>(cX E rfl rfl rfl)) fun a E=>aW E rfl (wn rfl) rfl rfl (fun w hW=>(cX E rfl rfl rfl)) fun a E=>cJ rfl<|al E H rfl rfl rfl rfl gN fun p147 w a H E=>nt<|?_
   refine ⟨⟨_,_,H,(aB mm2 (aB mm3 (aL))),(aM)⟩,?_⟩
   refine cJ rfl<|aZ (i:=0) E H (wn rfl) rfl rfl rfl rfl rfl rfl bU rfl (bF H mm5 mm4 mm3 mm2 mm1 m0) fun w H=>nt<|?_
   refine ⟨⟨_,_,H,(aB mm2 (aB mm3 (aL))),(aM)⟩,?_⟩
   refine cP rfl<|pr 1 E rfl fun a E=>nt<|dW<|?_
   clear hI
   exact aC<|have H:=H.frs [4,1,2,3,4] rfl;X19 ⟨E.to rfl,H,(Y7 Y0),mm5,mm4,mm3,mm2,mm1,m0,hm⟩
  ·refine al E H rfl rfl rfl rfl gN fun p148 w a H E=>nt<|?_
   refine ⟨⟨_,_,H,(aB mm2 (aB mm3 (aL))),(aM)⟩,?_⟩
   refine cJ rfl<|lR (i:=4) (K:=(kyI .i64)) E H (wn rfl) rfl rfl rfl rfl rfl rfl (dX U2) U68 yV q3 hx115 fun u152 a H E=>?_
   obtain ⟨v153,v154,v155,v156,v157,v158,rfl,h⟩:=jC H;clear H;have H:=h
   refine nt<|?_
   refine ⟨⟨_,_,H,(aB mm2 (aB mm3 (aL))),(aM)⟩,?_⟩
   refine aW E rfl (wn rfl) rfl rfl (fun w hW=>(bD E rfl rfl)) fun a E=>aW E rfl (wn rfl) rfl rfl (fun w hW=>(cX E rfl rfl rfl)) fun a E=>aW E rfl (wn rfl) rfl rfl (fun w hW=>(cX E rfl rfl rfl)) fun a E=>cJ rfl<|aZ (i:=0) E H (wn rfl) rfl rfl rfl rfl rfl rfl bU rfl (bF H mm5 mm4 mm3 mm2 mm1 m0) fun w H=>nt<|?_
   refine ⟨⟨_,_,H,(aB mm2 (aB mm3 (aL))),(aM)⟩,?_⟩
   refine cP rfl<|pr 1 E rfl fun a E=>nt<|dW<|?_
   clear hI
   exact aC<|have H:=H.frs [4,1,2,3,4] rfl;X19 ⟨E.to rfl,H,(Y7 Y0),mm5,mm4,mm3,mm2,mm1,m0,hm⟩
 ·clear E H hm
  rintro a w ⟨p40,v46,v48,v50,v52,v54,v56,b41,x42,x43,b44,x45,l47,l49,l51,l53,l55,l57,rs58,E,H,hs59,hr60,hr61,hr62,hr63,hr64,hr65,hm⟩
  unfold qH at hm
  refine sq<|pr 1 E rfl fun a E=>nt<|wif E hm rfl (fun hm=>?_) fun hm=>?_
  ·refine sq<|sv E rfl rfl rfl (cA (i:=3) (us:=[.int .i64 x42,.int .i64 x43,.bool b44,.int .i64 x45,v46,v48,v50,v52,v54,v56]) E H rfl rfl rfl rfl U48 rfl bU) fun a E=>aZ (i:=2) E H (wn rfl) rfl rfl rfl rfl rfl rfl bU rfl (bF H hr60 hr61 hr62 hr63 hr64 hr65) fun w H=>nt<|wp_ret<|aP<|dH E rfl (cV (i:=2) (us:=[.int .i64 x42,.int .i64 x43,.bool b44,.int .i64 x45,v46,v48,v50,v52,v54,v56]) H rfl rfl rfl U48 rfl bU)<|have H:=H.drs [1,1,1];?_
   cases hm
   exact X8 ⟨rfl,H.reads (aA hr60 (aA hr61 (aA hr62 (aA hr63 (aA hr64 (aA hr65 (aA (hs59 _ hr31) (aA (hs59 _ hr32) (hs59)))))))))⟩
  ·refine wp_skip<|aC<|wp_seq<|aT (fun a w=>∃ b66 rs67,Env 59 a [(0,pt p1 0),(2,.func (.func 33) #[] #[]),(4,pt p38 0),(6,pt p39 0),(32,.bool b66)]∧Sep w (Blk p1 75 [v25,v26,v27,v28,v10,v12,.map (some p14),v29,v30]::Blk p38 37 (aR x20 v21 v22 v23 v24)::Blk p39 48 bN::cB Tryz.prog 2 (kyI .i64) bI true p14 l15::Fo) rs67∧(∀ r,r ∈ rs→r ∈ rs67)∧mL l15 x20 l11 l13 b66=some r) ?_ ?_
   ·refine wp_region_lit<|pr 1 E rfl fun a E=>lb E H 1 rfl rfl rfl rfl rfl rfl rfl U2 rfl fun a E=>pr 2 E rfl fun a E=>cs hm (fun hb114 hm=>?_) fun hb114 hm=>?_
    ·exact pk 3 E (kc 25 rfl hb114) rfl fun a E=>aQ E (ws' (d:=25) E rfl rfl rfl rfl hb114) rfl rfl (cD (i:=0) E H rfl rfl rfl rfl U68 rfl) fun a E=>aQ E (ws' (d:=25) E rfl rfl rfl rfl hb114) rfl rfl (i1 (i:=4) E H rfl rfl rfl U68) fun a E=>pk 2 E (kc 25 rfl hb114) rfl fun a E=>nt<|have H:=H.drop 3;⟨_,_,E.to rfl,H,hs59,hm⟩
    ·exact pk 7 E (kc 25 rfl hb114) rfl fun a E=>nt<|have H:=H.drop 3;⟨_,_,E.to rfl,H,hs59,hm⟩
   ·clear E H hm
    rintro a w ⟨b66,rs67,E,H,hs68,hm⟩
    unfold mL at hm
    refine wif E hm rfl (fun hm=>?_) fun hm=>?_
    ·refine sq<|bd hm fun u69 hx70 hm=>cG E rfl rfl rfl rfl rfl tM (dT H hx70)<|?_
     rintro _ w ⟨v71,v72,v73,v74,v75,v76,rfl,H⟩ a E
     refine aZ (i:=2) E H (wn rfl) rfl rfl rfl rfl rfl rfl bU rfl (bF H m0 mm1 mm2 mm3 mm4 mm5) fun w H=>nt<|wp_ret<|aP<|dH E rfl (cV (i:=2) (us:=(bC u69 v71 v72 v73 v74 v75 v76)) H rfl rfl rfl U48 rfl bU)<|have H:=H.drs [1,1];?_
     cases hm
     exact X8 ⟨rfl,H.reads (aA m0 (aA mm1 (aA mm2 (aA mm3 (aA mm4 (aA mm5 (aA (t6 (hs68 _ hr31)) (aA (t6 (hs68 _ hr32)) (fun r hr=>(t6 (hs68 r hr)))))))))))⟩
    ·refine wp_skip<|aC<|sq<|pr 2 E rfl fun a E=>sv E rfl rfl rfl (cA (i:=1) (us:=(aR x20 v21 v22 v23 v24)) E H rfl rfl rfl rfl U37 rfl j6) fun a E=>bd hm fun u77 hx78 hm=>aU E (wn rfl) rfl rfl (bP E rfl rfl rfl (Yi _)) (F4 H (hs68 _ hr31) (hs68 _ hr32) hx78)<|?_
     rintro _ w ⟨v79,v80,v81,v82,v83,v84,v85,v86,rfl,H⟩ a E
     refine al E H rfl rfl rfl rfl gN fun p87 w a H E=>aZ (i:=0) E H (wn rfl) rfl rfl rfl rfl rfl rfl bU rfl (bF H m0 mm1 mm2 mm3 mm4 mm5) fun w H=>nt<|aT (fun a w=>∃ x88 rs89,Env 59 a [(6,pt p39 0),(9,pt p87 0)]∧Sep w (Blk p39 48 bN::Blk p87 48 (bC u77.1 v79 v80 v81 v82 v83 v84)::Blk p1 75 [v25,v26,v27,v28,v85,v86,.map (some p14),v29,v30]::cB Tryz.prog 2 (kyI .i64) bI true p14 x88::Fo) rs89∧(∀ r,r ∈ rs→r ∈ rs89)∧rSl bE v79 u77.1.Results ∈ rs89∧rSl aF v80 u77.1.Store.Nodes ∈ rs89∧rSl aJ v81 u77.1.Store.Turns ∈ rs89∧rSl aV v82 u77.1.Events ∈ rs89∧rSl bL v83 u77.1.Mounts ∈ rs89∧rSl (kI .i64) v84 u77.1.Wounded ∈ rs89∧rSl aX v85 u77.2.1 ∈ rs89∧rSl aO v86 u77.2.2 ∈ rs89∧mK u77 x88=some r) ?_ ?_
     ·refine aT (fun a w=>∃ b99 rs100,Env 59 a [(0,pt p1 0),(4,pt p38 0),(6,pt p39 0),(9,pt p87 0),(50,.bool b99)]∧Sep w (Blk p1 75 [v25,v26,v27,v28,v85,v86,.map (some p14),v29,v30]::Blk p38 37 (aR x20 v21 v22 v23 v24)::Blk p39 48 bN::Blk p87 48 (bC u77.1 v79 v80 v81 v82 v83 v84)::cB Tryz.prog 2 (kyI .i64) bI true p14 l15::Fo) rs100∧(∀ r,r ∈ rs→r ∈ rs100)∧rSl aX v85 u77.2.1 ∈ rs100∧rSl aO v86 u77.2.2 ∈ rs100∧rSl bE v79 u77.1.Results ∈ rs100∧rSl aF v80 u77.1.Store.Nodes ∈ rs100∧rSl aJ v81 u77.1.Store.Turns ∈ rs100∧rSl aV v82 u77.1.Events ∈ rs100∧rSl bL v83 u77.1.Mounts ∈ rs100∧rSl (kI .i64) v84 u77.1.Wounded ∈ rs100∧jV u77 l15 x20 b99=some r) ?_ ?_
      ·refine wp_region_lit<|pr 1 E rfl fun a E=>lb E H 2 rfl rfl rfl rfl rfl rfl rfl U2 rfl fun a E=>pr 2 E rfl fun a E=>cs hm (fun hb112 hm=>?_) fun hb112 hm=>?_
       ·refine pk 1 E (kc 41 rfl hb112) rfl fun a E=>aQ E (ws' (d:=41) E rfl rfl rfl rfl hb112) rfl rfl (cD (i:=0) E H rfl rfl rfl rfl U41 rfl) fun a E=>pk 3 E (kc 41 rfl hb112) rfl fun a E=>cs hm (fun hb113 hm=>?_) fun hb113 hm=>?_
        ·exact pk 1 E (kc 46 rfl hb113) rfl fun a E=>aQ E (ws' (d:=46) E rfl rfl rfl rfl hb113) rfl rfl (cD (i:=0) E H rfl rfl rfl rfl U41 rfl) fun a E=>pk 2 E (kc 46 rfl hb113) rfl fun a E=>nt<|have H:=H.frs [4,1,4,4,4] rfl;⟨_,_,E.to rfl,H,(Y8 hs68),mm6,(t1 mm6),m0,mm1,mm2,mm3,mm4,mm5,hm⟩
        ·exact pk 4 E (kc 46 rfl hb113) rfl fun a E=>nt<|have H:=H.frs [4,1,4,4,4] rfl;⟨_,_,E.to rfl,H,(Y8 hs68),mm6,(t1 mm6),m0,mm1,mm2,mm3,mm4,mm5,hm⟩
       ·exact pk 9 E (kc 41 rfl hb112) rfl fun a E=>nt<|have H:=H.frs [4,1,4,4,4] rfl;⟨_,_,E.to rfl,H,(Y8 hs68),mm6,(t1 mm6),m0,mm1,mm2,mm3,mm4,mm5,hm⟩
      ·clear E H hm
       rintro a w ⟨b99,rs100,E,H,hs101,hr102,hr103,hr104,hr105,hr106,hr107,hr108,hr109,hm⟩
       unfold jV at hm
       refine wif E hm rfl (fun hm=>?_) fun hm=>?_
       ·refine dw [(0,0),(1,0),(2,0),(3,0),(4,0),(5,0),(6,0),(7,2)] [0,1,3] [] H (by kernel_rfl) (fun _ _ _ h=>False.elim h.2) fun w W0 hI H=>fn 3 E rfl fun a E=>fb E rfl (wn rfl) rfl rfl rfl rfl m0 rfl U68 rfl fun a E=>fn 1 E rfl fun a E=>fb E rfl (wn rfl) rfl rfl rfl rfl mm1 rfl U2 rfl fun a E=>fbn E (bC u77.1 v79 v80 v81 v82 v83 v84) rfl (wn rfl) rfl rfl rfl rfl mm2 rfl U48 rfl bU fun a E=>bQ rfl<|bd hm fun l111 hx110 hm=>zR (i:=4) (K:=(kyI .i64)) (v:=u77.1) (cs:=[.int .i64 u77.1.Err,.int .i64 u77.1.At,.bool u77.1.Yes,.int .i64 u77.1.Epoch,v79,v80,v81,v82,v83,v84]) E H (wn rfl) rfl rfl rfl rfl rfl rfl (dX U2) U68 hx110 (fun ok hr=>(lS (hr _ hr104) (hr _ hr105) (hr _ hr106) (hr _ hr107) (hr _ hr108) (hr _ hr109))) fun w H=>?_
        refine nt<|bR<|?_
        clear hI
        exact aC<|have H:=H.drop 1;have H:=H.frs [3,1,3,3] rfl;⟨_,_,E.to rfl,H,hs101,hr104,hr105,hr106,hr107,hr108,hr109,hr102,hr103,hm⟩
       ·exact wp_skip<|aC<|have H:=H.drop 1;have H:=H.frs [3,1,3,3] rfl;⟨_,_,E.to rfl,H,hs101,hr104,hr105,hr106,hr107,hr108,hr109,hr102,hr103,hm⟩
     ·clear E H hm
      rintro a w ⟨x88,rs89,E,H,hs90,hr91,hr92,hr93,hr94,hr95,hr96,hr97,hr98,hm⟩
      unfold mK at hm
      refine sq<|sv E rfl rfl rfl (cA (i:=1) (us:=(bC u77.1 v79 v80 v81 v82 v83 v84)) E H rfl rfl rfl rfl U48 rfl bU) fun a E=>aZ (i:=0) E H (wn rfl) rfl rfl rfl rfl rfl rfl bU rfl (bF H hr91 hr92 hr93 hr94 hr95 hr96) fun w H=>nt<|wp_ret<|dH E rfl (cV (i:=0) (us:=(bC u77.1 v79 v80 v81 v82 v83 v84)) H rfl rfl rfl U48 rfl bU)<|have H:=H.drs [0,0];?_
      cases hm
      exact X8 ⟨rfl,H.reads (aA hr91 (aA hr92 (aA hr93 (aA hr94 (aA hr95 (aA hr96 (aA hr97 (aA hr98 (hs90)))))))))⟩

def a6 (l16:(List aD)) (l21:(List aK)):Option (bM×Int):=
  some ((⟨l21,l16⟩:bM),0)
def wI (x1:bM) (x4:aK) (l16:(List aD)):Option (bM×Int):=
  (ck (x1.Watches.length ≤ LIM)).bind fun u30=>(ck (x1.Watches.length+([x4]:List aK).length ≤ LIM)).bind fun u34=>a6 l16 (x1.Watches ++ ([x4]:List aK))
def wJ (x1:bM) (x4:aK) (b10:Bool):Option (bM×Int):=
  if b10=true then (some ((⟨[],[]⟩:bM),1)) else ((zG x1 x4.Session x4.Num).bind fun u13=>if (decide (u13 ≥ 0))=true then (some (x1,61)) else (if ((x1.Watches.length:Int) == 64)=true then (some (x1,2)) else ((dS x1.Sessions x4.Session).bind fun u65=>if (!u65.2)=true then ((ck (x1.Sessions.length ≤ LIM)).bind fun u68=>(ck (0 ≤ u65.1∧u65.1 ≤ x1.Sessions.length∧x1.Sessions.length ≤ 1000000)).bind fun u71=>wI x1 x4 (x1.Sessions.take u65.1.toNat ++ (⟨x4.Session,0,[]⟩:aD)::x1.Sessions.drop u65.1.toNat)) else (wI x1 x4 x1.Sessions))))
def C8 (x1:bM) (x4:aK):Option (bM×Int):=
  (qN x1).bind fun u103=>if (!u103)=true then (wJ x1 x4 (!u103)) else ((xP x4).bind fun u105=>wJ x1 x4 (!u105))
theorem S4 {w:World} {Fo:List Ob} {rs:List Rp} {x1:bM} {v2 v3:Value} {x4:aK} (H:Sep w (Fo) rs) (hr5:rSl aX v2 x1.Watches ∈ rs) (hr6:rSl aO v3 x1.Sessions ∈ rs) {r:bM×Int} (hm:C8 x1 x4=some r) :
    Calls Tryz.prog 88 [.agg #[v2,v3],.agg (dL x4).toArray].toArray w (Ret fun v w'=>∃ y2 y3,.tuple #[.agg #[y2,y3],.int .i64 r.2]=v∧Sep w' (Fo) (rSl aX y2 r.1.Watches::rSl aO y3 r.1.Sessions::rs)):=by
 unfold C8 at hm
 refine ent Tryz.func88 rfl Tryz.ntmps88 rfl rfl fun a E=>sq<|bS E H (wn rfl) rfl rfl rfl rfl rfl fun p7 w a H E=>bS E H (wn rfl) rfl rfl rfl rfl rfl fun p8 w a H E=>al E H rfl rfl rfl rfl G2 fun p9 w a H E=>pr 1 E rfl fun a E=>nt<|wp_seq<|wp_block<|aT (fun a w=>∃ b10 rs11,Env 59 a [(2,pt p7 0),(3,pt p8 0),(4,pt p9 0),(8,.bool b10)]∧Sep w (Blk p7 73 [v2,v3]::Blk p8 35 (dL x4)::Blk p9 73 [.slice none 0 0,.slice none 0 0]::Fo) rs11∧(∀ r,r ∈ rs→r ∈ rs11)∧wJ x1 x4 b10=some r) ?_ ?_
 ·refine sq<|sv E rfl rfl rfl (cA (i:=2) (us:=[v2,v3]) E H rfl rfl rfl rfl U73 rfl eE) fun a E=>bd hm fun u103 hx104 hm=>xk E rfl rfl rfl rfl rfl Cw (xQ H hr5 hr6 hx104) fun w H a E=>pr 2 E rfl fun a E=>nt<|wif E hm rfl (fun hm=>?_) fun hm=>?_
  ·exact wp_skip<|aC<|have H:=H.frs [0,1,2] rfl;⟨_,_,E.to rfl,H,Y0,hm⟩
  ·exact wp_region_lit<|sv E rfl rfl rfl (cA (i:=1) (us:=(dL x4)) E H rfl rfl rfl rfl U35 rfl pK) fun a E=>bd hm fun u105 hx106 hm=>xk E rfl rfl rfl rfl rfl Lq (J3 H hx106) fun w H a E=>pr 2 E rfl fun a E=>nt<|have H:=H.frs [0,1,2] rfl;⟨_,_,E.to rfl,H,Y0,hm⟩
 ·clear E H hm
  rintro a w ⟨b10,rs11,E,H,hs12,hm⟩
  unfold wJ at hm
  refine wif E hm rfl (fun hm=>?_) fun hm=>?_
  ·refine sq<|sv E rfl rfl rfl (cI E rfl (E.evs rfl) (v:=.agg #[.slice none 0 0,.slice none 0 0]) (by kernel_rfl)) fun a E=>aZ (i:=2) E H (wn rfl) rfl rfl rfl rfl rfl rfl eE rfl rfl fun w H=>pr 1 E rfl fun a E=>nt<|wp_ret<|bV<|aP<|rJ E rfl (cV (i:=2) (us:=[.slice none 0 0,.slice none 0 0]) H rfl rfl rfl U73 rfl eE) (rvT rfl)<|?_
   refine have H:=H.nilSl aX;have H:=H.nilSl aO;have H:=H.drs [0,0,0];?_
   cases hm
   exact ⟨_,_,rfl,H.reads (aA mm1 (aA m0 (fun r hr=>(t2 (hs12 r hr)))))⟩
  ·refine sq<|sv E rfl rfl rfl (cA (i:=0) (us:=[v2,v3]) E H rfl rfl rfl rfl U73 rfl eE) fun a E=>pr 1 E rfl fun a E=>lb E H 1 rfl rfl rfl rfl rfl rfl rfl U2 rfl fun a E=>pr 1 E rfl fun a E=>lb E H 1 rfl rfl rfl rfl rfl rfl rfl U2 rfl fun a E=>bd hm fun u13 hx14 hm=>xk E rfl rfl rfl rfl rfl Lt (N6 H (hs12 _ hr5) hx14) fun w H a E=>pr 2 E rfl fun a E=>?_
   refine nt<|wif E hm rfl (fun hm=>?_) fun hm=>?_
   ·refine sq<|sv E rfl rfl rfl (cA (i:=0) (us:=[v2,v3]) E H rfl rfl rfl rfl U73 rfl eE) fun a E=>aZ (i:=2) E H (wn rfl) rfl rfl rfl rfl rfl rfl eE rfl (gB H (hs12 _ hr5) (hs12 _ hr6)) fun w H=>pr 1 E rfl fun a E=>nt<|wp_ret<|bV<|aP<|rJ E rfl (cV (i:=2) (us:=[v2,v3]) H rfl rfl rfl U73 rfl eE) (rvT rfl)<|?_
    refine have H:=H.drs [0,0,0];?_
    cases hm
    exact ⟨_,_,rfl,H.reads (aA (hs12 _ hr5) (aA (hs12 _ hr6) (hs12)))⟩
   ·refine sq<|pr 1 E rfl fun a E=>lb E H 0 rfl rfl rfl rfl rfl rfl rfl U70 rfl fun a E=>sv E rfl rfl rfl (cR E H rfl rfl (hs12 _ hr5) U70) fun a E=>pr 2 E rfl fun a E=>nt<|wif E hm rfl (fun hm=>?_) fun hm=>?_
    ·refine sq<|sv E rfl rfl rfl (cA (i:=0) (us:=[v2,v3]) E H rfl rfl rfl rfl U73 rfl eE) fun a E=>aZ (i:=2) E H (wn rfl) rfl rfl rfl rfl rfl rfl eE rfl (gB H (hs12 _ hr5) (hs12 _ hr6)) fun w H=>pr 1 E rfl fun a E=>nt<|wp_ret<|bV<|aP<|rJ E rfl (cV (i:=2) (us:=[v2,v3]) H rfl rfl rfl U73 rfl eE) (rvT rfl)<|?_
     refine have H:=H.drs [0,0,0];?_
     cases hm
     exact ⟨_,_,rfl,H.reads (aA (hs12 _ hr5) (aA (hs12 _ hr6) (hs12)))⟩
    ·refine wp_skip<|bY<|aC<|aT (fun a w=>∃ v15 l16 rs17,Env 59 a [(2,pt p7 0),(3,pt p8 0),(4,pt p9 0)]∧Sep w (Blk p7 73 [v2,v15]::Blk p8 35 (dL x4)::Blk p9 73 [.slice none 0 0,.slice none 0 0]::Fo) rs17∧(∀ r,r ∈ rs→r ∈ rs17)∧rSl aO v15 l16 ∈ rs17∧wI x1 x4 l16=some r) ?_ ?_
     ·refine sq<|pr 1 E rfl fun a E=>lb E H 0 rfl rfl rfl rfl rfl rfl rfl U71 rfl fun a E=>pr 1 E rfl fun a E=>lb E H 1 rfl rfl rfl rfl rfl rfl rfl U2 rfl fun a E=>bd hm fun u65 hx66 hm=>xk E rfl rfl rfl rfl rfl Hg (gR H (hs12 _ hr6) hx66) fun w H a E=>pr 5 E rfl fun a E=>nx<|?_
      refine pr 2 E rfl fun a E=>nt<|wif E hm rfl (fun hm=>?_) fun hm=>?_
      ·refine bk hm fun hx69 hm=>bk hm fun hx72 hm=>?_
       have hI:dP [Blk p7 73 [v2,v3],Blk p8 35 (dL x4)] [] { w with drawn:=w.drawn+1 }:=⟨_,_,H.kept (Kp.drawn _ w _),(aB m0 (aB mm1 (aL))),(aM)⟩
       refine jY _ (.go 0 0 (.go 1 0 (.go 3 0 (.go 4 0 (.go 5 0 (.go 6 0 (.alt 2 (.go 7 1 (.go 8 1 (.go 9 2 (.go 10 2 .nil)))) 7 (.go 2 1 (.go 8 1 (.go 9 2 (.go 10 2 .nil))))))))))) [9,10] kG (by kernel_rfl) (fun _ _ _ h=>False.elim h.2) hI<|have H:=H.kept (Kp.drawn _ w (w.drawn+1));?_
       generalize ({ w with drawn:=w.drawn+1 }:World)=w at H hI ⊢
       replace hI:∃ W,dP [Blk p7 73 [v2,v3],Blk p8 35 (dL x4)] [] W:=⟨_,hI⟩
       obtain ⟨W0,hI⟩:=hI
       refine aW E rfl (wn rfl) rfl rfl (fun w hW=>iY E rfl rfl (v:=pt p7 1) (Jb _ _)) fun a E=>aW E rfl (wn rfl) rfl rfl (fun w hW=>eZ E rfl rfl (kD m0 rfl U71 rfl w hW)) fun a E=>aW E rfl (wn rfl) rfl rfl (fun w hW=>(bD E rfl rfl)) fun a E=>aW E rfl (wn rfl) rfl rfl (fun w hW=>iY E rfl rfl (v:=pt p8 0) (Ad _ _)) fun a E=>aW E rfl (wn rfl) rfl rfl (fun w hW=>eZ E rfl rfl (kD mm1 rfl U2 rfl w hW)) fun a E=>aW E rfl (wn rfl) rfl rfl (fun w hW=>(cI E rfl (E.evs rfl) (v:=.agg #[.int .i64 x4.Session,.int .i64 0,.slice none 0 0]) (by kernel_rfl))) fun a E=>?_
       refine kM rfl rfl ?_ ?_
       ·refine aU E (wn rfl) rfl rfl (cC E rfl rfl (Cz _)) (eG H (hs12 _ hr6) hx69) fun v85 w H a E=>nt<|?_
        refine ⟨⟨_,_,H,(aB mm1 (aB mm2 (aL))),(aM)⟩,?_⟩
        refine cJ rfl<|fY (e:=215) (d:=aO) (cs:=[.int .i64 x4.Session,.int .i64 0,.slice none 0 0]) (xs:=[(⟨x4.Session,0,[]⟩:aD)]) E H (wn rfl) rfl rfl rfl (E.evs rfl) (by kernel_rfl) rfl rfl (fun ok hr=>(Rows.single (d:=aO) (cs:=[.int .i64 x4.Session,.int .i64 0,.slice none 0 0]) (x:=(⟨x4.Session,0,[]⟩:aD)) (jB (Sl.nil _ _ _)))) fun v88 w a H E=>nt<|?_
        refine ⟨⟨_,_,H,(aB mm2 (aB mm3 (aL))),(aM)⟩,?_⟩
        refine cJ rfl<|aU E (wn rfl) rfl rfl (cC E rfl rfl (Hk _)) (Se.insert_a (ix:=1) (iu:=0) H rfl rfl (by decide) hx72) fun v91 w H a E=>nt<|?_
        refine ⟨⟨_,_,H,(aB mm2 (aB mm3 (aL))),(aM)⟩,?_⟩
        refine cP rfl<|pr 1 E rfl fun a E=>nt<|cP rfl<|?_
        obtain ⟨q92,x93,rfl⟩:=H.rowform (i:=1) rfl
        refine aZ (i:=2) E H (wn rfl) rfl rfl rfl rfl rfl rfl Ep rfl rfl fun w H=>nt<|dW<|?_
        clear hI
        exact aC<|have H:=H.thaw (i:=1) rfl;have H:=H.drop 0;X3 ⟨E.to rfl,H,(Y1 hs12),m0,hm⟩
       ·refine fY (e:=215) (d:=aO) (cs:=[.int .i64 x4.Session,.int .i64 0,.slice none 0 0]) (xs:=[(⟨x4.Session,0,[]⟩:aD)]) E H (wn rfl) rfl rfl rfl (E.evs rfl) (by kernel_rfl) rfl rfl (fun ok hr=>(Rows.single (d:=aO) (cs:=[.int .i64 x4.Session,.int .i64 0,.slice none 0 0]) (x:=(⟨x4.Session,0,[]⟩:aD)) (jB (Sl.nil _ _ _)))) fun v94 w a H E=>nt<|?_
        refine ⟨⟨_,_,H,(aB mm1 (aB mm2 (aL))),(aM)⟩,?_⟩
        refine cJ rfl<|aU E (wn rfl) rfl rfl (cC E rfl rfl (Cz _)) (eG H (hs12 _ hr6) hx69) fun v95 w H a E=>nt<|?_
        refine ⟨⟨_,_,H,(aB mm2 (aB mm3 (aL))),(aM)⟩,?_⟩
        refine cJ rfl<|aU E (wn rfl) rfl rfl (cC E rfl rfl (Hk _)) (Se.insert_a (ix:=0) (iu:=1) H rfl rfl (by decide) hx72) fun v100 w H a E=>nt<|?_
        refine ⟨⟨_,_,H,(aB mm2 (aB mm3 (aL))),(aM)⟩,?_⟩
        refine cP rfl<|pr 1 E rfl fun a E=>nt<|cP rfl<|?_
        obtain ⟨q101,x102,rfl⟩:=H.rowform (i:=0) rfl
        refine aZ (i:=2) E H (wn rfl) rfl rfl rfl rfl rfl rfl Ep rfl rfl fun w H=>nt<|dW<|?_
        clear hI
        exact aC<|have H:=H.thaw (i:=0) rfl;have H:=H.drop 0;X3 ⟨E.to rfl,H,(Y1 hs12),m0,hm⟩
      ·exact wp_skip<|aC<|X3 ⟨E.to rfl,H,hs12,(hs12 _ hr6),hm⟩
     ·clear E H hm
      rintro a w ⟨v15,l16,rs17,E,H,hs18,hr19,hm⟩
      unfold wI at hm
      refine aT (fun a w=>∃ v20 l21 rs22,Env 59 a [(2,pt p7 0),(4,pt p9 0)]∧Sep w (Blk p7 73 [v20,v15]::Blk p9 73 [.slice none 0 0,.slice none 0 0]::Row 35 aX v20 l21::Fo) rs22∧(∀ r,r ∈ rs→r ∈ rs22)∧rSl aO v15 l16 ∈ rs22∧a6 l16 l21=some r) ?_ ?_
      ·refine bk hm fun hx31 hm=>bk hm fun hx35 hm=>?_
       have hI:dP [Blk p7 73 [v2,v15],Blk p8 35 (dL x4)] [] { w with drawn:=w.drawn+1 }:=⟨_,_,H.kept (Kp.drawn _ w _),(aB m0 (aB mm1 (aL))),(aM)⟩
       refine jY _ (.go 0 0 (.go 1 0 (.go 3 0 (.alt 2 (.go 4 1 (.go 5 1 (.go 6 2 (.go 7 2 .nil)))) 4 (.go 2 1 (.go 5 1 (.go 6 2 (.go 7 2 .nil)))))))) [6,7] kG (by kernel_rfl) (fun _ _ _ h=>False.elim h.2) hI<|have H:=H.kept (Kp.drawn _ w (w.drawn+1));?_
       generalize ({ w with drawn:=w.drawn+1 }:World)=w at H hI ⊢
       replace hI:∃ W,dP [Blk p7 73 [v2,v15],Blk p8 35 (dL x4)] [] W:=⟨_,hI⟩
       obtain ⟨W0,hI⟩:=hI
       refine aW E rfl (wn rfl) rfl rfl (fun w hW=>iY E rfl rfl (v:=pt p7 0) (Ja _ _)) fun a E=>aW E rfl (wn rfl) rfl rfl (fun w hW=>eZ E rfl rfl (kD m0 rfl U70 rfl w hW)) fun a E=>aW E rfl (wn rfl) rfl rfl (fun w hW=>eZ E rfl rfl (yN (us:=(dL x4)) mm1 rfl U35 rfl pK w hW)) fun a E=>?_
       refine kM rfl rfl ?_ ?_
       ·refine aU E (wn rfl) rfl rfl (cC E rfl rfl (Da _)) (fM H (hs18 _ hr5) hx31) fun v47 w H a E=>nt<|?_
        refine ⟨⟨_,_,H,(aB mm1 (aB mm2 (aL))),(aM)⟩,?_⟩
        refine cJ rfl<|pI (e:=35) (d:=aX) (cs:=[.int .i64 x4.Session,.int .i64 x4.Num,.string x4.Path,.bool x4.Deep]) (xs:=[x4]) E H (wn rfl) rfl rfl rfl (E.evs rfl) (by kernel_rfl) rfl (fun ok hr=>(Rows.single (d:=aX) (cs:=[.int .i64 x4.Session,.int .i64 x4.Num,.string x4.Path,.bool x4.Deep]) (x:=x4) zS)) fun v50 w a H E=>nt<|?_
        refine ⟨⟨_,_,H,(aB mm1 (aB mm2 (aL))),(aM)⟩,?_⟩
        refine cJ rfl<|dV (i:=0) E H (wn rfl) rfl rfl rfl rfl rfl rfl (jA m0) U70 Hi rfl hx35 rfl fun v51 w a H E=>nt<|?_
        refine ⟨⟨_,_,H,(aB mm1 (aB mm2 (aL))),(aM)⟩,?_⟩
        refine cP rfl<|pr 1 E rfl fun a E=>nt<|cP rfl<|?_
        obtain ⟨q54,x55,rfl⟩:=H.rowform (i:=0) rfl
        refine aZ (i:=1) E H (wn rfl) rfl rfl rfl rfl rfl rfl Hj rfl rfl fun w H=>nt<|dW<|?_
        clear hI
        exact aC<|have H:=H.drop 2;have H:=H.frs [0,2,2] rfl;X3 ⟨E.to rfl,H,(Y1 hs18),(t1 hr19),hm⟩
       ·refine pI (e:=35) (d:=aX) (cs:=[.int .i64 x4.Session,.int .i64 x4.Num,.string x4.Path,.bool x4.Deep]) (xs:=[x4]) E H (wn rfl) rfl rfl rfl (E.evs rfl) (by kernel_rfl) rfl (fun ok hr=>(Rows.single (d:=aX) (cs:=[.int .i64 x4.Session,.int .i64 x4.Num,.string x4.Path,.bool x4.Deep]) (x:=x4) zS)) fun v56 w a H E=>nt<|?_
        refine ⟨⟨_,_,H,(aB m0 (aB mm1 (aL))),(aM)⟩,?_⟩
        refine cJ rfl<|aU E (wn rfl) rfl rfl (cC E rfl rfl (Da _)) (fM H (t1 (hs18 _ hr5)) hx31) fun v57 w H a E=>nt<|?_
        refine ⟨⟨_,_,H,(aB mm1 (aB mm2 (aL))),(aM)⟩,?_⟩
        refine cJ rfl<|dV (i:=0) E H (wn rfl) rfl rfl rfl rfl rfl rfl (jA m0) U70 Hi rfl hx35 rfl fun v60 w a H E=>nt<|?_
        refine ⟨⟨_,_,H,(aB mm1 (aB mm2 (aL))),(aM)⟩,?_⟩
        refine cP rfl<|pr 1 E rfl fun a E=>nt<|cP rfl<|?_
        obtain ⟨q63,x64,rfl⟩:=H.rowform (i:=0) rfl
        refine aZ (i:=1) E H (wn rfl) rfl rfl rfl rfl rfl rfl Hj rfl rfl fun w H=>nt<|dW<|?_
        clear hI
        exact aC<|have H:=H.drop 2;have H:=H.frs [0,2,2] rfl;X3 ⟨E.to rfl,H,(Y1 hs18),(t1 hr19),hm⟩
      ·clear E H hm
       rintro a w ⟨v20,l21,rs22,E,H,hs23,hr24,hm⟩
       unfold a6 at hm
       refine sq<|sv E rfl rfl rfl (cA (i:=0) (us:=[v20,v15]) E H rfl rfl rfl rfl U73 rfl eE) fun a E=>?_
       obtain ⟨q25,x26,rfl⟩:=H.rowform (i:=2) rfl
       obtain ⟨q27,x28,rfl⟩:=H.slform hr24
       refine aZ (i:=1) E H (wn rfl) rfl rfl rfl rfl rfl rfl eE rfl rfl fun w H=>pr 1 E rfl fun a E=>nt<|wp_ret<|rJ E rfl (cV (i:=1) (us:=[(.slice q25 l21.length x26),(.slice q27 l16.length x28)]) H rfl rfl rfl U73 rfl eE) (rvT rfl)<|have H:=H.thaw (i:=2) rfl;have H:=H.drs [0,0];?_
       cases hm
       exact ⟨_,_,rfl,H.reads (aA m0 (aA (t1 hr24) (fun r hr=>(t1 (hs23 r hr)))))⟩

def rH (l11:List aK) (l13:List aD) (x41:Int) (l43:(List aK)) (l45:(List aD)):Option (aG×(List aK)×(List aD)):=
  (lJ l11 l13 (⟨l43,l45⟩:bM) ([]:List bK) x41).bind fun u50=>some (u50.1,u50.2.1,u50.2.2)
def uC (l11:List aK) (l13:List aD) (x20:bA):Option (aG×(List aK)×(List aD)):=
  (C8 (⟨l11,l13⟩:bM) x20.Watch).bind fun u60=>rH l11 l13 u60.2 u60.1.Watches u60.1.Sessions
theorem K2 {w:World} {Fo:List Ob} {rs:List Rp} {p1:Nat} {v10 v12 v21 v22 v23 v24 v25 v26 v27 v28 v29 v30 v31:Value} {l11:List aK} {l13:List aD} {x20:bA} (H:Sep w (Blk p1 75 [v25,v26,v27,v28,v10,v12,v29,v30,v31]::Fo) rs) (hr32:rSl aX v10 l11 ∈ rs) (hr33:rSl aO v12 l13 ∈ rs) {r:aG×(List aK)×(List aD)} (hm:uC l11 l13 x20=some r) :
    Calls Tryz.prog 32 [pt p1 0,.agg (aR x20 v21 v22 v23 v24).toArray].toArray w (Ret fun v w'=>∃ y2 y3 y4 y5 y6 y7 y8 y10,.agg (bC r.1 y2 y3 y4 y5 y6 y7).toArray=v∧Sep w' (Blk p1 75 [v25,v26,v27,v28,y8,y10,v29,v30,v31]::Fo) (rSl bE y2 r.1.Results::rSl aF y3 r.1.Store.Nodes::rSl aJ y4 r.1.Store.Turns::rSl aV y5 r.1.Events::rSl bL y6 r.1.Mounts::rSl (kI .i64) y7 r.1.Wounded::rSl aX y8 r.2.1::rSl aO y10 r.2.2::rs)):=by
 unfold uC at hm
 refine ent Tryz.func32 rfl Tryz.ntmps32 rfl rfl fun a E=>sq<|bS E H (wn rfl) rfl rfl rfl rfl rfl fun p38 w a H E=>al E H rfl rfl rfl rfl gN fun p39 w a H E=>nt<|aT (fun a w=>∃ p40 v42 v44 x41 l43 l45 rs46,Env 21 a [(0,pt p1 0),(4,pt p39 0),(5,pt p40 0),(6,.int .i64 x41)]∧Sep w (Blk p1 75 [v25,v26,v27,v28,v10,v12,v29,v30,v31]::Blk p39 48 bN::Blk p40 73 [v42,v44]::Fo) rs46∧(∀ r,r ∈ rs→r ∈ rs46)∧rSl aX v42 l43 ∈ rs46∧rSl aO v44 l45 ∈ rs46∧rH l11 l13 x41 l43 l45=some r) ?_ ?_
 ·refine bd hm fun u60 hx61 hm=>?_
  have hI:dP [Blk p38 37 (aR x20 v21 v22 v23 v24),Blk p1 75 [v25,v26,v27,v28,v10,v12,v29,v30,v31]] [] { w with drawn:=w.drawn+1 }:=⟨_,_,H.kept (Kp.drawn _ w _),(aB mm1 (aB mm2 (aL))),(aM)⟩
  refine jY _ (.go 0 0 (.go 1 0 (.go 2 0 (.go 3 0 (.go 4 0 (.go 5 0 (.alt 6 (.go 7 0 (.go 8 0 (.go 9 0 (.go 10 1 (.go 11 1 (.go 12 2 .nil)))))) 10 (.go 6 1 (.go 7 0 (.go 8 0 (.go 9 0 (.go 11 1 (.go 12 2 .nil))))))))))))) [12] kG (by kernel_rfl) (fun _ _ _ h=>False.elim h.2) hI<|have H:=H.kept (Kp.drawn _ w (w.drawn+1));?_
  generalize ({ w with drawn:=w.drawn+1 }:World)=w at H hI ⊢
  replace hI:∃ W,dP [Blk p38 37 (aR x20 v21 v22 v23 v24),Blk p1 75 [v25,v26,v27,v28,v10,v12,v29,v30,v31]] [] W:=⟨_,hI⟩
  obtain ⟨W0,hI⟩:=hI
  refine aW E rfl (wn rfl) rfl rfl (fun w hW=>(bD E rfl rfl)) fun a E=>aW E rfl (wn rfl) rfl rfl (fun w hW=>(sF E rfl rfl)) fun a E=>aW E rfl (wn rfl) rfl rfl (fun w hW=>iY E rfl rfl (v:=pt p1 4) (En _ _)) fun a E=>aW E rfl (wn rfl) rfl rfl (fun w hW=>eZ E rfl rfl (yN (us:=[v10,v12]) mm1 rfl U73 rfl eE w hW)) fun a E=>aW E rfl (wn rfl) rfl rfl (fun w hW=>iY E rfl rfl (v:=pt p38 12) (O9 _ _)) fun a E=>aW E rfl (wn rfl) rfl rfl (fun w hW=>eZ E rfl rfl (yN (us:=(dL x20.Watch)) m0 rfl U35 rfl pK w hW)) fun a E=>?_
  refine kM rfl rfl ?_ ?_
  ·refine cG E rfl rfl rfl rfl rfl Qx (S4 (x1:=(⟨l11,l13⟩:bM)) H hr32 hr33 hx61)<|?_
   rintro _ w ⟨v72,v73,rfl,H⟩ a E
   refine nt<|?_
   refine ⟨⟨_,_,H,(aB mm1 (aB mm2 (aL))),(aM)⟩,?_⟩
   refine aW E rfl (wn rfl) rfl rfl (fun w hW=>(bD E rfl rfl)) fun a E=>aW E rfl (wn rfl) rfl rfl (fun w hW=>(cX E rfl rfl rfl)) fun a E=>aW E rfl (wn rfl) rfl rfl (fun w hW=>(cX E rfl rfl rfl)) fun a E=>cJ rfl<|al E H rfl rfl rfl rfl G2 fun p74 w a H E=>nt<|?_
   refine ⟨⟨_,_,H,(aB mm2 (aB mm3 (aL))),(aM)⟩,?_⟩
   refine cJ rfl<|aZ (i:=0) E H (wn rfl) rfl rfl rfl rfl rfl rfl eE rfl (gB H m0 mm1) fun w H=>nt<|?_
   refine ⟨⟨_,_,H,(aB mm2 (aB mm3 (aL))),(aM)⟩,?_⟩
   refine cP rfl<|pr 1 E rfl fun a E=>nt<|dW<|?_
   clear hI
   exact aC<|have H:=H.drop 2;have H:=H.frs [0,1,2] rfl;X7 ⟨E.to rfl,H,(Y2 Y0),m0,mm1,hm⟩
  ·refine al E H rfl rfl rfl rfl G2 fun p75 w a H E=>nt<|?_
   refine ⟨⟨_,_,H,(aB mm2 (aB mm3 (aL))),(aM)⟩,?_⟩
   refine cJ rfl<|cG E rfl rfl rfl rfl rfl Qx (S4 (x1:=(⟨l11,l13⟩:bM)) H hr32 hr33 hx61)<|?_
   rintro _ w ⟨v78,v79,rfl,H⟩ a E
   refine nt<|?_
   refine ⟨⟨_,_,H,(aB mm2 (aB mm3 (aL))),(aM)⟩,?_⟩
   refine aW E rfl (wn rfl) rfl rfl (fun w hW=>(bD E rfl rfl)) fun a E=>aW E rfl (wn rfl) rfl rfl (fun w hW=>(cX E rfl rfl rfl)) fun a E=>aW E rfl (wn rfl) rfl rfl (fun w hW=>(cX E rfl rfl rfl)) fun a E=>cJ rfl<|aZ (i:=0) E H (wn rfl) rfl rfl rfl rfl rfl rfl eE rfl (gB H m0 mm1) fun w H=>nt<|?_
   refine ⟨⟨_,_,H,(aB mm2 (aB mm3 (aL))),(aM)⟩,?_⟩
   refine cP rfl<|pr 1 E rfl fun a E=>nt<|dW<|?_
   clear hI
   exact aC<|have H:=H.drop 2;have H:=H.frs [0,1,2] rfl;X7 ⟨E.to rfl,H,(Y2 Y0),m0,mm1,hm⟩
 ·clear E H hm
  rintro a w ⟨p40,v42,v44,x41,l43,l45,rs46,E,H,hs47,hr48,hr49,hm⟩
  unfold rH at hm
  refine sq<|pr 1 E rfl fun a E=>sv E rfl rfl rfl (cA (i:=2) (us:=[v42,v44]) E H rfl rfl rfl rfl U73 rfl eE) fun a E=>pr 1 E rfl fun a E=>have H:=H.nilSl aV;bd hm fun u50 hx51 hm=>cG E rfl rfl rfl rfl rfl Ko (rX (x20:=(⟨l43,l45⟩:bM)) H (t1 (hs47 _ hr32)) (t1 (hs47 _ hr33)) (t1 hr48) (t1 hr49) m0 hx51)<|?_
  rintro _ w ⟨v52,v53,v54,v55,v56,v57,v58,v59,rfl,H⟩ a E
  refine aZ (i:=1) E H (wn rfl) rfl rfl rfl rfl rfl rfl bU rfl (bF H m0 mm1 mm2 mm3 mm4 mm5) fun w H=>nt<|wp_ret<|dH E rfl (cV (i:=1) (us:=(bC u50.1 v52 v53 v54 v55 v56 v57)) H rfl rfl rfl U48 rfl bU)<|have H:=H.drs [1,1];?_
  cases hm
  exact X8 ⟨rfl,H.reads (aA m0 (aA mm1 (aA mm2 (aA mm3 (aA mm4 (aA mm5 (aA mm6 (aA (t1 mm6) (fun r hr=>(t1 (t8 (hs47 r hr))))))))))))⟩

def mM (u77:aG×(List aK)×(List aD)) (x88:(List ((Int)×aG))):Option (aG×(List aK)×(List aD)×(List ((Int)×aG))):=
  some (u77.1,u77.2.1,u77.2.2,x88)
def jW (u77:aG×(List aK)×(List aD)) (l15:List ((Int)×aG)) (x20:bA) (b99:Bool):Option (aG×(List aK)×(List aD)×(List ((Int)×aG))):=
  if b99=true then ((mpt (kyI .i64) l15 x20.Id u77.1).bind fun l111=>mM u77 l111) else (mM u77 l15)
def mN (l15:List ((Int)×aG)) (x20:bA) (l11:List aK) (l13:List aD) (b66:Bool):Option (aG×(List aK)×(List aD)×(List ((Int)×aG))):=
  if b66=true then ((dM 2).bind fun u69=>some (u69,l11,l13,l15)) else ((uC l11 l13 x20).bind fun u77=>if (x20.Id != 0)=true then (if (u77.1.Err != 131)=true then (jW u77 l15 x20 (u77.1.Err != 132)) else (jW u77 l15 x20 false)) else (jW u77 l15 x20 false))
def qI (l15:List ((Int)×aG)) (x20:bA) (l11:List aK) (l13:List aD) (b41:Bool) (x42:Int) (x43:Int) (b44:Bool) (x45:Int) (l47:(List cL)) (l49:(List aE)) (l51:(List aI)) (l53:(List bK)) (l55:(List lQ)) (l57:(List Int)):Option (aG×(List aK)×(List aD)×(List ((Int)×aG))):=
  if b41=true then (some ((⟨x42,x43,b44,x45,l47,(⟨l49,l51⟩:bB),l53,l55,l57⟩:aG),l11,l13,l15)) else (if (x20.Id != 0)=true then (mN l15 x20 l11 l13 ((l15.length:Int) == 512)) else (mN l15 x20 l11 l13 false))
def sU (l11:List aK) (l13:List aD) (l15:List ((Int)×aG)) (x20:bA):Option (aG×(List aK)×(List aD)×(List ((Int)×aG))):=
  (o8 (kyI .i64) l15 x20.Id nP).bind fun x117=>qI l15 x20 l11 l13 x117.2 x117.1.Err x117.1.At x117.1.Yes x117.1.Epoch x117.1.Results x117.1.Store.Nodes x117.1.Store.Turns x117.1.Events x117.1.Mounts x117.1.Wounded
theorem I3 {w:World} {Fo:List Ob} {rs:List Rp} {p1 p14:Nat} {v10 v12 v21 v22 v23 v24 v25 v26 v27 v28 v29 v30:Value} {l11:List aK} {l13:List aD} {l15:List ((Int)×aG)} {x20:bA} (H:Sep w (Blk p1 75 [v25,v26,v27,v28,v10,v12,.map (some p14),v29,v30]::cB Tryz.prog 2 (kyI .i64) bI true p14 l15::Fo) rs) (hr31:rSl aX v10 l11 ∈ rs) (hr32:rSl aO v12 l13 ∈ rs) {r:aG×(List aK)×(List aD)×(List ((Int)×aG))} (hm:sU l11 l13 l15 x20=some r) :
    Calls Tryz.prog 37 [pt p1 0,.agg (aR x20 v21 v22 v23 v24).toArray,.func (.func 32) #[] #[]].toArray w (Ret fun v w'=>∃ y2 y3 y4 y5 y6 y7 y8 y10,.agg (bC r.1 y2 y3 y4 y5 y6 y7).toArray=v∧Sep w' (Blk p1 75 [v25,v26,v27,v28,y8,y10,.map (some p14),v29,v30]::cB Tryz.prog 2 (kyI .i64) bI true p14 r.2.2.2::Fo) (rSl bE y2 r.1.Results::rSl aF y3 r.1.Store.Nodes::rSl aJ y4 r.1.Store.Turns::rSl aV y5 r.1.Events::rSl bL y6 r.1.Mounts::rSl (kI .i64) y7 r.1.Wounded::rSl aX y8 r.2.1::rSl aO y10 r.2.2.1::rs)):=by
 unfold sU at hm
 refine ent Tryz.func37 rfl Tryz.ntmps37 rfl rfl fun a E=>sq<|bS E H (wn rfl) rfl rfl rfl rfl rfl fun p38 w a H E=>al E H rfl rfl rfl rfl gN fun p39 w a H E=>nt<|wp_seq<|aT (fun a w=>∃ p40 v46 v48 v50 v52 v54 v56 b41 x42 x43 b44 x45 l47 l49 l51 l53 l55 l57 rs58,Env 59 a [(0,pt p1 0),(2,.func (.func 32) #[] #[]),(4,pt p38 0),(6,pt p39 0),(7,pt p40 0),(8,.bool b41)]∧Sep w (Blk p1 75 [v25,v26,v27,v28,v10,v12,.map (some p14),v29,v30]::Blk p38 37 (aR x20 v21 v22 v23 v24)::Blk p39 48 bN::Blk p40 48 [.int .i64 x42,.int .i64 x43,.bool b44,.int .i64 x45,v46,v48,v50,v52,v54,v56]::cB Tryz.prog 2 (kyI .i64) bI true p14 l15::Fo) rs58∧(∀ r,r ∈ rs→r ∈ rs58)∧rSl bE v46 l47 ∈ rs58∧rSl aF v48 l49 ∈ rs58∧rSl aJ v50 l51 ∈ rs58∧rSl aV v52 l53 ∈ rs58∧rSl bL v54 l55 ∈ rs58∧rSl (kI .i64) v56 l57 ∈ rs58∧qI l15 x20 l11 l13 b41 x42 x43 b44 x45 l47 l49 l51 l53 l55 l57=some r) ?_ ?_
 ·refine bd hm fun x117 hx115 hm=>?_
  have hI:dP [Blk p38 37 (aR x20 v21 v22 v23 v24),Blk p1 75 [v25,v26,v27,v28,v10,v12,.map (some p14),v29,v30]] [] { w with drawn:=w.drawn+1 }:=⟨_,_,H.kept (Kp.drawn _ w _),(aB mm1 (aB mm2 (aL))),(aM)⟩
  refine jY _ (.go 0 0 (.go 1 0 (.go 2 0 (.go 3 0 (.go 4 0 (.go 5 0 (.alt 6 (.go 7 0 (.go 8 0 (.go 9 0 (.go 10 1 (.go 11 1 (.go 12 2 .nil)))))) 10 (.go 6 1 (.go 7 0 (.go 8 0 (.go 9 0 (.go 11 1 (.go 12 2 .nil))))))))))))) [12] kG (by kernel_rfl) (fun _ _ _ h=>False.elim h.2) hI<|have H:=H.kept (Kp.drawn _ w (w.drawn+1));?_
  generalize ({ w with drawn:=w.drawn+1 }:World)=w at H hI ⊢
  replace hI:∃ W,dP [Blk p38 37 (aR x20 v21 v22 v23 v24),Blk p1 75 [v25,v26,v27,v28,v10,v12,.map (some p14),v29,v30]] [] W:=⟨_,hI⟩
  obtain ⟨W0,hI⟩:=hI
  refine aW E rfl (wn rfl) rfl rfl (fun w hW=>(bD E rfl rfl)) fun a E=>aW E rfl (wn rfl) rfl rfl (fun w hW=>(sF E rfl rfl)) fun a E=>aW E rfl (wn rfl) rfl rfl (fun w hW=>iY E rfl rfl (v:=pt p1 6) (L7 _ _)) fun a E=>aW E rfl (wn rfl) rfl rfl (fun w hW=>eZ E rfl rfl (kD mm1 rfl U68 rfl w hW)) fun a E=>aW E rfl (wn rfl) rfl rfl (fun w hW=>iY E rfl rfl (v:=pt p38 1) (L6 _ _)) fun a E=>aW E rfl (wn rfl) rfl rfl (fun w hW=>eZ E rfl rfl (kD m0 rfl U2 rfl w hW)) fun a E=>?_
  refine kM rfl rfl ?_ ?_
  ·refine lR (i:=3) (K:=(kyI .i64)) E H (wn rfl) rfl rfl rfl rfl rfl rfl (dX U2) U68 yV q3 hx115 fun u140 a H E=>?_
   obtain ⟨v141,v142,v143,v144,v145,v146,rfl,h⟩:=jC H;clear H;have H:=h
   refine nt<|?_
   refine ⟨⟨_,_,H,(aB mm1 (aB mm2 (aL))),(aM)⟩,?_⟩
   refine aW E rfl (wn rfl) rfl rfl (fun w hW=>(bD E rfl rfl)) fun a E=>aW E rfl (wn rfl) rfl rfl (fun w hW=>(cX E rfl rfl rfl)) fun a E=>aW E rfl (wn rfl) rfl rfl (fun w hW=>(cX E rfl rfl rfl)) fun a E=>cJ rfl<|al E H rfl rfl rfl rfl gN fun p147 w a H E=>nt<|?_
   refine ⟨⟨_,_,H,(aB mm2 (aB mm3 (aL))),(aM)⟩,?_⟩
   refine cJ rfl<|aZ (i:=0) E H (wn rfl) rfl rfl rfl rfl rfl rfl bU rfl (bF H mm5 mm4 mm3 mm2 mm1 m0) fun w H=>nt<|?_
   refine ⟨⟨_,_,H,(aB mm2 (aB mm3 (aL))),(aM)⟩,?_⟩
   refine cP rfl<|pr 1 E rfl fun a E=>nt<|dW<|?_
   clear hI
   exact aC<|have H:=H.frs [4,1,2,3,4] rfl;X19 ⟨E.to rfl,H,(Y7 Y0),mm5,mm4,mm3,mm2,mm1,m0,hm⟩
  ·refine al E H rfl rfl rfl rfl gN fun p148 w a H E=>nt<|?_
   refine ⟨⟨_,_,H,(aB mm2 (aB mm3 (aL))),(aM)⟩,?_⟩
   refine cJ rfl<|lR (i:=4) (K:=(kyI .i64)) E H (wn rfl) rfl rfl rfl rfl rfl rfl (dX U2) U68 yV q3 hx115 fun u152 a H E=>?_
   obtain ⟨v153,v154,v155,v156,v157,v158,rfl,h⟩:=jC H;clear H;have H:=h
   refine nt<|?_
   refine ⟨⟨_,_,H,(aB mm2 (aB mm3 (aL))),(aM)⟩,?_⟩
   refine aW E rfl (wn rfl) rfl rfl (fun w hW=>(bD E rfl rfl)) fun a E=>aW E rfl (wn rfl) rfl rfl (fun w hW=>(cX E rfl rfl rfl)) fun a E=>aW E rfl (wn rfl) rfl rfl (fun w hW=>(cX E rfl rfl rfl)) fun a E=>cJ rfl<|aZ (i:=0) E H (wn rfl) rfl rfl rfl rfl rfl rfl bU rfl (bF H mm5 mm4 mm3 mm2 mm1 m0) fun w H=>nt<|?_
   refine ⟨⟨_,_,H,(aB mm2 (aB mm3 (aL))),(aM)⟩,?_⟩
   refine cP rfl<|pr 1 E rfl fun a E=>nt<|dW<|?_
   clear hI
   exact aC<|have H:=H.frs [4,1,2,3,4] rfl;X19 ⟨E.to rfl,H,(Y7 Y0),mm5,mm4,mm3,mm2,mm1,m0,hm⟩
 ·clear E H hm
  rintro a w ⟨p40,v46,v48,v50,v52,v54,v56,b41,x42,x43,b44,x45,l47,l49,l51,l53,l55,l57,rs58,E,H,hs59,hr60,hr61,hr62,hr63,hr64,hr65,hm⟩
  unfold qI at hm
  refine sq<|pr 1 E rfl fun a E=>nt<|wif E hm rfl (fun hm=>?_) fun hm=>?_
  ·refine sq<|sv E rfl rfl rfl (cA (i:=3) (us:=[.int .i64 x42,.int .i64 x43,.bool b44,.int .i64 x45,v46,v48,v50,v52,v54,v56]) E H rfl rfl rfl rfl U48 rfl bU) fun a E=>aZ (i:=2) E H (wn rfl) rfl rfl rfl rfl rfl rfl bU rfl (bF H hr60 hr61 hr62 hr63 hr64 hr65) fun w H=>nt<|wp_ret<|aP<|dH E rfl (cV (i:=2) (us:=[.int .i64 x42,.int .i64 x43,.bool b44,.int .i64 x45,v46,v48,v50,v52,v54,v56]) H rfl rfl rfl U48 rfl bU)<|have H:=H.drs [1,1,1];?_
   cases hm
   exact X8 ⟨rfl,H.reads (aA hr60 (aA hr61 (aA hr62 (aA hr63 (aA hr64 (aA hr65 (aA (hs59 _ hr31) (aA (hs59 _ hr32) (hs59)))))))))⟩
  ·refine wp_skip<|aC<|wp_seq<|aT (fun a w=>∃ b66 rs67,Env 59 a [(0,pt p1 0),(2,.func (.func 32) #[] #[]),(4,pt p38 0),(6,pt p39 0),(32,.bool b66)]∧Sep w (Blk p1 75 [v25,v26,v27,v28,v10,v12,.map (some p14),v29,v30]::Blk p38 37 (aR x20 v21 v22 v23 v24)::Blk p39 48 bN::cB Tryz.prog 2 (kyI .i64) bI true p14 l15::Fo) rs67∧(∀ r,r ∈ rs→r ∈ rs67)∧mN l15 x20 l11 l13 b66=some r) ?_ ?_
   ·refine wp_region_lit<|pr 1 E rfl fun a E=>lb E H 1 rfl rfl rfl rfl rfl rfl rfl U2 rfl fun a E=>pr 2 E rfl fun a E=>cs hm (fun hb114 hm=>?_) fun hb114 hm=>?_
    ·exact pk 3 E (kc 25 rfl hb114) rfl fun a E=>aQ E (ws' (d:=25) E rfl rfl rfl rfl hb114) rfl rfl (cD (i:=0) E H rfl rfl rfl rfl U68 rfl) fun a E=>aQ E (ws' (d:=25) E rfl rfl rfl rfl hb114) rfl rfl (i1 (i:=4) E H rfl rfl rfl U68) fun a E=>pk 2 E (kc 25 rfl hb114) rfl fun a E=>nt<|have H:=H.drop 3;⟨_,_,E.to rfl,H,hs59,hm⟩
    ·exact pk 7 E (kc 25 rfl hb114) rfl fun a E=>nt<|have H:=H.drop 3;⟨_,_,E.to rfl,H,hs59,hm⟩
   ·clear E H hm
    rintro a w ⟨b66,rs67,E,H,hs68,hm⟩
    unfold mN at hm
    refine wif E hm rfl (fun hm=>?_) fun hm=>?_
    ·refine sq<|bd hm fun u69 hx70 hm=>cG E rfl rfl rfl rfl rfl tM (dT H hx70)<|?_
     rintro _ w ⟨v71,v72,v73,v74,v75,v76,rfl,H⟩ a E
     refine aZ (i:=2) E H (wn rfl) rfl rfl rfl rfl rfl rfl bU rfl (bF H m0 mm1 mm2 mm3 mm4 mm5) fun w H=>nt<|wp_ret<|aP<|dH E rfl (cV (i:=2) (us:=(bC u69 v71 v72 v73 v74 v75 v76)) H rfl rfl rfl U48 rfl bU)<|have H:=H.drs [1,1];?_
     cases hm
     exact X8 ⟨rfl,H.reads (aA m0 (aA mm1 (aA mm2 (aA mm3 (aA mm4 (aA mm5 (aA (t6 (hs68 _ hr31)) (aA (t6 (hs68 _ hr32)) (fun r hr=>(t6 (hs68 r hr)))))))))))⟩
    ·refine wp_skip<|aC<|sq<|pr 2 E rfl fun a E=>sv E rfl rfl rfl (cA (i:=1) (us:=(aR x20 v21 v22 v23 v24)) E H rfl rfl rfl rfl U37 rfl j6) fun a E=>bd hm fun u77 hx78 hm=>aU E (wn rfl) rfl rfl (bP E rfl rfl rfl (Yj _)) (K2 H (hs68 _ hr31) (hs68 _ hr32) hx78)<|?_
     rintro _ w ⟨v79,v80,v81,v82,v83,v84,v85,v86,rfl,H⟩ a E
     refine al E H rfl rfl rfl rfl gN fun p87 w a H E=>aZ (i:=0) E H (wn rfl) rfl rfl rfl rfl rfl rfl bU rfl (bF H m0 mm1 mm2 mm3 mm4 mm5) fun w H=>nt<|aT (fun a w=>∃ x88 rs89,Env 59 a [(6,pt p39 0),(9,pt p87 0)]∧Sep w (Blk p39 48 bN::Blk p87 48 (bC u77.1 v79 v80 v81 v82 v83 v84)::Blk p1 75 [v25,v26,v27,v28,v85,v86,.map (some p14),v29,v30]::cB Tryz.prog 2 (kyI .i64) bI true p14 x88::Fo) rs89∧(∀ r,r ∈ rs→r ∈ rs89)∧rSl bE v79 u77.1.Results ∈ rs89∧rSl aF v80 u77.1.Store.Nodes ∈ rs89∧rSl aJ v81 u77.1.Store.Turns ∈ rs89∧rSl aV v82 u77.1.Events ∈ rs89∧rSl bL v83 u77.1.Mounts ∈ rs89∧rSl (kI .i64) v84 u77.1.Wounded ∈ rs89∧rSl aX v85 u77.2.1 ∈ rs89∧rSl aO v86 u77.2.2 ∈ rs89∧mM u77 x88=some r) ?_ ?_
     ·refine aT (fun a w=>∃ b99 rs100,Env 59 a [(0,pt p1 0),(4,pt p38 0),(6,pt p39 0),(9,pt p87 0),(50,.bool b99)]∧Sep w (Blk p1 75 [v25,v26,v27,v28,v85,v86,.map (some p14),v29,v30]::Blk p38 37 (aR x20 v21 v22 v23 v24)::Blk p39 48 bN::Blk p87 48 (bC u77.1 v79 v80 v81 v82 v83 v84)::cB Tryz.prog 2 (kyI .i64) bI true p14 l15::Fo) rs100∧(∀ r,r ∈ rs→r ∈ rs100)∧rSl aX v85 u77.2.1 ∈ rs100∧rSl aO v86 u77.2.2 ∈ rs100∧rSl bE v79 u77.1.Results ∈ rs100∧rSl aF v80 u77.1.Store.Nodes ∈ rs100∧rSl aJ v81 u77.1.Store.Turns ∈ rs100∧rSl aV v82 u77.1.Events ∈ rs100∧rSl bL v83 u77.1.Mounts ∈ rs100∧rSl (kI .i64) v84 u77.1.Wounded ∈ rs100∧jW u77 l15 x20 b99=some r) ?_ ?_
      ·refine wp_region_lit<|pr 1 E rfl fun a E=>lb E H 2 rfl rfl rfl rfl rfl rfl rfl U2 rfl fun a E=>pr 2 E rfl fun a E=>cs hm (fun hb112 hm=>?_) fun hb112 hm=>?_
       ·refine pk 1 E (kc 41 rfl hb112) rfl fun a E=>aQ E (ws' (d:=41) E rfl rfl rfl rfl hb112) rfl rfl (cD (i:=0) E H rfl rfl rfl rfl U41 rfl) fun a E=>pk 3 E (kc 41 rfl hb112) rfl fun a E=>cs hm (fun hb113 hm=>?_) fun hb113 hm=>?_
        ·exact pk 1 E (kc 46 rfl hb113) rfl fun a E=>aQ E (ws' (d:=46) E rfl rfl rfl rfl hb113) rfl rfl (cD (i:=0) E H rfl rfl rfl rfl U41 rfl) fun a E=>pk 2 E (kc 46 rfl hb113) rfl fun a E=>nt<|have H:=H.frs [4,1,4,4,4] rfl;⟨_,_,E.to rfl,H,(Y8 hs68),mm6,(t1 mm6),m0,mm1,mm2,mm3,mm4,mm5,hm⟩
        ·exact pk 4 E (kc 46 rfl hb113) rfl fun a E=>nt<|have H:=H.frs [4,1,4,4,4] rfl;⟨_,_,E.to rfl,H,(Y8 hs68),mm6,(t1 mm6),m0,mm1,mm2,mm3,mm4,mm5,hm⟩
       ·exact pk 9 E (kc 41 rfl hb112) rfl fun a E=>nt<|have H:=H.frs [4,1,4,4,4] rfl;⟨_,_,E.to rfl,H,(Y8 hs68),mm6,(t1 mm6),m0,mm1,mm2,mm3,mm4,mm5,hm⟩
      ·clear E H hm
       rintro a w ⟨b99,rs100,E,H,hs101,hr102,hr103,hr104,hr105,hr106,hr107,hr108,hr109,hm⟩
       unfold jW at hm
       refine wif E hm rfl (fun hm=>?_) fun hm=>?_
       ·refine dw [(0,0),(1,0),(2,0),(3,0),(4,0),(5,0),(6,0),(7,2)] [0,1,3] [] H (by kernel_rfl) (fun _ _ _ h=>False.elim h.2) fun w W0 hI H=>fn 3 E rfl fun a E=>fb E rfl (wn rfl) rfl rfl rfl rfl m0 rfl U68 rfl fun a E=>fn 1 E rfl fun a E=>fb E rfl (wn rfl) rfl rfl rfl rfl mm1 rfl U2 rfl fun a E=>fbn E (bC u77.1 v79 v80 v81 v82 v83 v84) rfl (wn rfl) rfl rfl rfl rfl mm2 rfl U48 rfl bU fun a E=>bQ rfl<|bd hm fun l111 hx110 hm=>zR (i:=4) (K:=(kyI .i64)) (v:=u77.1) (cs:=[.int .i64 u77.1.Err,.int .i64 u77.1.At,.bool u77.1.Yes,.int .i64 u77.1.Epoch,v79,v80,v81,v82,v83,v84]) E H (wn rfl) rfl rfl rfl rfl rfl rfl (dX U2) U68 hx110 (fun ok hr=>(lS (hr _ hr104) (hr _ hr105) (hr _ hr106) (hr _ hr107) (hr _ hr108) (hr _ hr109))) fun w H=>?_
        refine nt<|bR<|?_
        clear hI
        exact aC<|have H:=H.drop 1;have H:=H.frs [3,1,3,3] rfl;⟨_,_,E.to rfl,H,hs101,hr104,hr105,hr106,hr107,hr108,hr109,hr102,hr103,hm⟩
       ·exact wp_skip<|aC<|have H:=H.drop 1;have H:=H.frs [3,1,3,3] rfl;⟨_,_,E.to rfl,H,hs101,hr104,hr105,hr106,hr107,hr108,hr109,hr102,hr103,hm⟩
     ·clear E H hm
      rintro a w ⟨x88,rs89,E,H,hs90,hr91,hr92,hr93,hr94,hr95,hr96,hr97,hr98,hm⟩
      unfold mM at hm
      refine sq<|sv E rfl rfl rfl (cA (i:=1) (us:=(bC u77.1 v79 v80 v81 v82 v83 v84)) E H rfl rfl rfl rfl U48 rfl bU) fun a E=>aZ (i:=0) E H (wn rfl) rfl rfl rfl rfl rfl rfl bU rfl (bF H hr91 hr92 hr93 hr94 hr95 hr96) fun w H=>nt<|wp_ret<|dH E rfl (cV (i:=0) (us:=(bC u77.1 v79 v80 v81 v82 v83 v84)) H rfl rfl rfl U48 rfl bU)<|have H:=H.drs [0,0];?_
      cases hm
      exact X8 ⟨rfl,H.reads (aA hr91 (aA hr92 (aA hr93 (aA hr94 (aA hr95 (aA hr96 (aA hr97 (aA hr98 (hs90)))))))))⟩

def uM (l2:List cF):Nat→(List ByteArray)→Int→Option (List ByteArray)
  | 0,_,_=>none
  | k1+1,l5,x6=>
    if (decide (x6 < (l2.length:Int)))=true then ((idx l2 x6).bind fun x9=>(ck (l5.length+([x9.Part.Dir]:List ByteArray).length ≤ LIM)).bind fun u15=>uM l2 k1 (l5 ++ ([x9.Part.Dir]:List ByteArray)) (IntKind.i64.wrap (x6+1))) else ((ck (l5.length ≤ 1000000)).bind fun u17=>(ck ((n0 l5).length ≤ 1000000)).bind fun u19=>some (vM (n0 l5)))
def zH (l2:List cF):Option (List ByteArray):=
  uM l2 (((l2.length:Int) - 0:Int).toNat+1) [] 0
theorem N7 {w:World} {Fo:List Ob} {rs:List Rp} {v1:Value} {l2:List cF} (H:Sep w (Fo) rs) (hr3:rSl cE v1 l2 ∈ rs) {r:(List ByteArray)} (hm:zH l2=some r) :
    Calls Tryz.prog 65 [v1].toArray w (Ret fun v w'=>∃ y1,y1=v∧Sep w' (Row 9 kS y1 r::Fo) (rs)):=by
 unfold zH at hm
 refine ent Tryz.func65 rfl Tryz.ntmps65 rfl rfl fun a E=>sq<|pr 1 E rfl fun a E=>nx<|pr 1 E rfl fun a E=>nt<|wp_seq<|sq<|pr 1 E rfl fun a E=>?_
 refine sv E rfl rfl rfl (cR E H rfl rfl hr3 U26) fun a E=>pr 1 E rfl fun a E=>nt<|wp_block<|bX (fun k1 a w=>∃ v4 l5 x6 rs7,Env 23 a [(3,v4),(6,v1),(7,.int .i64 (l2.length:Int)),(8,.int .i64 x6)]∧Sep w (Row 9 kS v4 l5::Fo) rs7∧(∀ r,r ∈ rs→r ∈ rs7)∧uM l2 k1 l5 x6=some r) (((l2.length:Int) - 0:Int).toNat+1) ?_ ?_
 ·exact have H:=H.nilRow 9 kS;X4 ⟨E.to rfl,H,Y0,hm⟩
 ·clear E H hm
  rintro k1 a w ⟨v4,l5,x6,rs7,E,H,hs8,hm⟩
  cases k1 with
  | zero=>exact (bT hm rfl).elim
  | succ k1=>
   unfold uM at hm
   refine sq<|pr 1 E rfl fun a E=>nt<|wp_seq<|wif E hm rfl (fun hm=>?_) fun hm=>?_
   ·refine wp_skip<|aC<|wp_seq<|wp_block<|sq<|bd hm fun x9 hx10 hm=>dE E H (wn rfl) rfl rfl rfl rfl rfl (hs8 _ hr3) U26 j7 hx10 fun q11 a H E=>ldf sJ E H rfl rfl rfl rfl rfl m0 U87 rfl j7 fun a E=>al E H rfl rfl rfl rfl Hc fun p12 w a H E=>?_
    refine aZ (i:=0) E H (wn rfl) rfl rfl rfl rfl rfl rfl j7 rfl rfl fun w H=>nt<|wp_region_lit<|pr 3 E rfl fun a E=>lb E H 0 rfl rfl rfl rfl rfl rfl rfl U9 rfl fun a E=>pI (e:=9) (d:=kS) (cs:=[.string x9.Part.Dir]) (xs:=[x9.Part.Dir]) E H (wn rfl) rfl rfl rfl (E.evs rfl) (by kernel_rfl) rfl (fun ok hr=>(Rows.single (d:=kS) (cs:=[.string x9.Part.Dir]) (x:=x9.Part.Dir) rfl)) fun v13 w a H E=>bk hm fun hx16 hm=>dV (i:=1) E H (wn rfl) rfl rfl rfl rfl rfl rfl (jA m0) U33 Gy rfl hx16 rfl fun v14 w a H E=>pr 1 E rfl fun a E=>?_
    exact wpList_nil<|bY<|aC<|wp_region_lit<|pr 2 E rfl fun a E=>nt<|have H:=H.drop 0;⟨k1,Nat.lt_succ_self k1,X4 ⟨E.to rfl,H,(Y2 hs8),hm⟩⟩
   ·refine wp_exit<|bH<|bH<|dG<|aC<|sq<|pr 1 E rfl fun a E=>bk hm fun hx18 hm=>cG E rfl rfl rfl rfl rfl Uz (Of (ix:=0) H rfl hx18)<|?_
    rintro _ w ⟨rfl,H⟩ a E
    refine nx<|pr 1 E rfl fun a E=>bk hm fun hx20 hm=>aU E (wn rfl) rfl rfl (cC E rfl rfl (Va _)) (Og (ix:=0) H rfl hx20) fun v21 w H a E=>pr 1 E rfl fun a E=>nt<|wp_ret<|aY E rfl rfl<|?_
    cases hm
    exact ⟨_,rfl,H.reads hs8⟩

def k9 (l2:List aH) (s3:ByteArray):Option Int:=
  (oU l2 s3).bind fun u5=>if (decide (u5 ≥ 0))=true then ((idx l2 u5).bind fun x7=>some (x7.State)) else (some (3))
theorem Cq {w:World} {Fo:List Ob} {rs:List Rp} {v1:Value} {l2:List aH} {s3:ByteArray} (H:Sep w (Fo) rs) (hr4:rSl aS v1 l2 ∈ rs) {r:Int} (hm:k9 l2 s3=some r) :
    Calls Tryz.prog 124 [v1,.string s3].toArray w (Ret fun v w'=>.int .i64 r=v∧Sep w' (Fo) (rs)):=by
 unfold k9 at hm
 refine ent Tryz.func124 rfl Tryz.ntmps124 rfl rfl fun a E=>sq<|pr 1 E rfl fun a E=>nt<|wp_seq<|sq<|pr 2 E rfl fun a E=>bd hm fun u5 hx6 hm=>xk E rfl rfl rfl rfl rfl V4 (sK H hr4 hx6) fun w H a E=>?_
 refine pr 1 E rfl fun a E=>nx<|pr 2 E rfl fun a E=>nt<|wif E hm rfl (fun hm=>?_) fun hm=>?_
 ·refine sq<|pr 2 E rfl fun a E=>bd hm fun x7 hx8 hm=>dE E H (wn rfl) rfl rfl rfl rfl rfl hr4 U32 gL hx8 fun q9 a H E=>have H:=H.derive1 m0 (rAt (kI .i64) (q9.add 2) x7.State) (fun ok h=>yT h);pr 1 E rfl fun a E=>sv E rfl rfl rfl (nT E H rfl rfl m0 U3 rfl) fun a E=>pr 1 E rfl fun a E=>nt<|?_
  refine wp_ret<|aP<|aY E rfl rfl<|?_
  cases hm
  exact ⟨rfl,H.reads (Y2 Y0)⟩
 ·refine wp_skip<|aC<|sq<|pr 1 E rfl fun a E=>nt<|wp_ret<|aY E rfl rfl<|?_
  cases hm
  exact ⟨rfl,H.reads Y0⟩

def qJ (s1:ByteArray) (l9:List aH) (x23:Int):Option Bool:=
  (k9 l9 s1).bind fun u33=>some (u33 == x23)
theorem w7 {w:World} {Fo:List Ob} {rs:List Rp} {s1:ByteArray} {p2 p3 p22:Nat} {v8 v24 v25 v26 v27 v28 v29 v30 v31:Value} {l9:List aH} {x23:Int} (H:Sep w (Blk p2 28 [pt p3 0]::Blk p3 75 [v24,v25,v8,v26,v27,v28,v29,v30,v31]::Blk p22 3 [.int .i64 x23]::Fo) rs) (hr32:rSl aS v8 l9 ∈ rs) {r:Bool} (hm:qJ s1 l9 x23=some r) :
    Calls Tryz.prog 123 [.string s1,pt p2 0,pt p22 0].toArray w (Ret fun v w'=>.bool r=v∧Sep w' (Blk p2 28 [pt p3 0]::Blk p3 75 [v24,v25,v8,v26,v27,v28,v29,v30,v31]::Blk p22 3 [.int .i64 x23]::Fo) (rs)):=by
 unfold qJ at hm
 refine ent Tryz.func123 rfl Tryz.ntmps123 rfl rfl fun a E=>sq<|pr 1 E rfl fun a E=>nt<|wp_seq<|dw [(0,0),(1,0),(2,0),(3,0),(4,0),(6,0),(5,1),(7,0),(8,2)] [0,1,2] [] H (by kernel_rfl) (fun _ _ _ h=>False.elim h.2) fun w W0 hI H=>fb E rfl (wn rfl) rfl rfl rfl rfl m0 rfl U28 rfl fun a E=>fn 2 E rfl fun a E=>fb E rfl (wn rfl) rfl rfl rfl rfl mm1 rfl U32 rfl fun a E=>?_
 refine fn 1 E rfl fun a E=>fb E rfl (wn rfl) rfl rfl rfl rfl mm2 rfl U3 rfl fun a E=>bZ rfl<|bd hm fun u33 hx34 hm=>xk E rfl rfl rfl rfl rfl Vd (Cq H hr32 hx34) fun w H a E=>nt<|?_
 refine ⟨⟨_,_,H,(aB m0 (aB mm1 (aB mm2 (aL)))),(aM)⟩,?_⟩
 refine fn 1 E rfl fun a E=>bQ rfl<|pr 1 E rfl fun a E=>nt<|bR<|?_
 clear hI
 refine aC<|wp_ret<|aY E rfl rfl<|?_
 cases hm
 exact ⟨rfl,H.reads Y0⟩

def fR (l2:List ByteArray) (l10:List aH) (x24:Int):Nat→Int→Option Int
  | 0,_=>none
  | k1+1,x35=>
    if (decide (x35 < (l2.length:Int)))=true then ((idx l2 x35).bind fun x38=>(qJ x38 l10 x24).bind fun u41=>if u41=true then (some (x35)) else (fR l2 l10 x24 k1 (IntKind.i64.wrap (x35+1)))) else (some ((-1)))
def kA (l2:List ByteArray) (l10:List aH) (x24:Int):Option Int:=
  fR l2 l10 x24 (((l2.length:Int) - 0:Int).toNat+1) 0
theorem wW {w:World} {Fo:List Ob} {rs:List Rp} {v1 v9 v25 v26 v27 v28 v29 v30 v31 v32:Value} {l2:List ByteArray} {p3 p4 p23:Nat} {l10:List aH} {x24:Int} (H:Sep w (Blk p3 28 [pt p4 0]::Blk p4 75 [v25,v26,v9,v27,v28,v29,v30,v31,v32]::Blk p23 3 [.int .i64 x24]::Fo) rs) (hr33:rSl kS v1 l2 ∈ rs) (hr34:rSl aS v9 l10 ∈ rs) {r:Int} (hm:kA l2 l10 x24=some r) :
    Calls Tryz.prog 119 [v1,.func (.func 123) #[] #[pt p3 0,pt p23 0]].toArray w (Ret fun v w'=>.int .i64 r=v∧Sep w' (Blk p3 28 [pt p4 0]::Blk p4 75 [v25,v26,v9,v27,v28,v29,v30,v31,v32]::Blk p23 3 [.int .i64 x24]::Fo) (rs)):=by
 unfold kA at hm
 refine ent Tryz.func119 rfl Tryz.ntmps119 rfl rfl fun a E=>sq<|pr 1 E rfl fun a E=>nt<|wp_seq<|sq<|pr 1 E rfl fun a E=>sv E rfl rfl rfl (cR E H rfl rfl hr33 U33) fun a E=>pr 1 E rfl fun a E=>?_
 refine nt<|wp_block<|bX (fun k1 a w=>∃ x35 rs36,Env 19 a [(0,v1),(1,.func (.func 123) #[] #[pt p3 0,pt p23 0]),(7,.int .i64 (l2.length:Int)),(8,.int .i64 x35)]∧Sep w (Blk p3 28 [pt p4 0]::Blk p23 3 [.int .i64 x24]::Blk p4 75 [v25,v26,v9,v27,v28,v29,v30,v31,v32]::Fo) rs36∧(∀ r,r ∈ rs→r ∈ rs36)∧fR l2 l10 x24 k1 x35=some r) (((l2.length:Int) - 0:Int).toNat+1) ?_ ?_
 ·exact have H:=H.frs [1,2,2] rfl;⟨_,_,E.to rfl,H,Y0,hm⟩
 ·clear E H hm
  rintro k1 a w ⟨x35,rs36,E,H,hs37,hm⟩
  cases k1 with
  | zero=>exact (bT hm rfl).elim
  | succ k1=>
   unfold fR at hm
   refine sq<|pr 1 E rfl fun a E=>nt<|wp_seq<|wif E hm rfl (fun hm=>?_) fun hm=>?_
   ·refine wp_skip<|aC<|wp_seq<|wp_block<|sq<|pr 2 E rfl fun a E=>nx<|pr 3 E rfl fun a E=>bd hm fun x38 hx39 hm=>?_
    refine dE E H (wn rfl) rfl rfl rfl rfl rfl (hs37 _ hr33) U33 sz9 hx39 fun q40 a H E=>sv E rfl rfl rfl (nT E H rfl rfl m0 U9 rfl) fun a E=>have H:=H.frs [1,2,2] rfl;bd hm fun u41 hx42 hm=>aU E (wn rfl) rfl rfl (bP E rfl rfl rfl (Vc _)) (w7 H (t1 (hs37 _ hr34)) hx42)<|?_
    rintro _ w ⟨rfl,H⟩ a E
    refine nt<|wif E hm rfl (fun hm=>?_) fun hm=>?_
    ·refine sq<|pr 2 E rfl fun a E=>nt<|wp_ret<|bV<|aP<|aP<|bV<|aP<|?_
     refine aY E rfl rfl<|?_
     cases hm
     exact ⟨rfl,H.reads (Y1 hs37)⟩
    ·exact wp_skip<|bY<|aC<|wp_region_lit<|pr 2 E rfl fun a E=>nt<|have H:=H.frs [1,2,2] rfl;⟨k1,Nat.lt_succ_self k1,_,_,E.to rfl,H,(Y1 hs37),hm⟩
   ·refine wp_exit<|bH<|bH<|dG<|aC<|sq<|pr 1 E rfl fun a E=>nt<|wp_ret<|?_
    refine aY E rfl rfl<|have H:=H.frs [1,2,2] rfl;?_
    cases hm
    exact ⟨rfl,H.reads hs37⟩

def iV (l2:List ByteArray) (l10:List aH) (x24:Int):Option Bool:=
  (kA l2 l10 x24).bind fun u35=>some (decide (u35 ≥ 0))
theorem uR {w:World} {Fo:List Ob} {rs:List Rp} {v1 v9 v25 v26 v27 v28 v29 v30 v31 v32:Value} {l2:List ByteArray} {p3 p4 p23:Nat} {l10:List aH} {x24:Int} (H:Sep w (Blk p3 28 [pt p4 0]::Blk p4 75 [v25,v26,v9,v27,v28,v29,v30,v31,v32]::Blk p23 3 [.int .i64 x24]::Fo) rs) (hr33:rSl kS v1 l2 ∈ rs) (hr34:rSl aS v9 l10 ∈ rs) {r:Bool} (hm:iV l2 l10 x24=some r) :
    Calls Tryz.prog 66 [v1,.func (.func 123) #[] #[pt p3 0,pt p23 0]].toArray w (Ret fun v w'=>.bool r=v∧Sep w' (Blk p3 28 [pt p4 0]::Blk p4 75 [v25,v26,v9,v27,v28,v29,v30,v31,v32]::Blk p23 3 [.int .i64 x24]::Fo) (rs)):=by
 unfold iV at hm
 refine ent Tryz.func66 rfl Tryz.ntmps66 rfl rfl fun a E=>sq<|pr 1 E rfl fun a E=>nx<|pr 2 E rfl fun a E=>bd hm fun u35 hx36 hm=>xk E rfl rfl rfl rfl rfl Hl (wW H hr33 hr34 hx36) fun w H a E=>pr 2 E rfl fun a E=>nt<|?_
 refine wp_ret<|aY E rfl rfl<|?_
 cases hm
 exact ⟨rfl,H.reads Y0⟩

def oH (x1:Int) (l4:List ByteArray) (l12:List aH):Option Bool:=
  (iV l4 l12 x1).bind fun u36=>some (u36)
theorem yJ {w:World} {Fo:List Ob} {rs:List Rp} {x1:Int} {p2 p5 p6:Nat} {v3 v11 v25 v26 v27 v28 v29 v30 v31 v32:Value} {l4:List ByteArray} {l12:List aH} (H:Sep w (Blk p2 33 [v3]::Blk p5 28 [pt p6 0]::Blk p6 75 [v25,v26,v11,v27,v28,v29,v30,v31,v32]::Fo) rs) (hr33:rSl kS v3 l4 ∈ rs) (hr34:rSl aS v11 l12 ∈ rs) {r:Bool} (hm:oH x1 l4 l12=some r) :
    Calls Tryz.prog 122 [.int .i64 x1,pt p2 0,pt p5 0].toArray w (Ret fun v w'=>.bool r=v∧Sep w' (Blk p2 33 [v3]::Blk p5 28 [pt p6 0]::Blk p6 75 [v25,v26,v11,v27,v28,v29,v30,v31,v32]::Fo) (rs)):=by
 unfold oH at hm
 refine ent Tryz.func122 rfl Tryz.ntmps122 rfl rfl fun a E=>sq<|bS E H (wn rfl) rfl rfl rfl rfl rfl fun p35 w a H E=>pr 1 E rfl fun a E=>nx<|lb E H 1 rfl rfl rfl rfl rfl rfl rfl U33 rfl fun a E=>sv E rfl rfl rfl (iP E rfl rfl rfl) fun a E=>have H:=H.frs [1,1,3,3] rfl;bd hm fun u36 hx37 hm=>?_
 refine xk E rfl rfl rfl rfl rfl Kq (uR H hr33 hr34 hx37) fun w H a E=>pr 1 E rfl fun a E=>nt<|wp_ret<|aY E rfl rfl<|have H:=H.drop 2;have H:=H.frs [1,1,2] rfl;?_
 cases hm
 exact ⟨rfl,H.reads Y0⟩

def pZ (l7:List aH) (l21:List ByteArray):Option Int:=
  (oH 3 l21 l7).bind fun u36=>if u36=true then (some (132)) else ((oH 2 l21 l7).bind fun u38=>if u38=true then (some (131)) else (some (0)))
theorem zN {w:World} {Fo:List Ob} {rs:List Rp} {p1:Nat} {v6 v20 v22 v23 v24 v25 v26 v27 v28 v29:Value} {l7:List aH} {l21:List ByteArray} (H:Sep w (Blk p1 75 [v22,v23,v6,v24,v25,v26,v27,v28,v29]::Fo) rs) (hr30:rSl aS v6 l7 ∈ rs) (hr31:rSl kS v20 l21 ∈ rs) {r:Int} (hm:pZ l7 l21=some r) :
    Calls Tryz.prog 69 [pt p1 0,v20].toArray w (Ret fun v w'=>.int .i64 r=v∧Sep w' (Blk p1 75 [v22,v23,v6,v24,v25,v26,v27,v28,v29]::Fo) (rs)):=by
 unfold pZ at hm
 refine ent Tryz.func69 rfl Tryz.ntmps69 rfl rfl fun a E=>sq<|bS E H (wn rfl) rfl rfl rfl rfl rfl fun p32 w a H E=>?_
 obtain ⟨q34,x35,rfl⟩:=H.slform hr31
 refine bS E H (wn rfl) rfl rfl rfl rfl rfl fun p33 w a H E=>pr 1 E rfl fun a E=>nx<|sv E rfl rfl rfl (iP E rfl rfl rfl) fun a E=>pr 1 E rfl fun a E=>nt<|wp_seq<|wp_block<|sq<|?_
 refine pr 1 E rfl fun a E=>bd hm fun u36 hx37 hm=>aU E (wn rfl) rfl rfl (bP E rfl rfl rfl (Lu _)) (yJ H hr31 hr30 hx37)<|?_
 rintro _ w ⟨rfl,H⟩ a E
 refine pr 1 E rfl fun a E=>nt<|wif E hm rfl (fun hm=>?_) fun hm=>?_
 ·refine sq<|pr 1 E rfl fun a E=>nt<|wp_ret<|bV<|aP<|aY E rfl rfl<|have H:=H.drs [0,0];?_
  cases hm
  exact ⟨rfl,H.reads Y0⟩
 ·refine sq<|pr 1 E rfl fun a E=>bd hm fun u38 hx39 hm=>aU E (wn rfl) rfl rfl (bP E rfl rfl rfl (Lu _)) (yJ H hr31 hr30 hx39)<|?_
  rintro _ w ⟨rfl,H⟩ a E
  refine pr 1 E rfl fun a E=>nt<|wif E hm rfl (fun hm=>?_) fun hm=>?_
  ·refine sq<|pr 1 E rfl fun a E=>nt<|wp_ret<|bV<|aP<|aY E rfl rfl<|have H:=H.drs [0,0];?_
   cases hm
   exact ⟨rfl,H.reads Y0⟩
  ·refine wp_skip<|bY<|aC<|sq<|pr 1 E rfl fun a E=>nt<|wp_ret<|aY E rfl rfl<|have H:=H.drs [0,0];?_
   cases hm
   exact ⟨rfl,H.reads Y0⟩

def a7 (x1:aN) (s3:ByteArray):Option Bool:=
  some (sEq x1.Dir s3)
theorem Bo {w:World} {Fo:List Ob} {rs:List Rp} {x1:aN} {p2:Nat} {s3:ByteArray} (H:Sep w (Blk p2 9 [.string s3]::Fo) rs) {r:Bool} (hm:a7 x1 s3=some r) :
    Calls Tryz.prog 121 [.agg (nG x1).toArray,pt p2 0].toArray w (Ret fun v w'=>.bool r=v∧Sep w' (Blk p2 9 [.string s3]::Fo) (rs)):=by
 unfold a7 at hm
 refine ent Tryz.func121 rfl Tryz.ntmps121 rfl rfl fun a E=>sq<|bS E H (wn rfl) rfl rfl rfl rfl rfl fun p4 w a H E=>pr 1 E rfl fun a E=>nx<|pr 1 E rfl fun a E=>lb E H 0 rfl rfl rfl rfl rfl rfl rfl U9 rfl fun a E=>lb E H 1 rfl rfl rfl rfl rfl rfl rfl U9 rfl fun a E=>pr 2 E rfl fun a E=>?_
 refine nt<|wp_ret<|aY E rfl rfl<|have H:=H.drop 0;?_
 cases hm
 exact ⟨rfl,H.reads Y0⟩

end Go.Cb
