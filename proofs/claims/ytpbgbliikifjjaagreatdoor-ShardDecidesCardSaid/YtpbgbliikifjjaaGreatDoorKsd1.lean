/- Functions of the program, walked: each comes to its plain function. -/
import Derived.Test.YtpbgbliikifjjaaGreatDoorTsd
import Derived.Test.YtpbgbliikifjjaaGreatDoorExsd
set_option linter.unusedVariables false
set_option linter.unusedSimpArgs false
set_option maxRecDepth 20000
set_option maxHeartbeats 1000000
namespace Go.Cb
open Go.Proofs Go.RowKit

def I9:Option Unit:=
  some ()
theorem Ck {w:World} {Fo:List Ob} {rs:List Rp} (H:Sep w (Fo) rs) {r:Unit} (hm:I9=some r) :
    Calls Tryz.prog 176 [].toArray w (Ret fun v w'=>.agg #[.int .i64 0,.int .i64 13,.int .i64 2,.int .i64 19,.int .i64 18,.int .i64 16,.int .i64 16,.int .i64 20]=v∧Sep w' (Fo) (rs)):=by
 unfold I9 at hm
 refine ent Tryz.func176 rfl Tryz.ntmps176 rfl rfl fun a E=>sq<|al E H rfl rfl rfl rfl Ud fun p1 w a H E=>nx<|sv E rfl rfl rfl (cI E rfl (E.evs rfl) (v:=.agg #[.int .i64 0,.int .i64 13,.int .i64 2,.int .i64 19,.int .i64 18,.int .i64 16,.int .i64 16,.int .i64 20]) (by kernel_rfl)) fun a E=>aZ (i:=0) E H (wn rfl) rfl rfl rfl rfl rfl rfl Ln rfl rfl fun w H=>nt<|wp_ret<|dH E rfl (cV (i:=0) (us:=[.int .i64 0,.int .i64 13,.int .i64 2,.int .i64 19,.int .i64 18,.int .i64 16,.int .i64 16,.int .i64 20]) H rfl rfl rfl Qa rfl Ln)<|?_
 refine have H:=H.drop 0;?_
 cases hm
 exact ⟨rfl,H.reads Y0⟩

def zV (x1:Int) (x2:Int):Option Bool:=
  if (decide (x1 ≥ 0))=true then (some (decide (x1 ≤ x2))) else (some (false))
theorem Bj {w:World} {Fo:List Ob} {rs:List Rp} {x1 x2:Int} (H:Sep w (Fo) rs) {r:Bool} (hm:zV x1 x2=some r) :
    Calls Tryz.prog 175 [.int .i64 x1,.int .i64 x2].toArray w (Ret fun v w'=>.bool r=v∧Sep w' (Fo) (rs)):=by
 unfold zV at hm
 refine ent Tryz.func175 rfl Tryz.ntmps175 rfl rfl fun a E=>sq<|pr 1 E rfl fun a E=>nx<|pr 3 E rfl fun a E=>cs hm (fun hb3 hm=>?_) fun hb3 hm=>?_
 ·refine pk 5 E (kc 7 rfl hb3) rfl fun a E=>nt<|wp_ret<|aY E rfl rfl<|?_
  cases hm
  exact ⟨rfl,H.reads Y0⟩
 ·refine pk 5 E (kc 7 rfl hb3) rfl fun a E=>nt<|wp_ret<|aY E rfl rfl<|?_
  cases hm
  exact ⟨rfl,H.reads Y0⟩

def kW (s1:ByteArray) (x2:Int):Option Int:=
  some (ixB s1 x2)
theorem xV {w:World} {Fo:List Ob} {rs:List Rp} {s1:ByteArray} {x2:Int} (H:Sep w (Fo) rs) {r:Int} (hm:kW s1 x2=some r) :
    Calls Tryz.prog 238 [.string s1,.int .u8 x2].toArray w (Ret fun v w'=>.int .i64 r=v∧Sep w' (Fo) (rs)):=by
 unfold kW at hm
 refine ent Tryz.func238 rfl Tryz.ntmps238 rfl rfl fun a E=>sq<|pr 1 E rfl fun a E=>nx<|pr 2 E rfl fun a E=>sv E rfl rfl rfl (O4 E rfl rfl (Pj _ _ _)) fun a E=>pr 1 E rfl fun a E=>nt<|wp_ret<|?_
 refine aY E rfl rfl<|?_
 cases hm
 exact ⟨rfl,H.reads Y0⟩

def mQ (s1:ByteArray) (x2:Int):Option Int:=
  (kW s1 x2).bind fun u3=>some (u3)
theorem tN {w:World} {Fo:List Ob} {rs:List Rp} {s1:ByteArray} {x2:Int} (H:Sep w (Fo) rs) {r:Int} (hm:mQ s1 x2=some r) :
    Calls Tryz.prog 177 [.string s1,.int .u8 x2].toArray w (Ret fun v w'=>.int .i64 r=v∧Sep w' (Fo) (rs)):=by
 unfold mQ at hm
 refine ent Tryz.func177 rfl Tryz.ntmps177 rfl rfl fun a E=>sq<|pr 1 E rfl fun a E=>nx<|pr 2 E rfl fun a E=>bd hm fun u3 hx4 hm=>xk E rfl rfl rfl rfl rfl Tr (xV H hx4) fun w H a E=>pr 1 E rfl fun a E=>nt<|?_
 refine wp_ret<|aY E rfl rfl<|?_
 cases hm
 exact ⟨rfl,H.reads Y0⟩

def kE (b5:Bool):Option Bool:=
  if b5=true then (some (true)) else (some (false))
def kF (x1:Int) (b2:Bool):Option Bool:=
  if b2=true then (some (true)) else (if (decide (57343 < x1))=true then (kE (decide (x1 ≤ 1114111))) else (kE false))
def pL (x1:Int):Option Bool:=
  if (decide (0 ≤ x1))=true then (kF x1 (decide (x1 < 55296))) else (kF x1 false)
theorem q5 {w:World} {Fo:List Ob} {rs:List Rp} {x1:Int} (H:Sep w (Fo) rs) {r:Bool} (hm:pL x1=some r) :
    Calls Tryz.prog 325 [.int .i32 x1].toArray w (Ret fun v w'=>.bool r=v∧Sep w' (Fo) (rs)):=by
 unfold pL at hm
 refine ent Tryz.func325 rfl Tryz.ntmps325 rfl rfl fun a E=>sq<|pr 1 E rfl fun a E=>nt<|wp_seq<|wp_block<|aT (fun a w=>∃ b2 rs3,Env 17 a [(0,.int .i32 x1),(3,.bool b2)]∧Sep w (Fo) rs3∧(∀ r,r ∈ rs→r ∈ rs3)∧kF x1 b2=some r) ?_ ?_
 ·refine wp_region_lit<|pr 3 E rfl fun a E=>cs hm (fun hb9 hm=>?_) fun hb9 hm=>?_
  ·exact pk 4 E (kc 6 rfl hb9) rfl fun a E=>nt<|⟨_,_,E.to rfl,H,Y0,hm⟩
  ·exact pk 4 E (kc 6 rfl hb9) rfl fun a E=>nt<|⟨_,_,E.to rfl,H,Y0,hm⟩
 ·clear E H hm
  rintro a w ⟨b2,rs3,E,H,hs4,hm⟩
  unfold kF at hm
  refine wif E hm rfl (fun hm=>?_) fun hm=>?_
  ·refine sq<|pr 1 E rfl fun a E=>nt<|wp_ret<|bV<|aP<|aY E rfl rfl<|?_
   cases hm
   exact ⟨rfl,H.reads hs4⟩
  ·refine aT (fun a w=>∃ b5 rs6,Env 17 a [(10,.bool b5)]∧Sep w (Fo) rs6∧(∀ r,r ∈ rs→r ∈ rs6)∧kE b5=some r) ?_ ?_
   ·refine wp_region_lit<|pr 3 E rfl fun a E=>cs hm (fun hb8 hm=>?_) fun hb8 hm=>?_
    ·exact pk 4 E (kc 13 rfl hb8) rfl fun a E=>nt<|⟨_,_,E.to rfl,H,hs4,hm⟩
    ·exact pk 4 E (kc 13 rfl hb8) rfl fun a E=>nt<|⟨_,_,E.to rfl,H,hs4,hm⟩
   ·clear E H hm
    rintro a w ⟨b5,rs6,E,H,hs7,hm⟩
    unfold kE at hm
    refine wif E hm rfl (fun hm=>?_) fun hm=>?_
    ·refine sq<|pr 1 E rfl fun a E=>nt<|wp_ret<|bV<|aP<|aY E rfl rfl<|?_
     cases hm
     exact ⟨rfl,H.reads hs7⟩
    ·refine wp_skip<|bY<|aC<|sq<|pr 1 E rfl fun a E=>nt<|wp_ret<|aY E rfl rfl<|?_
     cases hm
     exact ⟨rfl,H.reads hs7⟩

def nH (s1:ByteArray):Nat→(Nat)→Option Int
  | 0,_=>none
  | k1+1,x9=>
    if decide (x9 < s1.size)=true then (if (((Utf8.decode s1 x9).1:Int) == 65533)=true then (some ((x9:Int))) else (nH s1 k1 (x9+(Utf8.decode s1 x9).2))) else (some ((-1)))
def rA (x2:Int) (s1:ByteArray):Nat→Option Int
  | 0=>none
  | k2+1=>
    if (decide ((IntKind.i64.wrap (((Utf8.encode x2).size:Int) - 1)) < (s1.size:Int)))=true then ((idx s1.data.toList (IntKind.i64.wrap (((Utf8.encode x2).size:Int) - 1))).bind fun x17=>(idx (Utf8.encode x2).data.toList (IntKind.i64.wrap (((Utf8.encode x2).size:Int) - 1))).bind fun x19=>if ((x17.toNat:Int) != (x19.toNat:Int))=true then ((ck (0 ≤ (IntKind.i64.wrap ((IntKind.i64.wrap (((Utf8.encode x2).size:Int) - 1))+1))∧(IntKind.i64.wrap ((IntKind.i64.wrap (((Utf8.encode x2).size:Int) - 1))+1)) ≤ s1.size)).bind fun u21=>(idx (Utf8.encode x2).data.toList (IntKind.i64.wrap (((Utf8.encode x2).size:Int) - 1))).bind fun x23=>(mQ (s1.extract (IntKind.i64.wrap ((IntKind.i64.wrap (((Utf8.encode x2).size:Int) - 1))+1)).toNat s1.size) (x23.toNat:Int)).bind fun u25=>if (decide (u25 < 0))=true then (some ((-1))) else none) else none) else (some ((-1)))
def nI (s1:ByteArray) (x2:Int) (b3:Bool):Option Int:=
  if b3=true then ((mQ s1 (IntKind.u8.wrap x2)).bind fun u6=>some (u6)) else (if (x2 == 65533)=true then (nH s1 (s1.size+2) 0) else ((pL x2).bind fun u13=>if (!u13)=true then (some ((-1))) else (rA x2 s1 (((s1.size:Int) - (IntKind.i64.wrap (((Utf8.encode x2).size:Int) - 1)):Int).toNat+1))))
def tO (s1:ByteArray) (x2:Int):Option Int:=
  if (decide (0 ≤ x2))=true then (nI s1 x2 (decide (x2 < 128))) else (nI s1 x2 false)
theorem J5 {w:World} {Fo:List Ob} {rs:List Rp} {s1:ByteArray} {x2:Int} (H:Sep w (Fo) rs) {r:Int} (hm:tO s1 x2=some r) :
    Calls Tryz.prog 290 [.string s1,.int .i32 x2].toArray w (Ret fun v w'=>.int .i64 r=v∧Sep w' (Fo) (rs)):=by
 unfold tO at hm
 refine ent Tryz.func290 rfl Tryz.ntmps290 rfl rfl fun a E=>sq<|pr 1 E rfl fun a E=>nt<|wp_block<|aT (fun a w=>∃ b3 rs4,Env 187 a [(0,.string s1),(1,.int .i32 x2),(160,.bool b3)]∧Sep w (Fo) rs4∧(∀ r,r ∈ rs→r ∈ rs4)∧nI s1 x2 b3=some r) ?_ ?_
 ·refine wp_region_lit<|pr 3 E rfl fun a E=>cs hm (fun hb27 hm=>?_) fun hb27 hm=>?_
  ·exact pk 4 E (kc 163 rfl hb27) rfl fun a E=>nt<|⟨_,_,E.to rfl,H,Y0,hm⟩
  ·exact pk 4 E (kc 163 rfl hb27) rfl fun a E=>nt<|⟨_,_,E.to rfl,H,Y0,hm⟩
 ·clear E H hm
  rintro a w ⟨b3,rs4,E,H,hs5,hm⟩
  unfold nI at hm
  refine wif E hm rfl (fun hm=>?_) fun hm=>?_
  ·refine sq<|pr 3 E rfl fun a E=>bd hm fun u6 hx7 hm=>xk E rfl rfl rfl rfl rfl Gw (tN H hx7) fun w H a E=>pr 1 E rfl fun a E=>nt<|wp_ret<|bV<|aY E rfl rfl<|?_
   cases hm
   exact ⟨rfl,H.reads hs5⟩
  ·refine sq<|pr 3 E rfl fun a E=>nt<|wif E hm rfl (fun hm=>?_) fun hm=>?_
   ·refine wp_seq<|sq<|pr 1 E rfl fun a E=>Bv E H (wn rfl) rfl rfl rfl rfl U9 fun p8 w a H E=>nt<|wp_block<|bX (fun k1 a w=>∃ x9 rs10,Env 187 a [(175,pt p8 0)]∧Sep w (A5 p8 (.stringIter s1 x9)::Fo) rs10∧(∀ r,r ∈ rs→r ∈ rs10)∧nH s1 k1 x9=some r) (s1.size+2) ?_ ?_
    ·exact ⟨_,_,E.to rfl,H,hs5,hm⟩
    ·clear E H hm
     rintro k1 a w ⟨x9,rs10,E,H,hs11,hm⟩
     cases k1 with
     | zero=>exact (bT hm rfl).elim
     | succ k1=>
      unfold nH at hm
      refine sq<|cs hm (fun hb12 hm=>?_) fun hb12 hm=>?_
      ·refine Bw (i:=0) E H (wn rfl) rfl rfl rfl rfl rfl hb12 fun w a H E=>pr 1 E rfl fun a E=>nt<|wp_seq<|wp_cond_true (E.eval rfl)<|wp_skip<|aC<|wp_block<|sq<|?_
       refine pr 4 E rfl fun a E=>nx<|pr 2 E rfl fun a E=>nt<|wif E hm rfl (fun hm=>?_) fun hm=>?_
       ·refine sq<|pr 2 E rfl fun a E=>nt<|wp_ret<|bV<|aP<|bV<|aP<|bV<|?_
        refine aY E rfl rfl<|have H:=H.drop 0;?_
        cases hm
        exact ⟨rfl,H.reads hs11⟩
       ·exact wp_skip<|bY<|aC<|⟨k1,Nat.lt_succ_self k1,_,_,E.to rfl,H,hs11,hm⟩
      ·refine Bx (i:=0) E H (wn rfl) rfl rfl rfl rfl rfl hb12 fun a E=>pr 1 E rfl fun a E=>nt<|wp_seq<|wp_cond_false (E.eval rfl)<|wp_exit<|bH<|bH<|dG<|?_
       refine aC<|sq<|pr 1 E rfl fun a E=>nt<|wp_ret<|bV<|aY E rfl rfl<|have H:=H.drop 0;?_
       cases hm
       exact ⟨rfl,H.reads hs11⟩
   ·refine sq<|pr 1 E rfl fun a E=>bd hm fun u13 hx14 hm=>xk E rfl rfl rfl rfl rfl Ty (q5 H hx14) fun w H a E=>pr 2 E rfl fun a E=>nt<|wif E hm rfl (fun hm=>?_) fun hm=>?_
    ·refine sq<|pr 1 E rfl fun a E=>nt<|wp_ret<|bV<|aY E rfl rfl<|?_
     cases hm
     exact ⟨rfl,H.reads hs5⟩
    ·refine wp_scope_straight<|sq<|pr 1 E rfl fun a E=>sv E rfl rfl rfl (D3 E rfl rfl (v:=.string (Utf8.encode x2)) (by kernel_rfl)) fun a E=>pr 1 E rfl fun a E=>nx<|pr 4 E rfl fun a E=>nx<|pr 2 E rfl fun a E=>?_
     refine nx<|pr 1 E rfl fun a E=>nt<|wp_seq<|wp_block<|bX (fun k2 a w=>∃ rs15,Env 187 a [(0,.string s1),(7,.string (Utf8.encode x2)),(8,.int .i64 (IntKind.i64.wrap (((Utf8.encode x2).size:Int) - 1))),(9,.int .i64 (IntKind.i64.wrap (((Utf8.encode x2).size:Int) - 1))),(10,.int .i64 0)]∧Sep w (Fo) rs15∧(∀ r,r ∈ rs→r ∈ rs15)∧rA x2 s1 k2=some r) (((s1.size:Int) - (IntKind.i64.wrap (((Utf8.encode x2).size:Int) - 1)):Int).toNat+1) ?_ ?_
     ·exact ⟨_,E.to rfl,H,hs5,hm⟩
     ·clear E H hm
      rintro k2 a w ⟨rs15,E,H,hs16,hm⟩
      cases k2 with
      | zero=>exact (bT hm rfl).elim
      | succ k2=>
       unfold rA at hm
       refine wp_seq<|sq<|pr 4 E rfl fun a E=>nt<|wif E hm rfl (fun hm=>?_) fun hm=>?_
       ·refine wp_skip<|aC<|wp_block<|wp_scope_straight<|wp_seq<|wp_seq<|dw [(0,0),(1,0),(2,0),(3,0),(4,0),(5,0),(6,0)] [] [] H (by kernel_rfl) (fun _ _ _ h=>False.elim h.2) fun w W0 hI H=>fn 2 E rfl fun a E=>bd hm fun x17 hx18 hm=>?_
        refine bW E rfl (wn rfl) rfl rfl (fun w hW=>(Dq E rfl rfl rfl U9 hx18)) fun a E=>?_
        refine fn 2 E rfl fun a E=>bd hm fun x19 hx20 hm=>bW E rfl (wn rfl) rfl rfl (fun w hW=>(Dq E rfl rfl rfl U9 hx20)) fun a E=>?_
        refine fn 1 E rfl fun a E=>bR<|?_
        clear hI
        refine aC<|wif E hm rfl (fun hm=>?_) fun hm=>?_
        ·refine wp_seq<|dw [(0,0),(1,0),(2,0),(3,0),(4,0),(5,0),(6,0),(7,1),(8,2)] [] [] H (by kernel_rfl) (fun _ _ _ h=>False.elim h.2) fun w W0 hI H=>fn 3 E rfl fun a E=>bk hm fun hx22 hm=>bW E rfl (wn rfl) rfl rfl (fun w hW=>(D4 E rfl rfl rfl U9 hx22)) fun a E=>?_
         refine fn 2 E rfl fun a E=>bd hm fun x23 hx24 hm=>bW E rfl (wn rfl) rfl rfl (fun w hW=>(Dq E rfl rfl rfl U9 hx24)) fun a E=>?_
         refine bZ rfl<|bd hm fun u25 hx26 hm=>xk E rfl rfl rfl rfl rfl Gw (tN H hx26) fun w H a E=>nt<|?_
         refine ⟨⟨_,_,H,(aL),(aM)⟩,?_⟩
         refine bQ rfl<|pr 1 E rfl fun a E=>nt<|bR<|?_
         clear hI
         refine aC<|wp_seq<|sq<|pr 2 E rfl fun a E=>nt<|wif E hm rfl (fun hm=>?_) fun hm=>?_
         ·refine sq<|pr 1 E rfl fun a E=>nt<|wp_ret<|aP<|aP<|Jz<|bV<|aP<|?_
          refine bV<|aP<|Jz<|bV<|aY E rfl rfl<|?_
          cases hm
          exact ⟨rfl,H.reads hs16⟩
         ·exact (bT hm rfl).elim
        ·exact (bT hm rfl).elim
       ·refine wp_exit<|bH<|bH<|dG<|aC<|wp_seq<|sq<|pr 1 E rfl fun a E=>nt<|?_
        refine wp_ret<|aP<|Jz<|bV<|aY E rfl rfl<|?_
        cases hm
        exact ⟨rfl,H.reads hs16⟩

def rB (s1:ByteArray) (x2:Int):Option Bool:=
  (tO s1 x2).bind fun u3=>some (decide (u3 ≥ 0))
theorem B4 {w:World} {Fo:List Ob} {rs:List Rp} {s1:ByteArray} {x2:Int} (H:Sep w (Fo) rs) {r:Bool} (hm:rB s1 x2=some r) :
    Calls Tryz.prog 241 [.string s1,.int .i32 x2].toArray w (Ret fun v w'=>.bool r=v∧Sep w' (Fo) (rs)):=by
 unfold rB at hm
 refine ent Tryz.func241 rfl Tryz.ntmps241 rfl rfl fun a E=>sq<|pr 1 E rfl fun a E=>nx<|pr 2 E rfl fun a E=>bd hm fun u3 hx4 hm=>xk E rfl rfl rfl rfl rfl Tx (J5 H hx4) fun w H a E=>pr 2 E rfl fun a E=>nt<|?_
 refine wp_ret<|aY E rfl rfl<|?_
 cases hm
 exact ⟨rfl,H.reads Y0⟩

def k3 (x1:Int):Option Bool:=
  (rB (ByteArray.mk #[97,98,99,100,101,102,103,104,105,106,107,108,109,110,111,112,113,114,115,116,117,118,119,120,121,122,48,49,50,51,52,53,54,55,56,57,45]) x1).bind fun u2=>some (!u2)
theorem Cm {w:World} {Fo:List Ob} {rs:List Rp} {x1:Int} (H:Sep w (Fo) rs) {r:Bool} (hm:k3 x1=some r) :
    Calls Tryz.prog 240 [.int .i32 x1].toArray w (Ret fun v w'=>.bool r=v∧Sep w' (Fo) (rs)):=by
 unfold k3 at hm
 refine ent Tryz.func240 rfl Tryz.ntmps240 rfl rfl fun a E=>sq<|pr 1 E rfl fun a E=>nx<|pr 1 E rfl fun a E=>bd hm fun u2 hx3 hm=>xk E rfl rfl rfl rfl rfl Tw (B4 H hx3) fun w H a E=>pr 2 E rfl fun a E=>nt<|?_
 refine wp_ret<|aY E rfl rfl<|?_
 cases hm
 exact ⟨rfl,H.reads Y0⟩

def nJ (s1:ByteArray) (b2:Bool):Nat→(Nat)→Option Int
  | 0,_=>none
  | k1+1,x4=>
    if decide (x4 < s1.size)=true then ((k3 ((Utf8.decode s1 x4).1:Int)).bind fun u8=>if (u8 == b2)=true then (some ((x4:Int))) else (nJ s1 b2 k1 (x4+(Utf8.decode s1 x4).2))) else (some ((-1)))
def tP (s1:ByteArray) (b2:Bool):Option Int:=
  nJ s1 b2 (s1.size+2) 0
theorem J6 {w:World} {Fo:List Ob} {rs:List Rp} {s1:ByteArray} {b2:Bool} (H:Sep w (Fo) rs) {r:Int} (hm:tP s1 b2=some r) :
    Calls Tryz.prog 324 [.string s1,.func (.func 240) #[] #[],.bool b2].toArray w (Ret fun v w'=>.int .i64 r=v∧Sep w' (Fo) (rs)):=by
 unfold tP at hm
 refine ent Tryz.func324 rfl Tryz.ntmps324 rfl rfl fun a E=>sq<|pr 1 E rfl fun a E=>nt<|wp_seq<|sq<|pr 1 E rfl fun a E=>Bv E H (wn rfl) rfl rfl rfl rfl U9 fun p3 w a H E=>nt<|?_
 refine wp_block<|bX (fun k1 a w=>∃ x4 rs5,Env 21 a [(1,.func (.func 240) #[] #[]),(2,.bool b2),(10,pt p3 0)]∧Sep w (A5 p3 (.stringIter s1 x4)::Fo) rs5∧(∀ r,r ∈ rs→r ∈ rs5)∧nJ s1 b2 k1 x4=some r) (s1.size+2) ?_ ?_
 ·exact ⟨_,_,E.to rfl,H,Y0,hm⟩
 ·clear E H hm
  rintro k1 a w ⟨x4,rs5,E,H,hs6,hm⟩
  cases k1 with
  | zero=>exact (bT hm rfl).elim
  | succ k1=>
   unfold nJ at hm
   refine sq<|cs hm (fun hb7 hm=>?_) fun hb7 hm=>?_
   ·refine Bw (i:=0) E H (wn rfl) rfl rfl rfl rfl rfl hb7 fun w a H E=>pr 1 E rfl fun a E=>nt<|wp_seq<|wp_cond_true (E.eval rfl)<|wp_skip<|aC<|wp_block<|sq<|?_
    refine pr 4 E rfl fun a E=>nx<|pr 2 E rfl fun a E=>bd hm fun u8 hx9 hm=>aU E (wn rfl) rfl rfl (bP E rfl rfl rfl (Tv _)) (Cm H hx9)<|?_
    rintro _ w ⟨rfl,H⟩ a E
    refine pr 1 E rfl fun a E=>sv E rfl rfl rfl (sY E rfl rfl rfl (v:=.bool (u8 == b2)) (by kernel_rfl)) fun a E=>nt<|wif E hm rfl (fun hm=>?_) fun hm=>?_
    ·refine sq<|pr 2 E rfl fun a E=>nt<|wp_ret<|bV<|aP<|bV<|aP<|aY E rfl rfl<|?_
     refine have H:=H.drop 0;?_
     cases hm
     exact ⟨rfl,H.reads hs6⟩
    ·exact wp_skip<|bY<|aC<|⟨k1,Nat.lt_succ_self k1,_,_,E.to rfl,H,hs6,hm⟩
   ·refine Bx (i:=0) E H (wn rfl) rfl rfl rfl rfl rfl hb7 fun a E=>pr 1 E rfl fun a E=>nt<|wp_seq<|wp_cond_false (E.eval rfl)<|wp_exit<|bH<|bH<|dG<|?_
    refine aC<|sq<|pr 1 E rfl fun a E=>nt<|wp_ret<|aY E rfl rfl<|have H:=H.drop 0;?_
    cases hm
    exact ⟨rfl,H.reads hs6⟩

def tQ (s1:ByteArray):Option Int:=
  (tP s1 true).bind fun u2=>some (u2)
theorem J7 {w:World} {Fo:List Ob} {rs:List Rp} {s1:ByteArray} (H:Sep w (Fo) rs) {r:Int} (hm:tQ s1=some r) :
    Calls Tryz.prog 289 [.string s1,.func (.func 240) #[] #[]].toArray w (Ret fun v w'=>.int .i64 r=v∧Sep w' (Fo) (rs)):=by
 unfold tQ at hm
 refine ent Tryz.func289 rfl Tryz.ntmps289 rfl rfl fun a E=>sq<|pr 1 E rfl fun a E=>nx<|pr 2 E rfl fun a E=>bd hm fun u2 hx3 hm=>xk E rfl rfl rfl rfl rfl Tu (J6 H hx3) fun w H a E=>pr 1 E rfl fun a E=>nt<|?_
 refine wp_ret<|aY E rfl rfl<|?_
 cases hm
 exact ⟨rfl,H.reads Y0⟩

def rC (s1:ByteArray):Option Bool:=
  (tQ s1).bind fun u2=>some (decide (u2 ≥ 0))
theorem B5 {w:World} {Fo:List Ob} {rs:List Rp} {s1:ByteArray} (H:Sep w (Fo) rs) {r:Bool} (hm:rC s1=some r) :
    Calls Tryz.prog 239 [.string s1,.func (.func 240) #[] #[]].toArray w (Ret fun v w'=>.bool r=v∧Sep w' (Fo) (rs)):=by
 unfold rC at hm
 refine ent Tryz.func239 rfl Tryz.ntmps239 rfl rfl fun a E=>sq<|pr 1 E rfl fun a E=>nx<|pr 2 E rfl fun a E=>bd hm fun u2 hx3 hm=>xk E rfl rfl rfl rfl rfl Tt (J7 H hx3) fun w H a E=>pr 2 E rfl fun a E=>nt<|?_
 refine wp_ret<|aY E rfl rfl<|?_
 cases hm
 exact ⟨rfl,H.reads Y0⟩

def wZ (s1:ByteArray):Option Bool:=
  (rC s1).bind fun u2=>if (!(sEq s1 (ByteArray.mk #[])))=true then (if (decide ((s1.size:Int) ≤ 12))=true then (some (!u2)) else (some (false))) else (some (false))
theorem B6 {w:World} {Fo:List Ob} {rs:List Rp} {s1:ByteArray} (H:Sep w (Fo) rs) {r:Bool} (hm:wZ s1=some r) :
    Calls Tryz.prog 178 [.string s1].toArray w (Ret fun v w'=>.bool r=v∧Sep w' (Fo) (rs)):=by
 unfold wZ at hm
 refine ent Tryz.func178 rfl Tryz.ntmps178 rfl rfl fun a E=>sq<|pr 1 E rfl fun a E=>nx<|pr 1 E rfl fun a E=>bd hm fun u2 hx3 hm=>xk E rfl rfl rfl rfl rfl Ts (B5 H hx3) fun w H a E=>pr 1 E rfl fun a E=>nx<|?_
 refine pr 3 E rfl fun a E=>cs hm (fun hb4 hm=>?_) fun hb4 hm=>?_
 ·refine pk 5 E (kc 8 rfl hb4) rfl fun a E=>cs hm (fun hb5 hm=>?_) fun hb5 hm=>?_
  ·refine pk 4 E (kc 13 rfl hb5) rfl fun a E=>nt<|wp_ret<|aY E rfl rfl<|?_
   cases hm
   exact ⟨rfl,H.reads Y0⟩
  ·refine pk 4 E (kc 13 rfl hb5) rfl fun a E=>nt<|wp_ret<|aY E rfl rfl<|?_
   cases hm
   exact ⟨rfl,H.reads Y0⟩
 ·refine pk 9 E (kc 8 rfl hb4) rfl fun a E=>nt<|wp_ret<|aY E rfl rfl<|?_
  cases hm
  exact ⟨rfl,H.reads Y0⟩

def kX (s1:ByteArray) (s2:ByteArray):Option Bool:=
  if (decide ((s1.size:Int) ≥ (s2.size:Int)))=true then ((ck (0 ≤ (s2.size:Int)∧(s2.size:Int) ≤ s1.size)).bind fun u4=>some (sEq (s1.extract 0 (s2.size:Int).toNat) s2)) else (some (false))
theorem xW {w:World} {Fo:List Ob} {rs:List Rp} {s1 s2:ByteArray} (H:Sep w (Fo) rs) {r:Bool} (hm:kX s1 s2=some r) :
    Calls Tryz.prog 286 [.string s1,.string s2].toArray w (Ret fun v w'=>.bool r=v∧Sep w' (Fo) (rs)):=by
 unfold kX at hm
 refine ent Tryz.func286 rfl Tryz.ntmps286 rfl rfl fun a E=>sq<|pr 1 E rfl fun a E=>nx<|pr 6 E rfl fun a E=>cs hm (fun hb3 hm=>?_) fun hb3 hm=>?_
 ·refine pk 3 E (kc 10 rfl hb3) rfl fun a E=>bk hm fun hx5 hm=>aQ E (ws' (d:=10) E rfl rfl rfl rfl hb3) rfl rfl (K7 E rfl rfl rfl U9 hx5) fun a E=>pk 4 E (kc 10 rfl hb3) rfl fun a E=>nt<|wp_ret<|aY E rfl rfl<|?_
  cases hm
  exact ⟨rfl,H.reads Y0⟩
 ·refine pk 8 E (kc 10 rfl hb3) rfl fun a E=>nt<|wp_ret<|aY E rfl rfl<|?_
  cases hm
  exact ⟨rfl,H.reads Y0⟩

def kY (s1:ByteArray) (s2:ByteArray):Option (ByteArray×Bool):=
  (kX s1 s2).bind fun u3=>if (!u3)=true then (some (s1,false)) else ((ck (0 ≤ (s2.size:Int)∧(s2.size:Int) ≤ s1.size)).bind fun u5=>some (s1.extract (s2.size:Int).toNat s1.size,true))
theorem xX {w:World} {Fo:List Ob} {rs:List Rp} {s1 s2:ByteArray} (H:Sep w (Fo) rs) {r:ByteArray×Bool} (hm:kY s1 s2=some r) :
    Calls Tryz.prog 236 [.string s1,.string s2].toArray w (Ret fun v w'=>.tuple #[.string r.1,.bool r.2]=v∧Sep w' (Fo) (rs)):=by
 unfold kY at hm
 refine ent Tryz.func236 rfl Tryz.ntmps236 rfl rfl fun a E=>sq<|pr 2 E rfl fun a E=>nt<|wp_seq<|sq<|pr 2 E rfl fun a E=>bd hm fun u3 hx4 hm=>xk E rfl rfl rfl rfl rfl Tq (xW H hx4) fun w H a E=>?_
 refine pr 1 E rfl fun a E=>nt<|wif E hm rfl (fun hm=>?_) fun hm=>?_
 ·refine sq<|pr 3 E rfl fun a E=>nt<|wp_ret<|aP<|fX E rfl rfl rfl<|?_
  cases hm
  exact ⟨rfl,H.reads Y0⟩
 ·refine wp_skip<|aC<|sq<|pr 3 E rfl fun a E=>bk hm fun hx6 hm=>sv E rfl rfl rfl (D4 E rfl rfl rfl U9 hx6) fun a E=>pr 2 E rfl fun a E=>nt<|wp_ret<|?_
  refine fX E rfl rfl rfl<|?_
  cases hm
  exact ⟨rfl,H.reads Y0⟩

def pT (s1:ByteArray) (s2:ByteArray):Option (ByteArray×Bool):=
  (kY s1 s2).bind fun u3=>some (u3.1,u3.2)
theorem zJ {w:World} {Fo:List Ob} {rs:List Rp} {s1 s2:ByteArray} (H:Sep w (Fo) rs) {r:ByteArray×Bool} (hm:pT s1 s2=some r) :
    Calls Tryz.prog 172 [.string s1,.string s2].toArray w (Ret fun v w'=>.tuple #[.string r.1,.bool r.2]=v∧Sep w' (Fo) (rs)):=by
 unfold pT at hm
 refine ent Tryz.func172 rfl Tryz.ntmps172 rfl rfl fun a E=>sq<|pr 2 E rfl fun a E=>nx<|pr 2 E rfl fun a E=>bd hm fun u3 hx4 hm=>xk E rfl rfl rfl rfl rfl Tp (xX H hx4) fun w H a E=>pr 4 E rfl fun a E=>nt<|?_
 refine wp_ret<|fX E rfl rfl rfl<|?_
 cases hm
 exact ⟨rfl,H.reads Y0⟩

def qO:Option ((List ByteArray)×Bool):=
  some ([],false)
def uH (rec_1:ByteArray→(List ByteArray)→Option ((List ByteArray)×Bool)) (u9:ByteArray×Bool) (l6:(List ByteArray)) (x14:Int):Option ((List ByteArray)×Bool):=
  (ck (0 ≤ x14∧x14 ≤ u9.1.size)).bind fun u17=>(wZ (u9.1.extract 0 x14.toNat)).bind fun u19=>if (!u19)=true then (qO) else ((ck (0 ≤ x14∧x14 ≤ u9.1.size)).bind fun u21=>(ck (l6.length+([u9.1.extract 0 x14.toNat]:List ByteArray).length ≤ LIM)).bind fun u25=>(ck (0 ≤ x14∧x14 ≤ u9.1.size)).bind fun u27=>rec_1 (u9.1.extract x14.toNat u9.1.size) (l6 ++ ([u9.1.extract 0 x14.toNat]:List ByteArray)))
def nW:Nat→ByteArray→(List ByteArray)→Option ((List ByteArray)×Bool)
  | 0,_,_=>none
  | k1+1,s4,l6=>
    if (!(sEq s4 (ByteArray.mk #[])))=true then ((pT s4 (ByteArray.mk #[47])).bind fun u9=>if (!u9.2)=true then (qO) else (if ((l6.length:Int) == 6)=true then (qO) else ((mQ u9.1 47).bind fun u12=>if (decide (u12 < 0))=true then (uH (nW k1) u9 l6 (u9.1.size:Int)) else (uH (nW k1) u9 l6 u12)))) else (if (decide ((l6.length:Int) > 0))=true then (some (l6,true)) else (some ([],false)))
def yW (s1:ByteArray):Option ((List ByteArray)×Bool):=
  if (sEq s1 (ByteArray.mk #[47]))=true then (some ([],true)) else (nW (s1.size+2) s1 [])
theorem M2 {w:World} {Fo:List Ob} {rs:List Rp} {s1:ByteArray} (H:Sep w (Fo) rs) {r:(List ByteArray)×Bool} (hm:yW s1=some r) :
    Calls Tryz.prog 107 [.string s1].toArray w (Ret fun v w'=>∃ y1,.tuple #[y1,.bool r.2]=v∧Sep w' (Row 9 kS y1 r.1::Fo) (rs)):=by
 unfold yW at hm
 refine ent Tryz.func107 rfl Tryz.ntmps107 rfl rfl fun a E=>sq<|pr 2 E rfl fun a E=>nt<|?_
 refine wp_scope_jumps 0 (fun a w=>∃ rs2,Env 48 a []∧Sep w (Fo) rs2∧(∀ r,r ∈ rs→r ∈ rs2)∧qO=some r) (fun _ _=>0) rfl ?_ ?_
 ·refine sq<|pr 1 E rfl fun a E=>nt<|wp_seq<|sq<|pr 2 E rfl fun a E=>nt<|wif E hm rfl (fun hm=>?_) fun hm=>?_
  ·refine sq<|pr 2 E rfl fun a E=>nt<|wp_ret<|aP<|N9<|fX E rfl rfl rfl<|have H:=H.nilRow 9 kS;?_
   cases hm
   exact ⟨_,rfl,H.reads Y0⟩
  ·refine wp_skip<|aC<|wp_seq<|wp_block<|bX (fun k1 a w=>∃ v5 s4 l6 rs7,Env 48 a [(0,.string s4),(4,v5)]∧Sep w (Row 9 kS v5 l6::Fo) rs7∧(∀ r,r ∈ rs→r ∈ rs7)∧nW k1 s4 l6=some r) (s1.size+2) ?_ ?_
   ·exact have H:=H.nilRow 9 kS;X4 ⟨E.to rfl,H,Y0,hm⟩
   ·clear E H hm
    rintro k1 a w ⟨v5,s4,l6,rs7,E,H,hs8,hm⟩
    cases k1 with
    | zero=>exact (bT hm rfl).elim
    | succ k1=>
     unfold nW at hm
     refine wp_seq<|sq<|pr 2 E rfl fun a E=>nt<|wif E hm rfl (fun hm=>?_) fun hm=>?_
     ·refine wp_skip<|aC<|wp_block<|sq<|pr 1 E rfl fun a E=>bd hm fun u9 hx10 hm=>xk E rfl rfl rfl rfl rfl Lm (zJ H hx10) fun w H a E=>pr 5 E rfl fun a E=>nt<|?_
      refine wp_seq<|sq<|pr 3 E rfl fun a E=>cs hm (fun hb11 hm=>?_) fun hb11 hm=>?_
      ·refine pk 4 E (kc 19 rfl hb11) rfl fun a E=>nt<|wp_cond_true (E.eval rfl)<|wp_goto<|vK<|D2<|vK<|D2<|vK<|?_
       exact Do<|have H:=H.drop 0;⟨_,E.nil,H,hs8,hm⟩
      ·refine pk 1 E (kc 19 rfl hb11) rfl fun a E=>aQ E (ws' (d:=19) E rfl rfl rfl rfl hb11) rfl rfl (iZ (i:=0) E H rfl rfl rfl U33) fun a E=>pk 2 E (kc 19 rfl hb11) rfl fun a E=>nt<|wif E hm rfl (fun hm=>?_) fun hm=>?_
       ·exact wp_goto<|vK<|D2<|vK<|D2<|vK<|Do<|have H:=H.drop 0;⟨_,E.nil,H,hs8,hm⟩
       ·refine wp_skip<|aC<|sq<|pr 1 E rfl fun a E=>bd hm fun u12 hx13 hm=>xk E rfl rfl rfl rfl rfl Gw (tN H hx13) fun w H a E=>pr 1 E rfl fun a E=>nt<|aT (fun a w=>∃ x14 rs15,Env 48 a [(4,v5),(5,.string u9.1),(7,.int .i64 x14)]∧Sep w (Row 9 kS v5 l6::Fo) rs15∧(∀ r,r ∈ rs→r ∈ rs15)∧uH (nW k1) u9 l6 x14=some r) ?_ ?_
        ·refine sq<|pr 2 E rfl fun a E=>nt<|wif E hm rfl (fun hm=>?_) fun hm=>?_
         ·exact wp_region_lit<|pr 3 E rfl fun a E=>nt<|⟨_,_,E.to rfl,H,hs8,hm⟩
         ·exact wp_skip<|aC<|⟨_,_,E.to rfl,H,hs8,hm⟩
        ·clear E H hm
         rintro a w ⟨x14,rs15,E,H,hs16,hm⟩
         unfold uH at hm
         refine wp_seq<|sq<|pr 2 E rfl fun a E=>bk hm fun hx18 hm=>sv E rfl rfl rfl (K7 E rfl rfl rfl U9 hx18) fun a E=>bd hm fun u19 hx20 hm=>xk E rfl rfl rfl rfl rfl Gx (B6 H hx20) fun w H a E=>pr 1 E rfl fun a E=>nt<|wif E hm rfl (fun hm=>?_) fun hm=>?_
         ·exact wp_goto<|vK<|D2<|vK<|D2<|vK<|Do<|have H:=H.drop 0;⟨_,E.nil,H,hs16,hm⟩
         ·refine wp_skip<|aC<|sq<|pr 3 E rfl fun a E=>bk hm fun hx22 hm=>sv E rfl rfl rfl (K7 E rfl rfl rfl U9 hx22) fun a E=>pI (e:=9) (d:=kS) (cs:=[.string (u9.1.extract 0 x14.toNat)]) (xs:=[u9.1.extract 0 x14.toNat]) E H (wn rfl) rfl rfl rfl (E.evs rfl) (by kernel_rfl) rfl (fun ok hr=>(Rows.single (d:=kS) (cs:=[.string (u9.1.extract 0 x14.toNat)]) (x:=u9.1.extract 0 x14.toNat) rfl)) fun v23 w a H E=>bk hm fun hx26 hm=>dV (i:=0) E H (wn rfl) rfl rfl rfl rfl rfl rfl (jA m0) U33 Gy rfl hx26 rfl fun v24 w a H E=>?_
          refine pr 1 E rfl fun a E=>nt<|wp_region_lit<|pr 2 E rfl fun a E=>bk hm fun hx28 hm=>sv E rfl rfl rfl (D4 E rfl rfl rfl U9 hx28) fun a E=>pr 1 E rfl fun a E=>wpList_nil<|bY<|?_
          exact aC<|⟨k1,Nat.lt_succ_self k1,X4 ⟨E.to rfl,H,(Y1 hs16),hm⟩⟩
     ·refine wp_exit<|bH<|bH<|dG<|aC<|wp_seq<|sq<|pr 1 E rfl fun a E=>sv E rfl rfl rfl (iZ (i:=0) E H rfl rfl rfl U33) fun a E=>?_
      refine pr 1 E rfl fun a E=>nt<|wif E hm rfl (fun hm=>?_) fun hm=>?_
      ·refine sq<|pr 3 E rfl fun a E=>nt<|wp_ret<|aP<|N9<|fX E rfl rfl rfl<|?_
       cases hm
       exact ⟨_,rfl,H.reads hs8⟩
      ·refine wp_skip<|aC<|wp_seq<|wp_label<|aC<|sq<|pr 2 E rfl fun a E=>nt<|wp_ret<|?_
       refine N9<|fX E rfl rfl rfl<|have H:=H.nilRow 9 kS;have H:=H.drop 1;?_
       cases hm
       exact ⟨_,rfl,H.reads hs8⟩
 ·clear E H hm
  rintro a w ⟨rs2,E,H,hs3,hm⟩
  unfold qO at hm
  refine wp_seq<|wp_skip<|aC<|sq<|pr 2 E rfl fun a E=>nt<|wp_ret<|N9<|fX E rfl rfl rfl<|?_
  refine have H:=H.nilRow 9 kS;?_
  cases hm
  exact ⟨_,rfl,H.reads hs3⟩

def fA (s1:ByteArray):Option Bool:=
  (yW s1).bind fun u2=>some (u2.2)
theorem gC {w:World} {Fo:List Ob} {rs:List Rp} {s1:ByteArray} (H:Sep w (Fo) rs) {r:Bool} (hm:fA s1=some r) :
    Calls Tryz.prog 51 [.string s1].toArray w (Ret fun v w'=>.bool r=v∧Sep w' (Fo) (rs)):=by
 unfold fA at hm
 refine ent Tryz.func51 rfl Tryz.ntmps51 rfl rfl fun a E=>sq<|pr 1 E rfl fun a E=>nx<|pr 1 E rfl fun a E=>bd hm fun u2 hx3 hm=>cG E rfl rfl rfl rfl rfl Ll (M2 H hx3)<|?_
 rintro _ w ⟨v4,rfl,H⟩ a E
 refine pr 5 E rfl fun a E=>nx<|pr 2 E rfl fun a E=>nt<|wp_ret<|aY E rfl rfl<|have H:=H.drop 0;?_
 cases hm
 exact ⟨rfl,H.reads Y0⟩

def vN (x1:dU) (x18:Int) (b21:Bool):Option Bool:=
  if b21=true then (I9.bind fun u25=>(idx ([0,13,2,19,18,16,16,20]:List Int) x1.Kind).bind fun x27=>if ((Ax .i64 x18 x27) == 0)=true then (if (x1.Kind != 7)=true then (some (true)) else (some (decide (x1.Owner > 0)))) else (some (false))) else (some (false))
def vO (x1:dU) (x18:Int):Option Bool:=
  if (decide (x1.Version ≥ (-1)))=true then (vN x1 x18 (decide (x1.Version ≤ 281474976710656))) else (vN x1 x18 false)
def vP (x1:dU) (x15:Int):Option Bool:=
  if (sEq x1.Path (ByteArray.mk #[47]))=true then (vO x1 (ior .i64 x15 16)) else (vO x1 x15)
def vQ (x1:dU) (x12:Int):Option Bool:=
  if x1.Turns=true then (vP x1 (ior .i64 x12 8)) else (vP x1 x12)
def vR (x1:dU) (x9:Int):Option Bool:=
  if (x1.Owner != 0)=true then (vQ x1 (ior .i64 x9 4)) else (vQ x1 x9)
def vS (x1:dU) (x6:Int):Option Bool:=
  if (x1.Version != 0)=true then (vR x1 (ior .i64 x6 2)) else (vR x1 x6)
def nA (x1:dU) (b3:Bool):Option Bool:=
  if b3=true then (some (false)) else (if (!(sEq x1.Data (ByteArray.mk #[])))=true then (vS x1 (ior .i64 0 1)) else (vS x1 0))
def f2 (x1:dU):Option Bool:=
  if (decide (x1.Kind < 1))=true then (nA x1 true) else (if (decide (x1.Kind > 7))=true then (nA x1 true) else ((fA x1.Path).bind fun u34=>if (!u34)=true then (nA x1 true) else (if (decide ((x1.Data.size:Int) > 256))=true then (nA x1 true) else ((zV x1.Owner 1099511627776).bind fun u38=>nA x1 (!u38)))))
theorem S1 {w:World} {Fo:List Ob} {rs:List Rp} {x1:dU} (H:Sep w (Fo) rs) {r:Bool} (hm:f2 x1=some r) :
    Calls Tryz.prog 99 [.agg (mY x1).toArray].toArray w (Ret fun v w'=>.bool r=v∧Sep w' (Fo) (rs)):=by
 unfold f2 at hm
 refine ent Tryz.func99 rfl Tryz.ntmps99 rfl rfl fun a E=>sq<|bS E H (wn rfl) rfl rfl rfl rfl rfl fun p2 w a H E=>pr 1 E rfl fun a E=>nt<|wp_seq<|aT (fun a w=>∃ b3 rs4,Env 83 a [(1,pt p2 0),(30,.bool b3)]∧Sep w (Blk p2 60 (mY x1)::Fo) rs4∧(∀ r,r ∈ rs→r ∈ rs4)∧nA x1 b3=some r) ?_ ?_
 ·refine wp_region_lit<|pr 1 E rfl fun a E=>lb E H 0 rfl rfl rfl rfl rfl rfl rfl U3 rfl fun a E=>pr 2 E rfl fun a E=>cs hm (fun hb32 hm=>?_) fun hb32 hm=>?_
  ·exact pk 22 E (kc 8 rfl hb32) rfl fun a E=>nt<|⟨_,_,E.to rfl,H,Y0,hm⟩
  ·refine pk 1 E (kc 8 rfl hb32) rfl fun a E=>aQ E (ws' (d:=8) E rfl rfl rfl rfl hb32) rfl rfl (cD (i:=0) E H rfl rfl rfl rfl U3 rfl) fun a E=>pk 3 E (kc 8 rfl hb32) rfl fun a E=>cs hm (fun hb33 hm=>?_) fun hb33 hm=>?_
   ·exact pk 17 E (kc 13 rfl hb33) rfl fun a E=>nt<|⟨_,_,E.to rfl,H,Y0,hm⟩
   ·refine pk 1 E (kc 13 rfl hb33) rfl fun a E=>aQ E (ws' (d:=13) E rfl rfl rfl rfl hb33) rfl rfl (cD (i:=0) E H rfl rfl rfl rfl U9 rfl) fun a E=>bd hm fun u34 hx35 hm=>aU E (ws' (d:=13) E rfl rfl rfl rfl hb33) rfl rfl (cC E rfl rfl (yU _)) (gC H hx35)<|?_
    rintro _ w ⟨rfl,H⟩ a E
    refine pk 3 E (kc 13 rfl hb33) rfl fun a E=>cs hm (fun hb36 hm=>?_) fun hb36 hm=>?_
    ·exact pk 11 E (kc 19 rfl hb36) rfl fun a E=>nt<|⟨_,_,E.to rfl,H,Y0,hm⟩
    ·refine pk 1 E (kc 19 rfl hb36) rfl fun a E=>aQ E (ws' (d:=19) E rfl rfl rfl rfl hb36) rfl rfl (cD (i:=0) E H rfl rfl rfl rfl U9 rfl) fun a E=>pk 4 E (kc 19 rfl hb36) rfl fun a E=>cs hm (fun hb37 hm=>?_) fun hb37 hm=>?_
     ·exact pk 5 E (kc 25 rfl hb37) rfl fun a E=>nt<|⟨_,_,E.to rfl,H,Y0,hm⟩
     ·refine pk 1 E (kc 25 rfl hb37) rfl fun a E=>aQ E (ws' (d:=25) E rfl rfl rfl rfl hb37) rfl rfl (cD (i:=0) E H rfl rfl rfl rfl U2 rfl) fun a E=>bd hm fun u38 hx39 hm=>aU E (ws' (d:=25) E rfl rfl rfl rfl hb37) rfl rfl (cC E rfl rfl (Ub _)) (Bj H hx39)<|?_
      rintro _ w ⟨rfl,H⟩ a E
      exact pk 2 E (kc 25 rfl hb37) rfl fun a E=>nt<|⟨_,_,E.to rfl,H,Y0,hm⟩
 ·clear E H hm
  rintro a w ⟨b3,rs4,E,H,hs5,hm⟩
  unfold nA at hm
  refine wif E hm rfl (fun hm=>?_) fun hm=>?_
  ·refine sq<|pr 1 E rfl fun a E=>nt<|wp_ret<|aP<|aY E rfl rfl<|have H:=H.drop 0;?_
   cases hm
   exact ⟨rfl,H.reads hs5⟩
  ·refine wp_skip<|aC<|sq<|pr 1 E rfl fun a E=>nt<|aT (fun a w=>∃ x6 rs7,Env 83 a [(1,pt p2 0),(3,.int .i64 x6)]∧Sep w (Blk p2 60 (mY x1)::Fo) rs7∧(∀ r,r ∈ rs→r ∈ rs7)∧vS x1 x6=some r) ?_ ?_
   ·refine sq<|pr 1 E rfl fun a E=>lb E H 0 rfl rfl rfl rfl rfl rfl rfl U9 rfl fun a E=>pr 1 E rfl fun a E=>nt<|wif E hm rfl (fun hm=>?_) fun hm=>?_
    ·exact wp_region_lit<|pr 3 E rfl fun a E=>nt<|⟨_,_,E.to rfl,H,hs5,hm⟩
    ·exact wp_skip<|aC<|⟨_,_,E.to rfl,H,hs5,hm⟩
   ·clear E H hm
    rintro a w ⟨x6,rs7,E,H,hs8,hm⟩
    unfold vS at hm
    refine aT (fun a w=>∃ x9 rs10,Env 83 a [(1,pt p2 0),(3,.int .i64 x9)]∧Sep w (Blk p2 60 (mY x1)::Fo) rs10∧(∀ r,r ∈ rs→r ∈ rs10)∧vR x1 x9=some r) ?_ ?_
    ·refine sq<|pr 1 E rfl fun a E=>lb E H 0 rfl rfl rfl rfl rfl rfl rfl U2 rfl fun a E=>pr 1 E rfl fun a E=>nt<|wif E hm rfl (fun hm=>?_) fun hm=>?_
     ·exact wp_region_lit<|pr 3 E rfl fun a E=>nt<|⟨_,_,E.to rfl,H,hs8,hm⟩
     ·exact wp_skip<|aC<|⟨_,_,E.to rfl,H,hs8,hm⟩
    ·clear E H hm
     rintro a w ⟨x9,rs10,E,H,hs11,hm⟩
     unfold vR at hm
     refine aT (fun a w=>∃ x12 rs13,Env 83 a [(1,pt p2 0),(3,.int .i64 x12)]∧Sep w (Blk p2 60 (mY x1)::Fo) rs13∧(∀ r,r ∈ rs→r ∈ rs13)∧vQ x1 x12=some r) ?_ ?_
     ·refine sq<|pr 1 E rfl fun a E=>lb E H 0 rfl rfl rfl rfl rfl rfl rfl U2 rfl fun a E=>pr 1 E rfl fun a E=>nt<|wif E hm rfl (fun hm=>?_) fun hm=>?_
      ·exact wp_region_lit<|pr 3 E rfl fun a E=>nt<|⟨_,_,E.to rfl,H,hs11,hm⟩
      ·exact wp_skip<|aC<|⟨_,_,E.to rfl,H,hs11,hm⟩
     ·clear E H hm
      rintro a w ⟨x12,rs13,E,H,hs14,hm⟩
      unfold vQ at hm
      refine aT (fun a w=>∃ x15 rs16,Env 83 a [(1,pt p2 0),(3,.int .i64 x15)]∧Sep w (Blk p2 60 (mY x1)::Fo) rs16∧(∀ r,r ∈ rs→r ∈ rs16)∧vP x1 x15=some r) ?_ ?_
      ·refine sq<|pr 1 E rfl fun a E=>lb E H 0 rfl rfl rfl rfl rfl rfl rfl U4 rfl fun a E=>nt<|wif E hm rfl (fun hm=>?_) fun hm=>?_
       ·exact wp_region_lit<|pr 3 E rfl fun a E=>nt<|⟨_,_,E.to rfl,H,hs14,hm⟩
       ·exact wp_skip<|aC<|⟨_,_,E.to rfl,H,hs14,hm⟩
      ·clear E H hm
       rintro a w ⟨x15,rs16,E,H,hs17,hm⟩
       unfold vP at hm
       refine aT (fun a w=>∃ x18 rs19,Env 83 a [(1,pt p2 0),(3,.int .i64 x18)]∧Sep w (Blk p2 60 (mY x1)::Fo) rs19∧(∀ r,r ∈ rs→r ∈ rs19)∧vO x1 x18=some r) ?_ ?_
       ·refine sq<|pr 1 E rfl fun a E=>lb E H 0 rfl rfl rfl rfl rfl rfl rfl U9 rfl fun a E=>pr 1 E rfl fun a E=>nt<|wif E hm rfl (fun hm=>?_) fun hm=>?_
        ·exact wp_region_lit<|pr 3 E rfl fun a E=>nt<|⟨_,_,E.to rfl,H,hs17,hm⟩
        ·exact wp_skip<|aC<|⟨_,_,E.to rfl,H,hs17,hm⟩
       ·clear E H hm
        rintro a w ⟨x18,rs19,E,H,hs20,hm⟩
        unfold vO at hm
        refine aT (fun a w=>∃ b21 rs22,Env 83 a [(1,pt p2 0),(3,.int .i64 x18),(4,.bool b21)]∧Sep w (Blk p2 60 (mY x1)::Fo) rs22∧(∀ r,r ∈ rs→r ∈ rs22)∧vN x1 x18 b21=some r) ?_ ?_
        ·refine wp_region_lit<|pr 1 E rfl fun a E=>lb E H 0 rfl rfl rfl rfl rfl rfl rfl U2 rfl fun a E=>pr 2 E rfl fun a E=>cs hm (fun hb31 hm=>?_) fun hb31 hm=>?_
         ·exact pk 1 E (kc 58 rfl hb31) rfl fun a E=>aQ E (ws' (d:=58) E rfl rfl rfl rfl hb31) rfl rfl (cD (i:=0) E H rfl rfl rfl rfl U2 rfl) fun a E=>pk 3 E (kc 58 rfl hb31) rfl fun a E=>nt<|⟨_,_,E.to rfl,H,hs20,hm⟩
         ·exact pk 5 E (kc 58 rfl hb31) rfl fun a E=>nt<|⟨_,_,E.to rfl,H,hs20,hm⟩
        ·clear E H hm
         rintro a w ⟨b21,rs22,E,H,hs23,hm⟩
         unfold vN at hm
         refine wp_seq<|dw [(0,0),(1,0),(2,0),(4,0),(5,0),(3,1),(6,0),(7,0),(8,0),(9,0),(10,0),(11,0),(12,0),(13,0),(14,0),(15,0),(16,0),(17,0),(18,0),(19,0),(20,2)] [0] [] H (by kernel_rfl) (fun _ _ _ h=>False.elim h.2) fun w W0 hI H=>fn 2 E rfl fun a E=>cs hm (fun hb24 hm=>?_) fun hb24 hm=>?_
         ·refine fk 2 E (kc 64 rfl hb24) rfl fun a E=>fb E rfl (ws' (d:=64) E rfl rfl rfl rfl hb24) rfl rfl rfl rfl m0 rfl U3 rfl fun a E=>bZ rfl<|bd hm fun u25 hx26 hm=>aU E (ws' (d:=64) E rfl rfl rfl rfl hb24) rfl rfl (cC E rfl rfl (Uc _)) (Ck H hx26)<|?_
          rintro _ w ⟨rfl,H⟩ a E
          refine nt<|?_
          refine ⟨⟨_,_,H,(aB m0 (aL)),(aM)⟩,?_⟩
          refine bd hm fun x27 hx28 hm=>bW E rfl (ws' (d:=64) E rfl rfl rfl rfl hb24) rfl rfl (fun w hW=>(Mq (vs:=[.int .i64 0,.int .i64 13,.int .i64 2,.int .i64 19,.int .i64 18,.int .i64 16,.int .i64 16,.int .i64 20]) E rfl rfl rfl Qa rfl sz3 U3 rfl (Mr (Value.int .i64) (xs:=([0,13,2,19,18,16,16,20]:List Int)) hx28))) fun a E=>?_
          refine fk 4 E (kc 64 rfl hb24) rfl fun a E=>cs hm (fun hb29 hm=>?_) fun hb29 hm=>?_
          ·refine fk 1 E (kc 73 rfl hb29) rfl fun a E=>fb E rfl (ws' (d:=73) E rfl rfl rfl rfl hb29) rfl rfl rfl rfl m0 rfl U3 rfl fun a E=>fk 2 E (kc 73 rfl hb29) rfl fun a E=>cs hm (fun hb30 hm=>?_) fun hb30 hm=>?_
           ·refine fk 5 E (kc' (kc 77 rfl hb30) 73 rfl hb29) rfl fun a E=>bQ rfl<|pr 1 E rfl fun a E=>nt<|bR<|?_
            clear hI
            refine aC<|wp_ret<|aY E rfl rfl<|have H:=H.drop 0;?_
            cases hm
            exact ⟨rfl,H.reads hs23⟩
           ·refine fk 1 E (kc 77 rfl hb30) rfl fun a E=>fb E rfl (ws' (d:=77) E rfl rfl rfl rfl hb30) rfl rfl rfl rfl m0 rfl U2 rfl fun a E=>fk 3 E (kc' (kc 77 rfl hb30) 73 rfl hb29) rfl fun a E=>bQ rfl<|pr 1 E rfl fun a E=>nt<|bR<|?_
            clear hI
            refine aC<|wp_ret<|aY E rfl rfl<|have H:=H.drop 0;?_
            cases hm
            exact ⟨rfl,H.reads hs23⟩
          ·refine fk 9 E (kc 73 rfl hb29) rfl fun a E=>bQ rfl<|pr 1 E rfl fun a E=>nt<|bR<|?_
           clear hI
           refine aC<|wp_ret<|aY E rfl rfl<|have H:=H.drop 0;?_
           cases hm
           exact ⟨rfl,H.reads hs23⟩
         ·refine fk 3 E (kc 64 rfl hb24) rfl fun a E=>bZ rfl<|pk 1 E (kc 64 rfl hb24) rfl fun a E=>nt<|?_
          refine ⟨⟨_,_,H,(aB m0 (aL)),(aM)⟩,?_⟩
          refine fk 14 E (kc 64 rfl hb24) rfl fun a E=>bQ rfl<|pr 1 E rfl fun a E=>nt<|bR<|?_
          clear hI
          refine aC<|wp_ret<|aY E rfl rfl<|have H:=H.drop 0;?_
          cases hm
          exact ⟨rfl,H.reads hs23⟩

def k4 (x1:dU):Option Bool:=
  (f2 x1).bind fun u3=>some (!u3)
theorem Cn {w:World} {Fo:List Ob} {rs:List Rp} {x1:dU} (H:Sep w (Fo) rs) {r:Bool} (hm:k4 x1=some r) :
    Calls Tryz.prog 98 [.agg (mY x1).toArray].toArray w (Ret fun v w'=>.bool r=v∧Sep w' (Fo) (rs)):=by
 unfold k4 at hm
 refine ent Tryz.func98 rfl Tryz.ntmps98 rfl rfl fun a E=>sq<|bS E H (wn rfl) rfl rfl rfl rfl rfl fun p2 w a H E=>pr 1 E rfl fun a E=>nx<|sv E rfl rfl rfl (cA (i:=0) (us:=(mY x1)) E H rfl rfl rfl rfl U60 rfl L4) fun a E=>bd hm fun u3 hx4 hm=>xk E rfl rfl rfl rfl rfl Pt (S1 H hx4) fun w H a E=>pr 2 E rfl fun a E=>?_
 refine nt<|wp_ret<|aY E rfl rfl<|have H:=H.drop 0;?_
 cases hm
 exact ⟨rfl,H.reads Y0⟩

def gH (l2:List dU):Nat→Int→Option Int
  | 0,_=>none
  | k1+1,x4=>
    if (decide (x4 < (l2.length:Int)))=true then ((idx l2 x4).bind fun x7=>(k4 x7).bind fun u10=>if u10=true then (some (x4)) else (gH l2 k1 (IntKind.i64.wrap (x4+1)))) else (some ((-1)))
def kZ (l2:List dU):Option Int:=
  gH l2 (((l2.length:Int) - 0:Int).toNat+1) 0
theorem xY {w:World} {Fo:List Ob} {rs:List Rp} {v1:Value} {l2:List dU} (H:Sep w (Fo) rs) (hr3:rSl xT v1 l2 ∈ rs) {r:Int} (hm:kZ l2=some r) :
    Calls Tryz.prog 174 [v1,.func (.func 98) #[] #[]].toArray w (Ret fun v w'=>.int .i64 r=v∧Sep w' (Fo) (rs)):=by
 unfold kZ at hm
 refine ent Tryz.func174 rfl Tryz.ntmps174 rfl rfl fun a E=>sq<|pr 1 E rfl fun a E=>nt<|wp_seq<|sq<|pr 1 E rfl fun a E=>sv E rfl rfl rfl (cR E H rfl rfl hr3 U58) fun a E=>pr 1 E rfl fun a E=>?_
 refine nt<|wp_block<|bX (fun k1 a w=>∃ x4 rs5,Env 19 a [(0,v1),(1,.func (.func 98) #[] #[]),(7,.int .i64 (l2.length:Int)),(8,.int .i64 x4)]∧Sep w (Fo) rs5∧(∀ r,r ∈ rs→r ∈ rs5)∧gH l2 k1 x4=some r) (((l2.length:Int) - 0:Int).toNat+1) ?_ ?_
 ·exact ⟨_,_,E.to rfl,H,Y0,hm⟩
 ·clear E H hm
  rintro k1 a w ⟨x4,rs5,E,H,hs6,hm⟩
  cases k1 with
  | zero=>exact (bT hm rfl).elim
  | succ k1=>
   unfold gH at hm
   refine sq<|pr 1 E rfl fun a E=>nt<|wp_seq<|wif E hm rfl (fun hm=>?_) fun hm=>?_
   ·refine wp_skip<|aC<|wp_seq<|wp_block<|sq<|pr 2 E rfl fun a E=>nx<|pr 3 E rfl fun a E=>bd hm fun x7 hx8 hm=>?_
    refine dE E H (wn rfl) rfl rfl rfl rfl rfl (hs6 _ hr3) U58 L4 hx8 fun q9 a H E=>ldf I8 E H rfl rfl rfl rfl rfl m0 U60 rfl L4 fun a E=>bd hm fun u10 hx11 hm=>aU E (wn rfl) rfl rfl (bP E rfl rfl rfl (Xu _)) (Cn H hx11)<|?_
    rintro _ w ⟨rfl,H⟩ a E
    refine nt<|wif E hm rfl (fun hm=>?_) fun hm=>?_
    ·refine sq<|pr 2 E rfl fun a E=>nt<|wp_ret<|bV<|aP<|aP<|bV<|aP<|?_
     refine aY E rfl rfl<|?_
     cases hm
     exact ⟨rfl,H.reads (Y1 hs6)⟩
    ·exact wp_skip<|bY<|aC<|wp_region_lit<|pr 2 E rfl fun a E=>nt<|⟨k1,Nat.lt_succ_self k1,_,_,E.to rfl,H,(Y1 hs6),hm⟩
   ·refine wp_exit<|bH<|bH<|dG<|aC<|sq<|pr 1 E rfl fun a E=>nt<|wp_ret<|?_
    refine aY E rfl rfl<|?_
    cases hm
    exact ⟨rfl,H.reads hs6⟩

def jO (l2:List dU):Option Bool:=
  (kZ l2).bind fun u4=>some (decide (u4 ≥ 0))
theorem vT {w:World} {Fo:List Ob} {rs:List Rp} {v1:Value} {l2:List dU} (H:Sep w (Fo) rs) (hr3:rSl xT v1 l2 ∈ rs) {r:Bool} (hm:jO l2=some r) :
    Calls Tryz.prog 97 [v1,.func (.func 98) #[] #[]].toArray w (Ret fun v w'=>.bool r=v∧Sep w' (Fo) (rs)):=by
 unfold jO at hm
 refine ent Tryz.func97 rfl Tryz.ntmps97 rfl rfl fun a E=>sq<|pr 1 E rfl fun a E=>nx<|pr 2 E rfl fun a E=>bd hm fun u4 hx5 hm=>xk E rfl rfl rfl rfl rfl Ua (xY H hr3 hx5) fun w H a E=>pr 2 E rfl fun a E=>nt<|?_
 refine wp_ret<|aY E rfl rfl<|?_
 cases hm
 exact ⟨rfl,H.reads Y0⟩

def B7 (l2:List dU):Option Bool:=
  (jO l2).bind fun u4=>if (decide ((l2.length:Int) > 0))=true then (if (decide ((l2.length:Int) ≤ 8))=true then (some (!u4)) else (some (false))) else (some (false))
theorem Fs {w:World} {Fo:List Ob} {rs:List Rp} {v1:Value} {l2:List dU} (H:Sep w (Fo) rs) (hr3:rSl xT v1 l2 ∈ rs) {r:Bool} (hm:B7 l2=some r) :
    Calls Tryz.prog 42 [v1].toArray w (Ret fun v w'=>.bool r=v∧Sep w' (Fo) (rs)):=by
 unfold B7 at hm
 refine ent Tryz.func42 rfl Tryz.ntmps42 rfl rfl fun a E=>sq<|pr 1 E rfl fun a E=>nx<|pr 1 E rfl fun a E=>bd hm fun u4 hx5 hm=>xk E rfl rfl rfl rfl rfl Xt (vT H hr3 hx5) fun w H a E=>pr 1 E rfl fun a E=>nx<|?_
 refine pr 1 E rfl fun a E=>sv E rfl rfl rfl (cR E H rfl rfl hr3 U58) fun a E=>pr 2 E rfl fun a E=>cs hm (fun hb6 hm=>?_) fun hb6 hm=>?_
 ·refine pk 1 E (kc 9 rfl hb6) rfl fun a E=>aQ E (ws' (d:=9) E rfl rfl rfl rfl hb6) rfl rfl (cR E H rfl rfl hr3 U58) fun a E=>pk 3 E (kc 9 rfl hb6) rfl fun a E=>cs hm (fun hb7 hm=>?_) fun hb7 hm=>?_
  ·refine pk 4 E (kc 14 rfl hb7) rfl fun a E=>nt<|wp_ret<|aY E rfl rfl<|?_
   cases hm
   exact ⟨rfl,H.reads Y0⟩
  ·refine pk 4 E (kc 14 rfl hb7) rfl fun a E=>nt<|wp_ret<|aY E rfl rfl<|?_
   cases hm
   exact ⟨rfl,H.reads Y0⟩
 ·refine pk 9 E (kc 9 rfl hb6) rfl fun a E=>nt<|wp_ret<|aY E rfl rfl<|?_
  cases hm
  exact ⟨rfl,H.reads Y0⟩

def nK (l2:List bJ) (l5:List bJ):Option (List bJ):=
  (ck (l5.length+l2.length ≤ LIM)).bind fun u8=>some (l5 ++ l2)
theorem rD {w:World} {Fo:List Ob} {rs:List Rp} {v1 v4:Value} {l2 l5:List bJ} {p3:Nat} (H:Sep w (Blk p3 99 [v4]::Row 85 cO v4 l5::Fo) rs) (hr6:rSl cO v1 l2 ∈ rs) {r:(List bJ)} (hm:nK l2 l5=some r) :
    Calls Tryz.prog 100 [v1,pt p3 0].toArray w (Ret fun v w'=>∃ y1,.tuple #[]=v∧Sep w' (Blk p3 99 [y1]::Row 85 cO y1 r::Fo) (rs)):=by
 unfold nK at hm
 refine ent Tryz.func100 rfl Tryz.ntmps100 rfl rfl fun a E=>wp_region_lit<|lb E H 0 rfl rfl rfl rfl rfl rfl rfl U99 rfl fun a E=>pr 1 E rfl fun a E=>bk hm fun hx9 hm=>dV (i:=1) E H (wn rfl) rfl rfl rfl rfl rfl rfl (jA hr6) U99 Ui rfl hx9 rfl fun v7 w a H E=>?_
 obtain ⟨q10,x11,rfl⟩:=H.rowform (i:=1) rfl
 refine aZ (i:=0) E H (wn rfl) rfl rfl rfl rfl rfl rfl Xy rfl rfl fun w H=>wpList_nil<|oJ E rfl<|?_
 cases hm
 exact ⟨_,rfl,H.reads Y0⟩

def rE (x1:Int) (s3:ByteArray) (s6:ByteArray):Option bJ:=
  some ((⟨x1,s3,s6,(ByteArray.mk #[]),0,0,false⟩:bJ))
theorem xA {w:World} {Fo:List Ob} {rs:List Rp} {x1:Int} {p2 p4:Nat} {s3 s6:ByteArray} {v11 v12 v13 v14 v15:Value} (H:Sep w (Blk p2 9 [.string s3]::Blk p4 60 [v11,.string s6,v12,v13,v14,v15]::Fo) rs) {r:bJ} (hm:rE x1 s3 s6=some r) :
    Calls Tryz.prog 102 [.int .i64 x1,pt p2 0,pt p4 0].toArray w (Ret fun v w'=>.agg (cH r).toArray=v∧Sep w' (Blk p2 9 [.string s3]::Blk p4 60 [v11,.string s6,v12,v13,v14,v15]::Fo) (rs)):=by
 unfold rE at hm
 refine ent Tryz.func102 rfl Tryz.ntmps102 rfl rfl fun a E=>sq<|al E H rfl rfl rfl rfl V2 fun p16 w a H E=>nx<|pr 1 E rfl fun a E=>lb E H 1 rfl rfl rfl rfl rfl rfl rfl U9 rfl fun a E=>pr 1 E rfl fun a E=>lb E H 2 rfl rfl rfl rfl rfl rfl rfl U9 rfl fun a E=>sv E rfl rfl rfl (cI E rfl (E.evs rfl) (v:=.agg #[.int .i64 x1,.string s3,.string s6,.string (ByteArray.mk #[]),.int .i64 0,.int .i64 0,.bool false]) (by kernel_rfl)) fun a E=>?_
 refine aZ (i:=0) E H (wn rfl) rfl rfl rfl rfl rfl rfl hP rfl rfl fun w H=>nt<|wp_ret<|dH E rfl (cV (i:=0) (us:=[.int .i64 x1,.string s3,.string s6,.string (ByteArray.mk #[]),.int .i64 0,.int .i64 0,.bool false]) H rfl rfl rfl U85 rfl hP)<|have H:=H.drop 0;?_
 cases hm
 exact ⟨rfl,H.reads Y0⟩

def xB (x1:Int) (s4:ByteArray) (x7:Int):Option bJ:=
  some ((⟨x1,s4,s4,(ByteArray.mk #[]),0,x7,false⟩:bJ))
theorem B8 {w:World} {Fo:List Ob} {rs:List Rp} {x1 x7:Int} {p2:Nat} {s4:ByteArray} {v9 v10 v11 v12:Value} (H:Sep w (Blk p2 60 [v9,.string s4,v10,v11,.int .i64 x7,v12]::Fo) rs) {r:bJ} (hm:xB x1 s4 x7=some r) :
    Calls Tryz.prog 103 [.int .i64 x1,pt p2 0].toArray w (Ret fun v w'=>.agg (cH r).toArray=v∧Sep w' (Blk p2 60 [v9,.string s4,v10,v11,.int .i64 x7,v12]::Fo) (rs)):=by
 unfold xB at hm
 refine ent Tryz.func103 rfl Tryz.ntmps103 rfl rfl fun a E=>sq<|al E H rfl rfl rfl rfl V2 fun p13 w a H E=>nx<|pr 2 E rfl fun a E=>lb E H 1 rfl rfl rfl rfl rfl rfl rfl U9 rfl fun a E=>pr 1 E rfl fun a E=>lb E H 1 rfl rfl rfl rfl rfl rfl rfl U9 rfl fun a E=>pr 1 E rfl fun a E=>?_
 refine lb E H 1 rfl rfl rfl rfl rfl rfl rfl U2 rfl fun a E=>sv E rfl rfl rfl (cI E rfl (E.evs rfl) (v:=.agg #[.int .i64 x1,.string s4,.string s4,.string (ByteArray.mk #[]),.int .i64 0,.int .i64 x7,.bool false]) (by kernel_rfl)) fun a E=>aZ (i:=0) E H (wn rfl) rfl rfl rfl rfl rfl rfl hP rfl rfl fun w H=>nt<|wp_ret<|dH E rfl (cV (i:=0) (us:=[.int .i64 x1,.string s4,.string s4,.string (ByteArray.mk #[]),.int .i64 0,.int .i64 x7,.bool false]) H rfl rfl rfl U85 rfl hP)<|have H:=H.drop 0;?_
 cases hm
 exact ⟨rfl,H.reads Y0⟩

def xC (x1:Int) (s4:ByteArray) (s7:ByteArray) (x9:Int):Option bJ:=
  (rE x1 s4 s7).bind fun u17=>some ((⟨u17.Kind,u17.Dir,u17.Path,u17.Data,x9,u17.Owner,u17.Turns⟩:bJ))
theorem B9 {w:World} {Fo:List Ob} {rs:List Rp} {x1 x9:Int} {p2 p3 p5:Nat} {s4 s7:ByteArray} {v12 v13 v14 v15:Value} (H:Sep w (Blk p2 162 [.func (.func 102) #[] #[pt p3 0,pt p5 0]]::Blk p3 9 [.string s4]::Blk p5 60 [v12,.string s7,v13,.int .i64 x9,v14,v15]::Fo) rs) {r:bJ} (hm:xC x1 s4 s7 x9=some r) :
    Calls Tryz.prog 104 [.int .i64 x1,pt p2 0,pt p5 0].toArray w (Ret fun v w'=>.agg (cH r).toArray=v∧Sep w' (Blk p2 162 [.func (.func 102) #[] #[pt p3 0,pt p5 0]]::Blk p3 9 [.string s4]::Blk p5 60 [v12,.string s7,v13,.int .i64 x9,v14,v15]::Fo) (rs)):=by
 unfold xC at hm
 refine ent Tryz.func104 rfl Tryz.ntmps104 rfl rfl fun a E=>sq<|al E H rfl rfl rfl rfl V2 fun p16 w a H E=>nx<|lb E H 1 rfl rfl rfl rfl rfl rfl rfl Ej rfl fun a E=>pr 1 E rfl fun a E=>have H:=H.frs [1,1,3,3] rfl;bd hm fun u17 hx18 hm=>aU E (wn rfl) rfl rfl (bP E rfl rfl rfl (Ab _)) (xA H hx18)<|?_
 rintro _ w ⟨rfl,H⟩ a E
 refine al E H rfl rfl rfl rfl V2 fun p19 w a H E=>aZ (i:=0) E H (wn rfl) rfl rfl rfl rfl rfl rfl hP rfl rfl fun w H=>nx<|pr 1 E rfl fun a E=>lb E H 2 rfl rfl rfl rfl rfl rfl rfl U2 rfl fun a E=>pr 1 E rfl fun a E=>aZ (i:=0) E H (wn rfl) rfl rfl rfl rfl rfl rfl sz2 rfl rfl fun w H=>nx<|sv E rfl rfl rfl (cA (i:=0) (us:=[.int .i64 u17.Kind,.string u17.Dir,.string u17.Path,.string u17.Data,.int .i64 x9,.int .i64 u17.Owner,.bool u17.Turns]) E H rfl rfl rfl rfl U85 rfl hP) fun a E=>?_
 refine aZ (i:=3) E H (wn rfl) rfl rfl rfl rfl rfl rfl hP rfl rfl fun w H=>nt<|wp_ret<|dH E rfl (cV (i:=3) (us:=[.int .i64 u17.Kind,.string u17.Dir,.string u17.Path,.string u17.Data,.int .i64 x9,.int .i64 u17.Owner,.bool u17.Turns]) H rfl rfl rfl U85 rfl hP)<|have H:=H.drs [0,2];have H:=H.frs [1,1,2] rfl;?_
 cases hm
 exact ⟨rfl,H.reads Y0⟩

def eP (s1:ByteArray):Nat→Int→Int→Option Int
  | 0,_,_=>none
  | k1+1,x3,x4=>
    if (decide (x4 ≥ 0))=true then ((idx s1.data.toList x4).bind fun x7=>if ((x7.toNat:Int) == x3)=true then (some (x4)) else (eP s1 k1 x3 (IntKind.i64.wrap (x4 - 1)))) else (some ((-1)))
def iF (s1:ByteArray) (x2:Int):Option Int:=
  eP s1 (((IntKind.i64.wrap ((s1.size:Int) - 1)) - 0:Int).toNat+2) x2 (IntKind.i64.wrap ((s1.size:Int) - 1))
theorem tR {w:World} {Fo:List Ob} {rs:List Rp} {s1:ByteArray} {x2:Int} (H:Sep w (Fo) rs) {r:Int} (hm:iF s1 x2=some r) :
    Calls Tryz.prog 318 [.string s1,.int .u8 x2].toArray w (Ret fun v w'=>.int .i64 r=v∧Sep w' (Fo) (rs)):=by
 unfold iF at hm
 refine ent Tryz.func318 rfl Tryz.ntmps318 rfl rfl fun a E=>sq<|pr 1 E rfl fun a E=>nt<|wp_seq<|sq<|pr 4 E rfl fun a E=>nt<|wp_block<|bX (fun k1 a w=>∃ x3 x4 rs5,Env 19 a [(0,.string s1),(1,.int .u8 x3),(5,.int .i64 x4)]∧Sep w (Fo) rs5∧(∀ r,r ∈ rs→r ∈ rs5)∧eP s1 k1 x3 x4=some r) (((IntKind.i64.wrap ((s1.size:Int) - 1)) - 0:Int).toNat+2) ?_ ?_
 ·exact X3 ⟨E.to rfl,H,Y0,hm⟩
 ·clear E H hm
  rintro k1 a w ⟨x3,x4,rs5,E,H,hs6,hm⟩
  cases k1 with
  | zero=>exact (bT hm rfl).elim
  | succ k1=>
   unfold eP at hm
   refine wp_seq<|sq<|pr 2 E rfl fun a E=>nt<|wif E hm rfl (fun hm=>?_) fun hm=>?_
   ·refine wp_skip<|aC<|wp_seq<|wp_block<|sq<|pr 2 E rfl fun a E=>bd hm fun x7 hx8 hm=>sv E rfl rfl rfl (Dq E rfl rfl rfl U9 hx8) fun a E=>pr 2 E rfl fun a E=>?_
    refine nt<|wif E hm rfl (fun hm=>?_) fun hm=>?_
    ·refine sq<|pr 2 E rfl fun a E=>nt<|wp_ret<|bV<|aP<|aP<|bV<|aP<|?_
     refine aY E rfl rfl<|?_
     cases hm
     exact ⟨rfl,H.reads hs6⟩
    ·exact wp_skip<|bY<|aC<|wp_region_lit<|pr 3 E rfl fun a E=>nt<|⟨k1,Nat.lt_succ_self k1,X3 ⟨E.to rfl,H,hs6,hm⟩⟩
   ·refine wp_exit<|bH<|bH<|dG<|aC<|sq<|pr 1 E rfl fun a E=>nt<|wp_ret<|?_
    refine aY E rfl rfl<|?_
    cases hm
    exact ⟨rfl,H.reads hs6⟩

def qA (s1:ByteArray) (x2:Int):Option Int:=
  (iF s1 x2).bind fun u3=>some (u3)
theorem s9 {w:World} {Fo:List Ob} {rs:List Rp} {s1:ByteArray} {x2:Int} (H:Sep w (Fo) rs) {r:Int} (hm:qA s1 x2=some r) :
    Calls Tryz.prog 270 [.string s1,.int .u8 x2].toArray w (Ret fun v w'=>.int .i64 r=v∧Sep w' (Fo) (rs)):=by
 unfold qA at hm
 refine ent Tryz.func270 rfl Tryz.ntmps270 rfl rfl fun a E=>sq<|pr 1 E rfl fun a E=>nx<|pr 2 E rfl fun a E=>bd hm fun u3 hx4 hm=>xk E rfl rfl rfl rfl rfl Uf (tR H hx4) fun w H a E=>pr 1 E rfl fun a E=>nt<|?_
 refine wp_ret<|aY E rfl rfl<|?_
 cases hm
 exact ⟨rfl,H.reads Y0⟩

def xI (s1:ByteArray) (b2:Bool):Option (ByteArray×ByteArray×Bool):=
  if b2=true then (some ((ByteArray.mk #[]),(ByteArray.mk #[]),false)) else ((qA s1 47).bind fun u5=>(ck (0 ≤ (max u5 1)∧(max u5 1) ≤ s1.size)).bind fun u7=>(ck (0 ≤ (IntKind.i64.wrap (u5+1))∧(IntKind.i64.wrap (u5+1)) ≤ s1.size)).bind fun u9=>some (s1.extract 0 (max u5 1).toNat,s1.extract (IntKind.i64.wrap (u5+1)).toNat s1.size,true))
def n1 (s1:ByteArray):Option (ByteArray×ByteArray×Bool):=
  (fA s1).bind fun u11=>if (!u11)=true then (xI s1 true) else (xI s1 (sEq s1 (ByteArray.mk #[47])))
theorem An {w:World} {Fo:List Ob} {rs:List Rp} {s1:ByteArray} (H:Sep w (Fo) rs) {r:ByteArray×ByteArray×Bool} (hm:n1 s1=some r) :
    Calls Tryz.prog 203 [.string s1].toArray w (Ret fun v w'=>.tuple #[.string r.1,.string r.2.1,.bool r.2.2]=v∧Sep w' (Fo) (rs)):=by
 unfold n1 at hm
 refine ent Tryz.func203 rfl Tryz.ntmps203 rfl rfl fun a E=>sq<|pr 3 E rfl fun a E=>nt<|wp_seq<|aT (fun a w=>∃ b2 rs3,Env 23 a [(0,.string s1),(12,.bool b2)]∧Sep w (Fo) rs3∧(∀ r,r ∈ rs→r ∈ rs3)∧xI s1 b2=some r) ?_ ?_
 ·refine wp_region_lit<|pr 1 E rfl fun a E=>bd hm fun u11 hx12 hm=>xk E rfl rfl rfl rfl rfl yU (gC H hx12) fun w H a E=>pr 2 E rfl fun a E=>cs hm (fun hb13 hm=>?_) fun hb13 hm=>?_
  ·exact pk 3 E (kc 9 rfl hb13) rfl fun a E=>nt<|⟨_,_,E.to rfl,H,Y0,hm⟩
  ·exact pk 3 E (kc 9 rfl hb13) rfl fun a E=>nt<|⟨_,_,E.to rfl,H,Y0,hm⟩
 ·clear E H hm
  rintro a w ⟨b2,rs3,E,H,hs4,hm⟩
  unfold xI at hm
  refine wif E hm rfl (fun hm=>?_) fun hm=>?_
  ·refine sq<|pr 3 E rfl fun a E=>nt<|wp_ret<|aP<|Dp E rfl rfl rfl rfl<|?_
   cases hm
   exact ⟨rfl,H.reads hs4⟩
  ·refine wp_skip<|aC<|sq<|pr 1 E rfl fun a E=>bd hm fun u5 hx6 hm=>xk E rfl rfl rfl rfl rfl Ue (s9 H hx6) fun w H a E=>pr 1 E rfl fun a E=>nt<|wp_seq<|?_
   refine dw [(0,0),(1,0),(2,0),(3,0),(4,0),(5,0),(6,0),(7,0),(8,1),(9,2),(10,2)] [] [] H (by kernel_rfl) (fun _ _ _ h=>False.elim h.2) fun w W0 hI H=>fn 2 E rfl fun a E=>bW E rfl (wn rfl) rfl rfl (fun w hW=>(Te (t:=0) E rfl rfl rfl)) fun a E=>?_
   refine bk hm fun hx8 hm=>bW E rfl (wn rfl) rfl rfl (fun w hW=>(K7 E rfl rfl rfl U9 hx8)) fun a E=>?_
   refine fn 3 E rfl fun a E=>bk hm fun hx10 hm=>bW E rfl (wn rfl) rfl rfl (fun w hW=>(D4 E rfl rfl rfl U9 hx10)) fun a E=>?_
   refine bZ rfl<|pr 1 E rfl fun a E=>nt<|?_
   refine ⟨⟨_,_,H,(aL),(aM)⟩,?_⟩
   refine bQ rfl<|pr 1 E rfl fun a E=>nt<|bQ rfl<|pr 1 E rfl fun a E=>nt<|bR<|?_
   clear hI
   refine aC<|wp_ret<|Dp E rfl rfl rfl rfl<|?_
   cases hm
   exact ⟨rfl,H.reads hs4⟩

def qM (s1:ByteArray):Option (ByteArray×Bool):=
  (n1 s1).bind fun u2=>some (u2.1,u2.2.2)
theorem xJ {w:World} {Fo:List Ob} {rs:List Rp} {s1:ByteArray} (H:Sep w (Fo) rs) {r:ByteArray×Bool} (hm:qM s1=some r) :
    Calls Tryz.prog 148 [.string s1].toArray w (Ret fun v w'=>.tuple #[.string r.1,.bool r.2]=v∧Sep w' (Fo) (rs)):=by
 unfold qM at hm
 refine ent Tryz.func148 rfl Tryz.ntmps148 rfl rfl fun a E=>sq<|pr 2 E rfl fun a E=>nx<|pr 1 E rfl fun a E=>bd hm fun u2 hx3 hm=>xk E rfl rfl rfl rfl rfl Lo (An H hx3) fun w H a E=>pr 7 E rfl fun a E=>nx<|?_
 refine pr 4 E rfl fun a E=>nt<|wp_ret<|fX E rfl rfl rfl<|?_
 cases hm
 exact ⟨rfl,H.reads Y0⟩

def i6 (s1:ByteArray):Option ByteArray:=
  (qM s1).bind fun u2=>if u2.2=true then (some (u2.1)) else (some ((ByteArray.mk #[47])))
theorem M3 {w:World} {Fo:List Ob} {rs:List Rp} {s1:ByteArray} (H:Sep w (Fo) rs) {r:ByteArray} (hm:i6 s1=some r) :
    Calls Tryz.prog 101 [.string s1].toArray w (Ret fun v w'=>.string r=v∧Sep w' (Fo) (rs)):=by
 unfold i6 at hm
 refine ent Tryz.func101 rfl Tryz.ntmps101 rfl rfl fun a E=>sq<|pr 1 E rfl fun a E=>nt<|wp_seq<|sq<|pr 1 E rfl fun a E=>bd hm fun u2 hx3 hm=>xk E rfl rfl rfl rfl rfl Cv (xJ H hx3) fun w H a E=>?_
 refine pr 5 E rfl fun a E=>nx<|pr 1 E rfl fun a E=>nt<|wif E hm rfl (fun hm=>?_) fun hm=>?_
 ·refine sq<|pr 2 E rfl fun a E=>nt<|wp_ret<|aP<|aY E rfl rfl<|?_
  cases hm
  exact ⟨rfl,H.reads Y0⟩
 ·refine wp_skip<|aC<|sq<|pr 1 E rfl fun a E=>nt<|wp_ret<|aY E rfl rfl<|?_
  cases hm
  exact ⟨rfl,H.reads Y0⟩

def kO (l11:(List bJ)):Option (List bJ):=
  some (l11)
def M4 (x1:dU):Option (List bJ):=
  (f2 x1).bind fun u3=>if (!u3)=true then (some ([])) else ((i6 x1.Path).bind fun u6=>if (x1.Kind == 1)=true then ((rE 2 u6 x1.Path).bind fun u14=>(i6 u6).bind fun u17=>(nK ([(⟨1,u17,u6,(ByteArray.mk #[]),0,0,false⟩:bJ),(⟨u14.Kind,u14.Dir,u14.Path,x1.Data,u14.Version,x1.Owner,x1.Turns⟩:bJ)]:List bJ) []).bind fun u20=>kO u20) else (if (x1.Kind == 2)=true then ((xC 3 u6 x1.Path x1.Version).bind fun u23=>(xB 4 x1.Path x1.Owner).bind fun u25=>(nK ([u23,u25]:List bJ) []).bind fun u28=>kO u28) else (if (x1.Kind == 3)=true then ((xC 5 u6 x1.Path x1.Version).bind fun u31=>(nK ([(⟨u31.Kind,u31.Dir,u31.Path,x1.Data,u31.Version,u31.Owner,u31.Turns⟩:bJ)]:List bJ) []).bind fun u35=>kO u35) else (if (x1.Kind == 4)=true then ((xC 6 u6 x1.Path x1.Version).bind fun u38=>(nK ([u38]:List bJ) []).bind fun u41=>kO u41) else (if (x1.Kind == 5)=true then ((rE 7 u6 x1.Path).bind fun u44=>(nK ([u44]:List bJ) []).bind fun u47=>kO u47) else (if (x1.Kind == 6)=true then ((rE 8 u6 x1.Path).bind fun u50=>(xB 9 x1.Path x1.Owner).bind fun u52=>(nK ([u50,u52]:List bJ) []).bind fun u55=>kO u55) else (if (x1.Kind == 7)=true then ((rE 8 u6 x1.Path).bind fun u58=>(xB 10 x1.Path x1.Owner).bind fun u60=>(nK ([u58,u60]:List bJ) []).bind fun u63=>kO u63) else (kO []))))))))
theorem Jp {w:World} {Fo:List Ob} {rs:List Rp} {x1:dU} (H:Sep w (Fo) rs) {r:(List bJ)} (hm:M4 x1=some r) :
    Calls Tryz.prog 43 [.agg (mY x1).toArray].toArray w (Ret fun v w'=>∃ y1,y1=v∧Sep w' (Row 85 cO y1 r::Fo) (rs)):=by
 unfold M4 at hm
 refine ent Tryz.func43 rfl Tryz.ntmps43 rfl rfl fun a E=>sq<|bS E H (wn rfl) rfl rfl rfl rfl rfl fun p2 w a H E=>pr 1 E rfl fun a E=>nt<|wp_seq<|sq<|sv E rfl rfl rfl (cA (i:=0) (us:=(mY x1)) E H rfl rfl rfl rfl U60 rfl L4) fun a E=>bd hm fun u3 hx4 hm=>?_
 refine xk E rfl rfl rfl rfl rfl Pt (S1 H hx4) fun w H a E=>pr 1 E rfl fun a E=>nt<|wif E hm rfl (fun hm=>?_) fun hm=>?_
 ·refine sq<|pr 1 E rfl fun a E=>nt<|wp_ret<|aP<|aY E rfl rfl<|have H:=H.nilRow 85 cO;have H:=H.drop 1;?_
  cases hm
  exact ⟨_,rfl,H.reads Y0⟩
 ·refine wp_skip<|aC<|sq<|al1 E H rfl rfl rfl rfl Xx rfl fun p5 w a H E=>nx<|sv E rfl rfl rfl (iP E rfl rfl rfl) fun a E=>pr 1 E rfl fun a E=>nx<|pr 1 E rfl fun a E=>?_
  refine lb E H 1 rfl rfl rfl rfl rfl rfl rfl U9 rfl fun a E=>bd hm fun u6 hx7 hm=>xk E rfl rfl rfl rfl rfl Gz (M3 H hx7) fun w H a E=>al1 E H rfl rfl rfl rfl zr9 rfl fun p8 w a H E=>aZ (i:=0) E H (wn rfl) rfl rfl rfl rfl rfl rfl sz9 rfl rfl fun w H=>nx<|sv E rfl rfl rfl (iP E rfl rfl rfl) fun a E=>al1 E H rfl rfl rfl rfl Ug rfl fun p9 w a H E=>aZ (i:=0) E H (wn rfl) rfl rfl rfl rfl rfl rfl Uh rfl rfl fun w H=>?_
  refine nx<|sv E rfl rfl rfl (iP E rfl rfl rfl) fun a E=>pr 1 E rfl fun a E=>nx<|sv E rfl rfl rfl (iP E rfl rfl rfl) fun a E=>pr 1 E rfl fun a E=>nt<|aT (fun a w=>∃ v10 l11 rs12,Env 97 a [(3,pt p5 0)]∧Sep w (Blk p5 99 [v10]::Row 85 cO v10 l11::Fo) rs12∧(∀ r,r ∈ rs→r ∈ rs12)∧kO l11=some r) ?_ ?_
  ·refine sq<|pr 1 E rfl fun a E=>lb E H 3 rfl rfl rfl rfl rfl rfl rfl U3 rfl fun a E=>nt<|wp_block<|sq<|pr 2 E rfl fun a E=>nt<|wif E hm rfl (fun hm=>?_) fun hm=>?_
   ·refine sq<|lb E H 0 rfl rfl rfl rfl rfl rfl rfl Ej rfl fun a E=>have H:=H.frs [2,1,3,3] rfl;bd hm fun u14 hx15 hm=>aU E (wn rfl) rfl rfl (bP E rfl rfl rfl (Ab _)) (xA H hx15)<|?_
    rintro _ w ⟨rfl,H⟩ a E
    refine al E H rfl rfl rfl rfl V2 fun p16 w a H E=>aZ (i:=0) E H (wn rfl) rfl rfl rfl rfl rfl rfl hP rfl rfl fun w H=>nt<|wp_seq<|dw [(0,0),(1,0),(2,0),(3,0),(4,0),(5,0),(6,0),(7,1),(8,0),(9,1),(10,2),(11,2)] [2] [] H (by kernel_rfl) (fun _ _ _ h=>False.elim h.2) fun w W0 hI H=>fn 1 E rfl fun a E=>fb E rfl (wn rfl) rfl rfl rfl rfl m0 rfl U9 rfl fun a E=>fn 1 E rfl fun a E=>fb E rfl (wn rfl) rfl rfl rfl rfl m0 rfl U2 rfl fun a E=>?_
    refine fn 1 E rfl fun a E=>fb E rfl (wn rfl) rfl rfl rfl rfl m0 rfl U4 rfl fun a E=>fn 1 E rfl fun a E=>bZ rfl<|aZ (i:=0) E H (wn rfl) rfl rfl rfl rfl rfl rfl sz9 rfl rfl fun w H=>nt<|?_
    refine ⟨⟨_,_,H,(aB mm2 (aL)),(aM)⟩,?_⟩
    refine fn 1 E rfl fun a E=>bZ rfl<|aZ (i:=0) E H (wn rfl) rfl rfl rfl rfl rfl rfl sz2 rfl rfl fun w H=>nt<|?_
    refine ⟨⟨_,_,H,(aB mm2 (aL)),(aM)⟩,?_⟩
    refine bQ rfl<|pr 1 E rfl fun a E=>nt<|bQ rfl<|aZ (i:=0) E H (wn rfl) rfl rfl rfl rfl rfl rfl sz4 rfl rfl fun w H=>nt<|bR<|?_
    clear hI
    refine aC<|dw [(0,0),(1,0),(3,0),(5,0),(2,1),(4,0),(6,1),(7,1)] [0,1] [] H (by kernel_rfl) (fun _ _ _ h=>False.elim h.2) fun w W0 hI H=>fn 1 E rfl fun a E=>fb E rfl (wn rfl) rfl rfl rfl rfl mm1 rfl U9 rfl fun a E=>fb E rfl (wn rfl) rfl rfl rfl rfl mm1 rfl U9 rfl fun a E=>fbn E [.int .i64 u14.Kind,.string u14.Dir,.string u14.Path,.string x1.Data,.int .i64 u14.Version,.int .i64 x1.Owner,.bool x1.Turns] rfl (wn rfl) rfl rfl rfl rfl m0 rfl U85 rfl hP fun a E=>bZ rfl<|bd hm fun u17 hx18 hm=>xk E rfl rfl rfl rfl rfl Gz (M3 H hx18) fun w H a E=>?_
    refine nt<|?_
    refine ⟨⟨_,_,H,(aB m0 (aB mm1 (aL))),(aM)⟩,?_⟩
    refine bW E rfl (wn rfl) rfl rfl (fun w hW=>(cI E rfl (E.evs rfl) (v:=.agg #[.int .i64 1,.string u17,.string u6,.string (ByteArray.mk #[]),.int .i64 0,.int .i64 0,.bool false]) (by kernel_rfl))) fun a E=>?_
    refine bZ rfl<|fY (e:=85) (d:=cO) (cs:=[.int .i64 1,.string u17,.string u6,.string (ByteArray.mk #[]),.int .i64 0,.int .i64 0,.bool false,.int .i64 u14.Kind,.string u14.Dir,.string u14.Path,.string x1.Data,.int .i64 u14.Version,.int .i64 x1.Owner,.bool x1.Turns]) (xs:=[(⟨1,u17,u6,(ByteArray.mk #[]),0,0,false⟩:bJ),(⟨u14.Kind,u14.Dir,u14.Path,x1.Data,u14.Version,x1.Owner,x1.Turns⟩:bJ)]) E H (wn rfl) rfl rfl rfl (E.evs rfl) (by kernel_rfl) rfl rfl (fun ok hr=>(Rows.append (Rows.single (d:=cO) (cs:=[.int .i64 1,.string u17,.string u6,.string (ByteArray.mk #[]),.int .i64 0,.int .i64 0,.bool false]) (x:=(⟨1,u17,u6,(ByteArray.mk #[]),0,0,false⟩:bJ)) fU) (Rows.single (d:=cO) (cs:=[.int .i64 u14.Kind,.string u14.Dir,.string u14.Path,.string x1.Data,.int .i64 u14.Version,.int .i64 x1.Owner,.bool x1.Turns]) (x:=(⟨u14.Kind,u14.Dir,u14.Path,x1.Data,u14.Version,x1.Owner,x1.Turns⟩:bJ)) fU))) fun v19 w a H E=>nt<|?_
    refine ⟨⟨_,_,H,(aB mm1 (aB mm2 (aL))),(aM)⟩,?_⟩
    refine bZ rfl<|have H:=H.thaw (i:=0) rfl;have H:=H.nilRow 85 cO;have H:=H.frs [4,4,4,4,4,5] rfl;bd hm fun u20 hx21 hm=>aU E (wn rfl) rfl rfl (bP E rfl rfl rfl (G1 _)) (rD H m0 hx21)<|?_
    rintro _ w ⟨v22,rfl,H⟩ a E
    refine nt<|?_
    refine ⟨⟨_,_,H,(aB mm2 (aB mm3 (aL))),(aM)⟩,?_⟩
    refine bR<|?_
    clear hI
    exact bY<|aC<|have H:=H.drs [2,2,2,2];X3 ⟨E.to rfl,H,(Y1 Y0),hm⟩
   ·refine sq<|pr 2 E rfl fun a E=>nt<|wif E hm rfl (fun hm=>?_) fun hm=>?_
    ·refine wp_region_lit<|pr 2 E rfl fun a E=>have H:=H.frs [2,3,3,3] rfl;bd hm fun u23 hx24 hm=>aU E (wn rfl) rfl rfl (bP E rfl rfl rfl (Ha _)) (B9 H hx24)<|?_
     rintro _ w ⟨rfl,H⟩ a E
     refine pr 1 E rfl fun a E=>have H:=H.frs [3,2,2,3] rfl;bd hm fun u25 hx26 hm=>aU E (wn rfl) rfl rfl (bP E rfl rfl rfl (Hb _)) (B8 H hx26)<|?_
     rintro _ w ⟨rfl,H⟩ a E
     refine fY (e:=85) (d:=cO) (cs:=[.int .i64 u23.Kind,.string u23.Dir,.string u23.Path,.string u23.Data,.int .i64 u23.Version,.int .i64 u23.Owner,.bool u23.Turns,.int .i64 u25.Kind,.string u25.Dir,.string u25.Path,.string u25.Data,.int .i64 u25.Version,.int .i64 u25.Owner,.bool u25.Turns]) (xs:=[u23,u25]) E H (wn rfl) rfl rfl rfl (E.evs rfl) (by kernel_rfl) rfl rfl (fun ok hr=>(Rows.append (Rows.single (d:=cO) (cs:=[.int .i64 u23.Kind,.string u23.Dir,.string u23.Path,.string u23.Data,.int .i64 u23.Version,.int .i64 u23.Owner,.bool u23.Turns]) (x:=u23) fU) (Rows.single (d:=cO) (cs:=[.int .i64 u25.Kind,.string u25.Dir,.string u25.Path,.string u25.Data,.int .i64 u25.Version,.int .i64 u25.Owner,.bool u25.Turns]) (x:=u25) fU))) fun v27 w a H E=>have H:=H.thaw (i:=0) rfl;have H:=H.nilRow 85 cO;have H:=H.frs [3,3,3,3,4] rfl;bd hm fun u28 hx29 hm=>aU E (wn rfl) rfl rfl (bP E rfl rfl rfl (G1 _)) (rD H m0 hx29)<|?_
     rintro _ w ⟨v30,rfl,H⟩ a E
     exact wpList_nil<|bY<|aC<|have H:=H.drs [2,2,2];X3 ⟨E.to rfl,H,(Y1 Y0),hm⟩
    ·refine sq<|pr 2 E rfl fun a E=>nt<|wif E hm rfl (fun hm=>?_) fun hm=>?_
     ·refine sq<|pr 1 E rfl fun a E=>have H:=H.frs [2,3,3,3] rfl;bd hm fun u31 hx32 hm=>aU E (wn rfl) rfl rfl (bP E rfl rfl rfl (Ha _)) (B9 H hx32)<|?_
      rintro _ w ⟨rfl,H⟩ a E
      refine al E H rfl rfl rfl rfl V2 fun p33 w a H E=>aZ (i:=0) E H (wn rfl) rfl rfl rfl rfl rfl rfl hP rfl rfl fun w H=>nx<|pr 1 E rfl fun a E=>lb E H 3 rfl rfl rfl rfl rfl rfl rfl U9 rfl fun a E=>pr 1 E rfl fun a E=>aZ (i:=0) E H (wn rfl) rfl rfl rfl rfl rfl rfl sz9 rfl rfl fun w H=>nt<|wp_region_lit<|?_
      refine pr 1 E rfl fun a E=>sv E rfl rfl rfl (cA (i:=0) (us:=[.int .i64 u31.Kind,.string u31.Dir,.string u31.Path,.string x1.Data,.int .i64 u31.Version,.int .i64 u31.Owner,.bool u31.Turns]) E H rfl rfl rfl rfl U85 rfl hP) fun a E=>fY (e:=85) (d:=cO) (cs:=[.int .i64 u31.Kind,.string u31.Dir,.string u31.Path,.string x1.Data,.int .i64 u31.Version,.int .i64 u31.Owner,.bool u31.Turns]) (xs:=[(⟨u31.Kind,u31.Dir,u31.Path,x1.Data,u31.Version,u31.Owner,u31.Turns⟩:bJ)]) E H (wn rfl) rfl rfl rfl (E.evs rfl) (by kernel_rfl) rfl rfl (fun ok hr=>(Rows.single (d:=cO) (cs:=[.int .i64 u31.Kind,.string u31.Dir,.string u31.Path,.string x1.Data,.int .i64 u31.Version,.int .i64 u31.Owner,.bool u31.Turns]) (x:=(⟨u31.Kind,u31.Dir,u31.Path,x1.Data,u31.Version,u31.Owner,u31.Turns⟩:bJ)) fU)) fun v34 w a H E=>have H:=H.thaw (i:=0) rfl;have H:=H.nilRow 85 cO;have H:=H.frs [4,4,4,4,4,5] rfl;bd hm fun u35 hx36 hm=>aU E (wn rfl) rfl rfl (bP E rfl rfl rfl (G1 _)) (rD H m0 hx36)<|?_
      rintro _ w ⟨v37,rfl,H⟩ a E
      exact wpList_nil<|bY<|aC<|have H:=H.drs [2,2,2,2];X3 ⟨E.to rfl,H,(Y1 Y0),hm⟩
     ·refine sq<|pr 2 E rfl fun a E=>nt<|wif E hm rfl (fun hm=>?_) fun hm=>?_
      ·refine wp_region_lit<|pr 2 E rfl fun a E=>have H:=H.frs [2,3,3,3] rfl;bd hm fun u38 hx39 hm=>aU E (wn rfl) rfl rfl (bP E rfl rfl rfl (Ha _)) (B9 H hx39)<|?_
       rintro _ w ⟨rfl,H⟩ a E
       refine fY (e:=85) (d:=cO) (cs:=[.int .i64 u38.Kind,.string u38.Dir,.string u38.Path,.string u38.Data,.int .i64 u38.Version,.int .i64 u38.Owner,.bool u38.Turns]) (xs:=[u38]) E H (wn rfl) rfl rfl rfl (E.evs rfl) (by kernel_rfl) rfl rfl (fun ok hr=>(Rows.single (d:=cO) (cs:=[.int .i64 u38.Kind,.string u38.Dir,.string u38.Path,.string u38.Data,.int .i64 u38.Version,.int .i64 u38.Owner,.bool u38.Turns]) (x:=u38) fU)) fun v40 w a H E=>have H:=H.thaw (i:=0) rfl;have H:=H.nilRow 85 cO;have H:=H.frs [3,3,3,3,4] rfl;bd hm fun u41 hx42 hm=>aU E (wn rfl) rfl rfl (bP E rfl rfl rfl (G1 _)) (rD H m0 hx42)<|?_
       rintro _ w ⟨v43,rfl,H⟩ a E
       exact wpList_nil<|bY<|aC<|have H:=H.drs [2,2,2];X3 ⟨E.to rfl,H,(Y1 Y0),hm⟩
      ·refine sq<|pr 2 E rfl fun a E=>nt<|wif E hm rfl (fun hm=>?_) fun hm=>?_
       ·refine wp_region_lit<|pr 1 E rfl fun a E=>lb E H 0 rfl rfl rfl rfl rfl rfl rfl Ej rfl fun a E=>have H:=H.frs [2,1,3,3] rfl;bd hm fun u44 hx45 hm=>aU E (wn rfl) rfl rfl (bP E rfl rfl rfl (Ab _)) (xA H hx45)<|?_
        rintro _ w ⟨rfl,H⟩ a E
        refine fY (e:=85) (d:=cO) (cs:=[.int .i64 u44.Kind,.string u44.Dir,.string u44.Path,.string u44.Data,.int .i64 u44.Version,.int .i64 u44.Owner,.bool u44.Turns]) (xs:=[u44]) E H (wn rfl) rfl rfl rfl (E.evs rfl) (by kernel_rfl) rfl rfl (fun ok hr=>(Rows.single (d:=cO) (cs:=[.int .i64 u44.Kind,.string u44.Dir,.string u44.Path,.string u44.Data,.int .i64 u44.Version,.int .i64 u44.Owner,.bool u44.Turns]) (x:=u44) fU)) fun v46 w a H E=>have H:=H.thaw (i:=0) rfl;have H:=H.nilRow 85 cO;have H:=H.frs [3,3,3,3,4] rfl;bd hm fun u47 hx48 hm=>aU E (wn rfl) rfl rfl (bP E rfl rfl rfl (G1 _)) (rD H m0 hx48)<|?_
        rintro _ w ⟨v49,rfl,H⟩ a E
        exact wpList_nil<|bY<|aC<|have H:=H.drs [2,2,2];X3 ⟨E.to rfl,H,(Y1 Y0),hm⟩
       ·refine sq<|pr 2 E rfl fun a E=>nt<|wif E hm rfl (fun hm=>?_) fun hm=>?_
        ·refine wp_region_lit<|pr 1 E rfl fun a E=>lb E H 0 rfl rfl rfl rfl rfl rfl rfl Ej rfl fun a E=>have H:=H.frs [2,1,3,3] rfl;bd hm fun u50 hx51 hm=>aU E (wn rfl) rfl rfl (bP E rfl rfl rfl (Ab _)) (xA H hx51)<|?_
         rintro _ w ⟨rfl,H⟩ a E
         refine pr 1 E rfl fun a E=>have H:=H.frs [3,3,2,3] rfl;bd hm fun u52 hx53 hm=>aU E (wn rfl) rfl rfl (bP E rfl rfl rfl (Hb _)) (B8 H hx53)<|?_
         rintro _ w ⟨rfl,H⟩ a E
         refine fY (e:=85) (d:=cO) (cs:=[.int .i64 u50.Kind,.string u50.Dir,.string u50.Path,.string u50.Data,.int .i64 u50.Version,.int .i64 u50.Owner,.bool u50.Turns,.int .i64 u52.Kind,.string u52.Dir,.string u52.Path,.string u52.Data,.int .i64 u52.Version,.int .i64 u52.Owner,.bool u52.Turns]) (xs:=[u50,u52]) E H (wn rfl) rfl rfl rfl (E.evs rfl) (by kernel_rfl) rfl rfl (fun ok hr=>(Rows.append (Rows.single (d:=cO) (cs:=[.int .i64 u50.Kind,.string u50.Dir,.string u50.Path,.string u50.Data,.int .i64 u50.Version,.int .i64 u50.Owner,.bool u50.Turns]) (x:=u50) fU) (Rows.single (d:=cO) (cs:=[.int .i64 u52.Kind,.string u52.Dir,.string u52.Path,.string u52.Data,.int .i64 u52.Version,.int .i64 u52.Owner,.bool u52.Turns]) (x:=u52) fU))) fun v54 w a H E=>have H:=H.thaw (i:=0) rfl;have H:=H.nilRow 85 cO;have H:=H.frs [3,3,3,3,4] rfl;bd hm fun u55 hx56 hm=>aU E (wn rfl) rfl rfl (bP E rfl rfl rfl (G1 _)) (rD H m0 hx56)<|?_
         rintro _ w ⟨v57,rfl,H⟩ a E
         exact wpList_nil<|bY<|aC<|have H:=H.drs [2,2,2];X3 ⟨E.to rfl,H,(Y1 Y0),hm⟩
        ·refine sq<|pr 2 E rfl fun a E=>nt<|wif E hm rfl (fun hm=>?_) fun hm=>?_
         ·refine wp_region_lit<|pr 1 E rfl fun a E=>lb E H 0 rfl rfl rfl rfl rfl rfl rfl Ej rfl fun a E=>have H:=H.frs [2,1,3,3] rfl;bd hm fun u58 hx59 hm=>aU E (wn rfl) rfl rfl (bP E rfl rfl rfl (Ab _)) (xA H hx59)<|?_
          rintro _ w ⟨rfl,H⟩ a E
          refine pr 1 E rfl fun a E=>have H:=H.frs [3,3,2,3] rfl;bd hm fun u60 hx61 hm=>aU E (wn rfl) rfl rfl (bP E rfl rfl rfl (Hb _)) (B8 H hx61)<|?_
          rintro _ w ⟨rfl,H⟩ a E
          refine fY (e:=85) (d:=cO) (cs:=[.int .i64 u58.Kind,.string u58.Dir,.string u58.Path,.string u58.Data,.int .i64 u58.Version,.int .i64 u58.Owner,.bool u58.Turns,.int .i64 u60.Kind,.string u60.Dir,.string u60.Path,.string u60.Data,.int .i64 u60.Version,.int .i64 u60.Owner,.bool u60.Turns]) (xs:=[u58,u60]) E H (wn rfl) rfl rfl rfl (E.evs rfl) (by kernel_rfl) rfl rfl (fun ok hr=>(Rows.append (Rows.single (d:=cO) (cs:=[.int .i64 u58.Kind,.string u58.Dir,.string u58.Path,.string u58.Data,.int .i64 u58.Version,.int .i64 u58.Owner,.bool u58.Turns]) (x:=u58) fU) (Rows.single (d:=cO) (cs:=[.int .i64 u60.Kind,.string u60.Dir,.string u60.Path,.string u60.Data,.int .i64 u60.Version,.int .i64 u60.Owner,.bool u60.Turns]) (x:=u60) fU))) fun v62 w a H E=>have H:=H.thaw (i:=0) rfl;have H:=H.nilRow 85 cO;have H:=H.frs [3,3,3,3,4] rfl;bd hm fun u63 hx64 hm=>aU E (wn rfl) rfl rfl (bP E rfl rfl rfl (G1 _)) (rD H m0 hx64)<|?_
          rintro _ w ⟨v65,rfl,H⟩ a E
          exact wpList_nil<|bY<|aC<|have H:=H.drs [2,2,2];X3 ⟨E.to rfl,H,(Y1 Y0),hm⟩
         ·exact wp_skip<|bY<|aC<|have H:=H.nilRow 85 cO;have H:=H.drs [1,1,2];have H:=H.frs [0,1] rfl;X3 ⟨E.to rfl,H,Y0,hm⟩
  ·clear E H hm
   rintro a w ⟨v10,l11,rs12,E,H,hs13,hm⟩
   unfold kO at hm
   refine sq<|lb E H 0 rfl rfl rfl rfl rfl rfl rfl U99 rfl fun a E=>pr 1 E rfl fun a E=>nt<|wp_ret<|aY E rfl rfl<|have H:=H.drop 0;?_
   cases hm
   exact ⟨_,rfl,H.reads hs13⟩

def xK (rec_1:(List cF)→Int→Option (List cF)) (u15:(List bJ)) (x8:Int):Nat→(List cF)→Int→Option (List cF)
  | 0,_,_=>none
  | k2+1,l19,x20=>
    if (decide (x20 < (u15.length:Int)))=true then ((idx u15 x20).bind fun x23=>(ck (l19.length+([(⟨x8,x23⟩:cF)]:List cF).length ≤ LIM)).bind fun u31=>xK rec_1 u15 x8 k2 (l19 ++ ([(⟨x8,x23⟩:cF)]:List cF)) (IntKind.i64.wrap (x20+1))) else (rec_1 l19 (IntKind.i64.wrap (x8+1)))
def tA (l2:List dU):Nat→(List cF)→Int→Option (List cF)
  | 0,_,_=>none
  | k1+1,l7,x8=>
    if (decide (x8 < (l2.length:Int)))=true then ((idx l2 x8).bind fun x11=>(M4 x11).bind fun u15=>xK (tA l2 k1) u15 x8 (((u15.length:Int) - 0:Int).toNat+1) l7 0) else (some (l7))
def G7 (l2:List dU):Option (List cF):=
  (B7 l2).bind fun u4=>if (!u4)=true then (some ([])) else (tA l2 (((l2.length:Int) - 0:Int).toNat+1) [] 0)
theorem Ih {w:World} {Fo:List Ob} {rs:List Rp} {v1:Value} {l2:List dU} (H:Sep w (Fo) rs) (hr3:rSl xT v1 l2 ∈ rs) {r:(List cF)} (hm:G7 l2=some r) :
    Calls Tryz.prog 16 [v1].toArray w (Ret fun v w'=>∃ y1,y1=v∧Sep w' (Row 87 cE y1 r::Fo) (rs)):=by
 unfold G7 at hm
 refine ent Tryz.func16 rfl Tryz.ntmps16 rfl rfl fun a E=>sq<|pr 1 E rfl fun a E=>nt<|wp_seq<|sq<|pr 1 E rfl fun a E=>bd hm fun u4 hx5 hm=>xk E rfl rfl rfl rfl rfl Xs (Fs H hr3 hx5) fun w H a E=>?_
 refine pr 1 E rfl fun a E=>nt<|wif E hm rfl (fun hm=>?_) fun hm=>?_
 ·refine sq<|pr 1 E rfl fun a E=>nt<|wp_ret<|aP<|aY E rfl rfl<|have H:=H.nilRow 87 cE;?_
  cases hm
  exact ⟨_,rfl,H.reads Y0⟩
 ·refine wp_skip<|aC<|sq<|pr 1 E rfl fun a E=>nt<|wp_seq<|sq<|pr 1 E rfl fun a E=>sv E rfl rfl rfl (cR E H rfl rfl hr3 U58) fun a E=>?_
  refine pr 1 E rfl fun a E=>nt<|wp_block<|bX (fun k1 a w=>∃ v6 l7 x8 rs9,Env 34 a [(3,v6),(11,v1),(12,.int .i64 (l2.length:Int)),(13,.int .i64 x8)]∧Sep w (Row 87 cE v6 l7::Fo) rs9∧(∀ r,r ∈ rs→r ∈ rs9)∧tA l2 k1 l7 x8=some r) (((l2.length:Int) - 0:Int).toNat+1) ?_ ?_
  ·exact have H:=H.nilRow 87 cE;X4 ⟨E.to rfl,H,Y0,hm⟩
  ·clear E H hm
   rintro k1 a w ⟨v6,l7,x8,rs9,E,H,hs10,hm⟩
   cases k1 with
   | zero=>exact (bT hm rfl).elim
   | succ k1=>
    unfold tA at hm
    refine sq<|pr 1 E rfl fun a E=>nt<|wp_seq<|wif E hm rfl (fun hm=>?_) fun hm=>?_
    ·refine wp_skip<|aC<|wp_seq<|wp_block<|sq<|pr 1 E rfl fun a E=>bd hm fun x11 hx12 hm=>dE E H (wn rfl) rfl rfl rfl rfl rfl (hs10 _ hr3) U58 L4 hx12 fun q13 a H E=>ldf I8 E H rfl rfl rfl rfl rfl m0 U60 rfl L4 fun a E=>?_
     refine al E H rfl rfl rfl rfl Xv fun p14 w a H E=>pr 1 E rfl fun a E=>aZ (i:=0) E H (wn rfl) rfl rfl rfl rfl rfl rfl L4 rfl rfl fun w H=>nx<|sv E rfl rfl rfl (cA (i:=0) (us:=(mY x11)) E H rfl rfl rfl rfl U60 rfl L4) fun a E=>bd hm fun u15 hx16 hm=>cG E rfl rfl rfl rfl rfl Xw (Jp H hx16)<|?_
     rintro _ w ⟨v17,rfl,H⟩ a E
     refine sv E rfl rfl rfl (iZ (i:=0) E H rfl rfl rfl U99) fun a E=>pr 1 E rfl fun a E=>nt<|wp_block<|bX (fun k2 a w=>∃ v18 l19 x20 rs21,Env 34 a [(3,v18),(4,.int .i64 x8),(11,v1),(12,.int .i64 (l2.length:Int)),(13,.int .i64 x8),(19,v17),(20,.int .i64 (u15.length:Int)),(21,.int .i64 x20)]∧Sep w (Row 87 cE v18 l19::Row 85 cO v17 u15::Fo) rs21∧(∀ r,r ∈ rs→r ∈ rs21)∧xK (tA l2 k1) u15 x8 k2 l19 x20=some r) (((u15.length:Int) - 0:Int).toNat+1) ?_ ?_
     ·exact have H:=H.drop 1;have H:=H.frs [0,1] rfl;X4 ⟨E.to rfl,H,(Y1 hs10),hm⟩
     ·clear E H hm
      rintro k2 a w ⟨v18,l19,x20,rs21,E,H,hs22,hm⟩
      cases k2 with
      | zero=>exact (bT hm rfl).elim
      | succ k2=>
       unfold xK at hm
       refine sq<|pr 1 E rfl fun a E=>nt<|wp_seq<|wif E hm rfl (fun hm=>?_) fun hm=>?_
       ·refine wp_skip<|aC<|wp_seq<|wp_block<|sq<|bd hm fun x23 hx24 hm=>?_
        obtain ⟨p25,x26,hx27⟩:=H.rowformNE (i:=1) rfl hx24
        refine sv E rfl rfl rfl (cY (d:=cO) E hx27 rfl rfl rfl rfl U99 hP hx24) fun a E=>sv E rfl rfl rfl (fZ (i:=1) E H Aa hx27 rfl rfl rfl hx24 (us:=[.int .i64 x23.Kind,.string x23.Dir,.string x23.Path,.string x23.Data,.int .i64 x23.Version,.int .i64 x23.Owner,.bool x23.Turns]) rfl U85 rfl hP) fun a E=>al E H rfl rfl rfl rfl V2 fun p28 w a H E=>aZ (i:=0) E H (wn rfl) rfl rfl rfl rfl rfl rfl hP rfl rfl fun w H=>nt<|wp_region_lit<|pr 2 E rfl fun a E=>sv E rfl rfl rfl (cA (i:=0) (us:=(cH x23)) E H rfl rfl rfl rfl U85 rfl hP) fun a E=>sv E rfl rfl rfl (cI E rfl (E.evs rfl) (v:=.agg #[.int .i64 x8,.int .i64 x23.Kind,.string x23.Dir,.string x23.Path,.string x23.Data,.int .i64 x23.Version,.int .i64 x23.Owner,.bool x23.Turns]) (by kernel_rfl)) fun a E=>?_
        refine pI (e:=87) (d:=cE) (cs:=[.int .i64 x8,.int .i64 x23.Kind,.string x23.Dir,.string x23.Path,.string x23.Data,.int .i64 x23.Version,.int .i64 x23.Owner,.bool x23.Turns]) (xs:=[(⟨x8,x23⟩:cF)]) E H (wn rfl) rfl rfl rfl (E.evs rfl) (by kernel_rfl) rfl (fun ok hr=>(Rows.single (d:=cE) (cs:=[.int .i64 x8,.int .i64 x23.Kind,.string x23.Dir,.string x23.Path,.string x23.Data,.int .i64 x23.Version,.int .i64 x23.Owner,.bool x23.Turns]) (x:=(⟨x8,x23⟩:cF)) D9)) fun v29 w a H E=>bk hm fun hx32 hm=>dV (i:=1) E H (wn rfl) rfl rfl rfl rfl rfl rfl (jA m0) U26 Uj rfl hx32 rfl fun v30 w a H E=>pr 1 E rfl fun a E=>wpList_nil<|bY<|aC<|wp_region_lit<|pr 2 E rfl fun a E=>?_
        exact nt<|have H:=H.drop 0;⟨k2,Nat.lt_succ_self k2,X4 ⟨E.to rfl,H,(Y1 hs22),hm⟩⟩
       ·refine wp_exit<|bH<|bH<|dG<|bY<|aC<|wp_region_lit<|pr 2 E rfl fun a E=>nt<|?_
        exact have H:=H.drop 1;⟨k1,Nat.lt_succ_self k1,X4 ⟨E.to rfl,H,hs22,hm⟩⟩
    ·refine wp_exit<|bH<|bH<|dG<|aC<|sq<|pr 2 E rfl fun a E=>nt<|wp_ret<|?_
     refine aY E rfl rfl<|?_
     cases hm
     exact ⟨_,rfl,H.reads hs10⟩

def hC (s1:ByteArray):Option (List cF):=
  (G7 ([(⟨1,s1,(ByteArray.mk #[]),0,0,false⟩:dU)]:List dU)).bind fun u3=>some (u3)
theorem lT {w:World} {Fo:List Ob} {rs:List Rp} {s1:ByteArray} (H:Sep w (Fo) rs) {r:(List cF)} (hm:hC s1=some r) :
    Calls Tryz.prog 18 [.string s1].toArray w (Ret fun v w'=>∃ y1,y1=v∧Sep w' (Row 87 cE y1 r::Fo) (rs)):=by
 unfold hC at hm
 refine ent Tryz.func18 rfl Tryz.ntmps18 rfl rfl fun a E=>sq<|pr 1 E rfl fun a E=>nx<|pr 1 E rfl fun a E=>sv E rfl rfl rfl (cI E rfl (E.evs rfl) (v:=.agg #[.int .i64 1,.string s1,.string (ByteArray.mk #[]),.int .i64 0,.int .i64 0,.bool false]) (by kernel_rfl)) fun a E=>fY (e:=60) (d:=xT) (cs:=[.int .i64 1,.string s1,.string (ByteArray.mk #[]),.int .i64 0,.int .i64 0,.bool false]) (xs:=[(⟨1,s1,(ByteArray.mk #[]),0,0,false⟩:dU)]) E H (wn rfl) rfl rfl rfl (E.evs rfl) (by kernel_rfl) rfl rfl (fun ok hr=>(Rows.single (d:=xT) (cs:=[.int .i64 1,.string s1,.string (ByteArray.mk #[]),.int .i64 0,.int .i64 0,.bool false]) (x:=(⟨1,s1,(ByteArray.mk #[]),0,0,false⟩:dU)) R6)) fun v2 w a H E=>have H:=H.thaw (i:=0) rfl;bd hm fun u3 hx4 hm=>?_
 refine cG E rfl rfl rfl rfl rfl Xr (Ih H m0 hx4)<|?_
 rintro _ w ⟨v5,rfl,H⟩ a E
 refine pr 1 E rfl fun a E=>nt<|wp_ret<|aY E rfl rfl<|?_
 cases hm
 exact ⟨_,rfl,H.reads (Y1 Y0)⟩

def hF (rec_1:Int→Option Bool) (x4:Int) (b11:Bool):Option Bool:=
  if b11=true then (some (false)) else (rec_1 (IntKind.i64.wrap (x4+1)))
def fQ (l2:List aH):Nat→Int→Option Bool
  | 0,_=>none
  | k1+1,x4=>
    if (decide (x4 < (l2.length:Int)))=true then ((idx l2 x4).bind fun x7=>(fA x7.Prefix).bind fun u15=>if (!u15)=true then (hF (fQ l2 k1) x4 true) else (if (decide (x7.Epoch < 0))=true then (hF (fQ l2 k1) x4 true) else (if (decide (x7.Epoch > 281474976710656))=true then (hF (fQ l2 k1) x4 true) else (if (decide (x7.State < 1))=true then (hF (fQ l2 k1) x4 true) else (if (decide (x7.State > 3))=true then (hF (fQ l2 k1) x4 true) else (if (decide (x4 > 0))=true then ((idx l2 (IntKind.i64.wrap (x4 - 1))).bind fun x23=>hF (fQ l2 k1) x4 (!(sLt x23.Prefix x7.Prefix))) else (hF (fQ l2 k1) x4 false))))))) else (some (decide ((l2.length:Int) ≤ 32)))
def oL (l2:List aH):Option Bool:=
  fQ l2 (((l2.length:Int) - 0:Int).toNat+1) 0
theorem tB {w:World} {Fo:List Ob} {rs:List Rp} {v1:Value} {l2:List aH} (H:Sep w (Fo) rs) (hr3:rSl aS v1 l2 ∈ rs) {r:Bool} (hm:oL l2=some r) :
    Calls Tryz.prog 21 [v1].toArray w (Ret fun v w'=>.bool r=v∧Sep w' (Fo) (rs)):=by
 unfold oL at hm
 refine ent Tryz.func21 rfl Tryz.ntmps21 rfl rfl fun a E=>sq<|pr 1 E rfl fun a E=>nt<|wp_seq<|sq<|pr 1 E rfl fun a E=>sv E rfl rfl rfl (cR E H rfl rfl hr3 U32) fun a E=>pr 1 E rfl fun a E=>?_
 refine nt<|wp_block<|bX (fun k1 a w=>∃ x4 rs5,Env 55 a [(0,v1),(5,v1),(6,.int .i64 (l2.length:Int)),(7,.int .i64 x4)]∧Sep w (Fo) rs5∧(∀ r,r ∈ rs→r ∈ rs5)∧fQ l2 k1 x4=some r) (((l2.length:Int) - 0:Int).toNat+1) ?_ ?_
 ·exact ⟨_,_,E.to rfl,H,Y0,hm⟩
 ·clear E H hm
  rintro k1 a w ⟨x4,rs5,E,H,hs6,hm⟩
  cases k1 with
  | zero=>exact (bT hm rfl).elim
  | succ k1=>
   unfold fQ at hm
   refine sq<|pr 1 E rfl fun a E=>nt<|wp_seq<|wif E hm rfl (fun hm=>?_) fun hm=>?_
   ·refine wp_skip<|aC<|wp_seq<|wp_block<|sq<|pr 1 E rfl fun a E=>bd hm fun x7 hx8 hm=>dE E H (wn rfl) rfl rfl rfl rfl rfl (hs6 _ hr3) U32 gL hx8 fun q9 a H E=>ldf gZ E H rfl rfl rfl rfl rfl m0 U31 rfl gL fun a E=>?_
    refine al E H rfl rfl rfl rfl Bd fun p10 w a H E=>pr 1 E rfl fun a E=>aZ (i:=0) E H (wn rfl) rfl rfl rfl rfl rfl rfl gL rfl rfl fun w H=>nt<|aT (fun a w=>∃ b11 rs12,Env 55 a [(0,v1),(5,v1),(6,.int .i64 (l2.length:Int)),(7,.int .i64 x4),(50,.bool b11)]∧Sep w (Fo) rs12∧(∀ r,r ∈ rs→r ∈ rs12)∧hF (fQ l2 k1) x4 b11=some r) ?_ ?_
    ·obtain ⟨u14,H⟩:=H.raw (t1 (hs6 _ hr3))
     refine dw [(0,0),(1,0),(2,1),(3,0),(4,0),(5,0),(6,0),(7,0),(8,0),(9,0),(10,0),(11,0),(12,0),(13,0),(14,0),(15,0),(16,0),(17,0),(18,0),(19,0),(20,0),(21,0),(22,0),(23,0),(24,0),(25,0),(26,0),(27,0),(28,0),(29,0),(30,0),(31,0),(32,0),(33,0),(34,0),(35,0),(36,0),(37,0),(38,0)] [0] [0] H (by kernel_rfl) (fun _ _ _ h=>False.elim h.2) fun w W0 hI H=>fn 1 E rfl fun a E=>fb E rfl (wn rfl) rfl rfl rfl rfl m0 rfl U9 rfl fun a E=>bZ rfl<|bd hm fun u15 hx16 hm=>xk E rfl rfl rfl rfl rfl yU (gC H hx16) fun w H a E=>nt<|?_
     refine ⟨⟨_,_,H,(aB m0 (aL)),(aA m0 (aM))⟩,?_⟩
     refine fn 2 E rfl fun a E=>cs hm (fun hb17 hm=>?_) fun hb17 hm=>?_
     ·refine fk 34 E (kc 16 rfl hb17) rfl fun a E=>bR<|?_
      clear hI
      exact aC<|have H:=H.drop 0;⟨_,_,E.to rfl,H,(Y2 hs6),hm⟩
     ·refine fk 1 E (kc 16 rfl hb17) rfl fun a E=>fb E rfl (ws' (d:=16) E rfl rfl rfl rfl hb17) rfl rfl rfl rfl m0 rfl U2 rfl fun a E=>fk 3 E (kc 16 rfl hb17) rfl fun a E=>cs hm (fun hb18 hm=>?_) fun hb18 hm=>?_
      ·refine fk 29 E (kc 21 rfl hb18) rfl fun a E=>bR<|?_
       clear hI
       exact aC<|have H:=H.drop 0;⟨_,_,E.to rfl,H,(Y2 hs6),hm⟩
      ·refine fk 1 E (kc 21 rfl hb18) rfl fun a E=>fb E rfl (ws' (d:=21) E rfl rfl rfl rfl hb18) rfl rfl rfl rfl m0 rfl U2 rfl fun a E=>fk 3 E (kc 21 rfl hb18) rfl fun a E=>cs hm (fun hb19 hm=>?_) fun hb19 hm=>?_
       ·refine fk 24 E (kc 26 rfl hb19) rfl fun a E=>bR<|?_
        clear hI
        exact aC<|have H:=H.drop 0;⟨_,_,E.to rfl,H,(Y2 hs6),hm⟩
       ·refine fk 1 E (kc 26 rfl hb19) rfl fun a E=>fb E rfl (ws' (d:=26) E rfl rfl rfl rfl hb19) rfl rfl rfl rfl m0 rfl U3 rfl fun a E=>fk 3 E (kc 26 rfl hb19) rfl fun a E=>cs hm (fun hb20 hm=>?_) fun hb20 hm=>?_
        ·refine fk 19 E (kc 31 rfl hb20) rfl fun a E=>bR<|?_
         clear hI
         exact aC<|have H:=H.drop 0;⟨_,_,E.to rfl,H,(Y2 hs6),hm⟩
        ·refine fk 1 E (kc 31 rfl hb20) rfl fun a E=>fb E rfl (ws' (d:=31) E rfl rfl rfl rfl hb20) rfl rfl rfl rfl m0 rfl U3 rfl fun a E=>fk 3 E (kc 31 rfl hb20) rfl fun a E=>cs hm (fun hb21 hm=>?_) fun hb21 hm=>?_
         ·refine fk 14 E (kc 36 rfl hb21) rfl fun a E=>bR<|?_
          clear hI
          exact aC<|have H:=H.drop 0;⟨_,_,E.to rfl,H,(Y2 hs6),hm⟩
         ·refine fk 3 E (kc 36 rfl hb21) rfl fun a E=>cs hm (fun hb22 hm=>?_) fun hb22 hm=>?_
          ·refine fk 3 E (kc 39 rfl hb22) rfl fun a E=>bd hm fun x23 hx24 hm=>?_
           obtain ⟨q25,u28,hx26,hx27⟩:=oO (P:=Tryz.prog) (k:=.i64) hI (oN (.head _)) U32 gL hx24
           refine bW E rfl (ws' (d:=39) E rfl rfl rfl rfl hb22) rfl rfl (fun w hW=>rI E rfl rfl rfl (hx26 w)) fun a E=>?_
           have hx29:=uU hx27 (fun _ _ _ h=>nV h)
           refine fk 1 E (kc 39 rfl hb22) rfl fun a E=>fa E rfl (ws' (d:=39) E rfl rfl rfl rfl hb22) rfl rfl rfl rfl hx29 U9 rfl fun a E=>fk 1 E (kc 39 rfl hb22) rfl fun a E=>fb E rfl (ws' (d:=39) E rfl rfl rfl rfl hb22) rfl rfl rfl rfl m0 rfl U9 rfl fun a E=>fk 3 E (kc' (kc 39 rfl hb22) 36 rfl hb21) rfl fun a E=>bR<|?_
           clear hI
           exact aC<|have H:=H.drop 0;⟨_,_,E.to rfl,H,(Y2 hs6),hm⟩
          ·refine fk 11 E (kc' (kc 39 rfl hb22) 36 rfl hb21) rfl fun a E=>bR<|?_
           clear hI
           exact aC<|have H:=H.drop 0;⟨_,_,E.to rfl,H,(Y2 hs6),hm⟩
    ·clear E H hm
     rintro a w ⟨b11,rs12,E,H,hs13,hm⟩
     unfold hF at hm
     refine wif E hm rfl (fun hm=>?_) fun hm=>?_
     ·refine sq<|pr 1 E rfl fun a E=>nt<|wp_ret<|bV<|aP<|aP<|bV<|aP<|?_
      refine aY E rfl rfl<|?_
      cases hm
      exact ⟨rfl,H.reads hs13⟩
     ·exact wp_skip<|bY<|aC<|wp_region_lit<|pr 2 E rfl fun a E=>nt<|⟨k1,Nat.lt_succ_self k1,_,_,E.to rfl,H,hs13,hm⟩
   ·refine wp_exit<|bH<|bH<|dG<|aC<|sq<|pr 1 E rfl fun a E=>sv E rfl rfl rfl (cR E H rfl rfl (hs6 _ hr3) U32) fun a E=>pr 2 E rfl fun a E=>?_
    refine nt<|wp_ret<|aY E rfl rfl<|?_
    cases hm
    exact ⟨rfl,H.reads hs6⟩

def vU (x1:aE):Option ByteArray:=
  some (x1.Path)
theorem E3 {w:World} {Fo:List Ob} {rs:List Rp} {x1:aE} (H:Sep w (Fo) rs) {r:ByteArray} (hm:vU x1=some r) :
    Calls Tryz.prog 54 [.agg (iQ x1).toArray].toArray w (Ret fun v w'=>.string r=v∧Sep w' (Fo) (rs)):=by
 unfold vU at hm
 refine ent Tryz.func54 rfl Tryz.ntmps54 rfl rfl fun a E=>sq<|bS E H (wn rfl) rfl rfl rfl rfl rfl fun p2 w a H E=>pr 1 E rfl fun a E=>nx<|pr 1 E rfl fun a E=>lb E H 0 rfl rfl rfl rfl rfl rfl rfl U9 rfl fun a E=>pr 1 E rfl fun a E=>nt<|?_
 refine wp_ret<|aY E rfl rfl<|have H:=H.drop 0;?_
 cases hm
 exact ⟨rfl,H.reads Y0⟩

def lL (rec_1:Int→Option Bool) (x4:Int) (b7:Bool):Option Bool:=
  if b7=true then (some (false)) else (rec_1 (IntKind.i64.wrap (x4+1)))
def gI (l2:List aE):Nat→Int→Option Bool
  | 0,_=>none
  | k1+1,x4=>
    if (decide (x4 < (l2.length:Int)))=true then (if (decide (x4 > 0))=true then ((idx l2 (IntKind.i64.wrap (x4 - 1))).bind fun x12=>(idx l2 x4).bind fun x18=>(vU x12).bind fun u24=>(vU x18).bind fun u26=>lL (gI l2 k1) x4 (!(sLt u24 u26))) else (lL (gI l2 k1) x4 false)) else (some (true))
def rF (l2:List aE):Option Bool:=
  gI l2 (((l2.length:Int) - 0:Int).toNat+1) 0
theorem C2 {w:World} {Fo:List Ob} {rs:List Rp} {v1:Value} {l2:List aE} (H:Sep w (Fo) rs) (hr3:rSl aF v1 l2 ∈ rs) {r:Bool} (hm:rF l2=some r) :
    Calls Tryz.prog 53 [v1,.func (.func 54) #[] #[]].toArray w (Ret fun v w'=>.bool r=v∧Sep w' (Fo) (rs)):=by
 unfold rF at hm
 refine ent Tryz.func53 rfl Tryz.ntmps53 rfl rfl fun a E=>sq<|pr 1 E rfl fun a E=>nt<|wp_seq<|sq<|pr 1 E rfl fun a E=>sv E rfl rfl rfl (cR E H rfl rfl hr3 U22) fun a E=>pr 1 E rfl fun a E=>?_
 refine nt<|wp_block<|bX (fun k1 a w=>∃ x4 rs5,Env 30 a [(0,v1),(1,.func (.func 54) #[] #[]),(7,.int .i64 (l2.length:Int)),(8,.int .i64 x4)]∧Sep w (Fo) rs5∧(∀ r,r ∈ rs→r ∈ rs5)∧gI l2 k1 x4=some r) (((l2.length:Int) - 0:Int).toNat+1) ?_ ?_
 ·exact ⟨_,_,E.to rfl,H,Y0,hm⟩
 ·clear E H hm
  rintro k1 a w ⟨x4,rs5,E,H,hs6,hm⟩
  cases k1 with
  | zero=>exact (bT hm rfl).elim
  | succ k1=>
   unfold gI at hm
   refine sq<|pr 1 E rfl fun a E=>nt<|wp_seq<|wif E hm rfl (fun hm=>?_) fun hm=>?_
   ·refine wp_skip<|aC<|wp_seq<|wp_block<|sq<|pr 2 E rfl fun a E=>nt<|aT (fun a w=>∃ b7 rs8,Env 30 a [(0,v1),(1,.func (.func 54) #[] #[]),(7,.int .i64 (l2.length:Int)),(8,.int .i64 x4),(28,.bool b7)]∧Sep w (Fo) rs8∧(∀ r,r ∈ rs→r ∈ rs8)∧lL (gI l2 k1) x4 b7=some r) ?_ ?_
    ·obtain ⟨u10,H⟩:=H.raw (hs6 _ hr3)
     refine dw [(0,0),(1,0),(2,0),(3,0),(4,0),(5,0),(6,0),(7,0),(8,0),(10,0),(11,0),(12,0),(13,0),(14,0),(9,1),(15,1),(16,0),(17,0)] [] [0] H (by kernel_rfl) (fun _ _ _ h=>False.elim h.2) fun w W0 hI H=>fn 3 E rfl fun a E=>cs hm (fun hb11 hm=>?_) fun hb11 hm=>?_
     ·refine fk 4 E (kc 13 rfl hb11) rfl fun a E=>bd hm fun x12 hx13 hm=>?_
      obtain ⟨q14,u17,hx15,hx16⟩:=oO (P:=Tryz.prog) (k:=.i64) hI (oN (.head _)) U22 iR hx13
      refine bW E rfl (ws' (d:=13) E rfl rfl rfl rfl hb11) rfl rfl (fun w hW=>rI E rfl rfl rfl (hx15 w)) fun a E=>?_
      refine bW E rfl (ws' (d:=13) E rfl rfl rfl rfl hb11) rfl rfl (fun w hW=>eZ E rfl rfl (W7 (cs:=[.string x12.Path,.string x12.Data,.int .i64 x12.Version,.int .i64 x12.Turn,.int .i64 x12.Owner]) (DR.ir (W9 hx16)) (fun _ _ _ h=>yQ h) U95 rfl iR w hW)) fun a E=>?_
      refine fk 3 E (kc 13 rfl hb11) rfl fun a E=>bd hm fun x18 hx19 hm=>?_
      obtain ⟨q20,u23,hx21,hx22⟩:=oO (P:=Tryz.prog) (k:=.i64) hI (oN (.head _)) U22 iR hx19
      refine bW E rfl (ws' (d:=13) E rfl rfl rfl rfl hb11) rfl rfl (fun w hW=>rI E rfl rfl rfl (hx21 w)) fun a E=>?_
      refine bW E rfl (ws' (d:=13) E rfl rfl rfl rfl hb11) rfl rfl (fun w hW=>eZ E rfl rfl (W7 (cs:=[.string x18.Path,.string x18.Data,.int .i64 x18.Version,.int .i64 x18.Turn,.int .i64 x18.Owner]) (DR.ir (W9 hx22)) (fun _ _ _ h=>yQ h) U95 rfl iR w hW)) fun a E=>?_
      refine bZ rfl<|bd hm fun u24 hx25 hm=>aU E (ws' (d:=13) E rfl rfl rfl rfl hb11) rfl rfl (bP E rfl rfl rfl (Po _)) (E3 H hx25)<|?_
      rintro _ w ⟨rfl,H⟩ a E
      refine nt<|?_
      refine ⟨⟨_,_,H,(aL),(aA m0 (aM))⟩,?_⟩
      refine bZ rfl<|bd hm fun u26 hx27 hm=>aU E (ws' (d:=13) E rfl rfl rfl rfl hb11) rfl rfl (bP E rfl rfl rfl (Po _)) (E3 H hx27)<|?_
      rintro _ w ⟨rfl,H⟩ a E
      refine nt<|?_
      refine ⟨⟨_,_,H,(aL),(aA m0 (aM))⟩,?_⟩
      refine fk 2 E (kc 13 rfl hb11) rfl fun a E=>bR<|?_
      clear hI
      exact aC<|⟨_,_,E.to rfl,H,(Y1 hs6),hm⟩
     ·refine fk 11 E (kc 13 rfl hb11) rfl fun a E=>bZ rfl<|pk 1 E (kc 13 rfl hb11) rfl fun a E=>nt<|?_
      refine ⟨⟨_,_,H,(aL),(aA m0 (aM))⟩,?_⟩
      refine bZ rfl<|pk 1 E (kc 13 rfl hb11) rfl fun a E=>nt<|?_
      refine ⟨⟨_,_,H,(aL),(aA m0 (aM))⟩,?_⟩
      refine fk 2 E (kc 13 rfl hb11) rfl fun a E=>bR<|?_
      clear hI
      exact aC<|⟨_,_,E.to rfl,H,(Y1 hs6),hm⟩
    ·clear E H hm
     rintro a w ⟨b7,rs8,E,H,hs9,hm⟩
     unfold lL at hm
     refine wif E hm rfl (fun hm=>?_) fun hm=>?_
     ·refine sq<|pr 1 E rfl fun a E=>nt<|wp_ret<|bV<|aP<|aP<|bV<|aP<|?_
      refine aY E rfl rfl<|?_
      cases hm
      exact ⟨rfl,H.reads hs9⟩
     ·exact wp_skip<|bY<|aC<|wp_region_lit<|pr 2 E rfl fun a E=>nt<|⟨k1,Nat.lt_succ_self k1,_,_,E.to rfl,H,hs9,hm⟩
   ·refine wp_exit<|bH<|bH<|dG<|aC<|sq<|pr 1 E rfl fun a E=>nt<|wp_ret<|?_
    refine aY E rfl rfl<|?_
    cases hm
    exact ⟨rfl,H.reads hs6⟩

def vV (x1:aI):Option ByteArray:=
  some (x1.Dir)
theorem E4 {w:World} {Fo:List Ob} {rs:List Rp} {x1:aI} (H:Sep w (Fo) rs) {r:ByteArray} (hm:vV x1=some r) :
    Calls Tryz.prog 56 [.agg #[.string x1.Dir,.int .i64 x1.Next]].toArray w (Ret fun v w'=>.string r=v∧Sep w' (Fo) (rs)):=by
 unfold vV at hm
 refine ent Tryz.func56 rfl Tryz.ntmps56 rfl rfl fun a E=>sq<|bS E H (wn rfl) rfl rfl rfl rfl rfl fun p2 w a H E=>pr 1 E rfl fun a E=>nx<|pr 1 E rfl fun a E=>lb E H 0 rfl rfl rfl rfl rfl rfl rfl U9 rfl fun a E=>pr 1 E rfl fun a E=>nt<|?_
 refine wp_ret<|aY E rfl rfl<|have H:=H.drop 0;?_
 cases hm
 exact ⟨rfl,H.reads Y0⟩

def lM (rec_1:Int→Option Bool) (x4:Int) (b7:Bool):Option Bool:=
  if b7=true then (some (false)) else (rec_1 (IntKind.i64.wrap (x4+1)))
def gJ (l2:List aI):Nat→Int→Option Bool
  | 0,_=>none
  | k1+1,x4=>
    if (decide (x4 < (l2.length:Int)))=true then (if (decide (x4 > 0))=true then ((idx l2 (IntKind.i64.wrap (x4 - 1))).bind fun x12=>(idx l2 x4).bind fun x18=>(vV x12).bind fun u24=>(vV x18).bind fun u26=>lM (gJ l2 k1) x4 (!(sLt u24 u26))) else (lM (gJ l2 k1) x4 false)) else (some (true))
def rG (l2:List aI):Option Bool:=
  gJ l2 (((l2.length:Int) - 0:Int).toNat+1) 0
theorem C3 {w:World} {Fo:List Ob} {rs:List Rp} {v1:Value} {l2:List aI} (H:Sep w (Fo) rs) (hr3:rSl aJ v1 l2 ∈ rs) {r:Bool} (hm:rG l2=some r) :
    Calls Tryz.prog 55 [v1,.func (.func 56) #[] #[]].toArray w (Ret fun v w'=>.bool r=v∧Sep w' (Fo) (rs)):=by
 unfold rG at hm
 refine ent Tryz.func55 rfl Tryz.ntmps55 rfl rfl fun a E=>sq<|pr 1 E rfl fun a E=>nt<|wp_seq<|sq<|pr 1 E rfl fun a E=>sv E rfl rfl rfl (cR E H rfl rfl hr3 U23) fun a E=>pr 1 E rfl fun a E=>?_
 refine nt<|wp_block<|bX (fun k1 a w=>∃ x4 rs5,Env 30 a [(0,v1),(1,.func (.func 56) #[] #[]),(7,.int .i64 (l2.length:Int)),(8,.int .i64 x4)]∧Sep w (Fo) rs5∧(∀ r,r ∈ rs→r ∈ rs5)∧gJ l2 k1 x4=some r) (((l2.length:Int) - 0:Int).toNat+1) ?_ ?_
 ·exact ⟨_,_,E.to rfl,H,Y0,hm⟩
 ·clear E H hm
  rintro k1 a w ⟨x4,rs5,E,H,hs6,hm⟩
  cases k1 with
  | zero=>exact (bT hm rfl).elim
  | succ k1=>
   unfold gJ at hm
   refine sq<|pr 1 E rfl fun a E=>nt<|wp_seq<|wif E hm rfl (fun hm=>?_) fun hm=>?_
   ·refine wp_skip<|aC<|wp_seq<|wp_block<|sq<|pr 2 E rfl fun a E=>nt<|aT (fun a w=>∃ b7 rs8,Env 30 a [(0,v1),(1,.func (.func 56) #[] #[]),(7,.int .i64 (l2.length:Int)),(8,.int .i64 x4),(28,.bool b7)]∧Sep w (Fo) rs8∧(∀ r,r ∈ rs→r ∈ rs8)∧lM (gJ l2 k1) x4 b7=some r) ?_ ?_
    ·obtain ⟨u10,H⟩:=H.raw (hs6 _ hr3)
     refine dw [(0,0),(1,0),(2,0),(3,0),(4,0),(5,0),(6,0),(7,0),(8,0),(10,0),(11,0),(12,0),(13,0),(14,0),(9,1),(15,1),(16,0),(17,0)] [] [0] H (by kernel_rfl) (fun _ _ _ h=>False.elim h.2) fun w W0 hI H=>fn 3 E rfl fun a E=>cs hm (fun hb11 hm=>?_) fun hb11 hm=>?_
     ·refine fk 4 E (kc 13 rfl hb11) rfl fun a E=>bd hm fun x12 hx13 hm=>?_
      obtain ⟨q14,u17,hx15,hx16⟩:=oO (P:=Tryz.prog) (k:=.i64) hI (oN (.head _)) U23 oK hx13
      refine bW E rfl (ws' (d:=13) E rfl rfl rfl rfl hb11) rfl rfl (fun w hW=>rI E rfl rfl rfl (hx15 w)) fun a E=>?_
      refine bW E rfl (ws' (d:=13) E rfl rfl rfl rfl hb11) rfl rfl (fun w hW=>eZ E rfl rfl (W7 (cs:=[.string x12.Dir,.int .i64 x12.Next]) (DR.ir (W9 hx16)) (fun _ _ _ h=>yR h) U77 rfl oK w hW)) fun a E=>?_
      refine fk 3 E (kc 13 rfl hb11) rfl fun a E=>bd hm fun x18 hx19 hm=>?_
      obtain ⟨q20,u23,hx21,hx22⟩:=oO (P:=Tryz.prog) (k:=.i64) hI (oN (.head _)) U23 oK hx19
      refine bW E rfl (ws' (d:=13) E rfl rfl rfl rfl hb11) rfl rfl (fun w hW=>rI E rfl rfl rfl (hx21 w)) fun a E=>?_
      refine bW E rfl (ws' (d:=13) E rfl rfl rfl rfl hb11) rfl rfl (fun w hW=>eZ E rfl rfl (W7 (cs:=[.string x18.Dir,.int .i64 x18.Next]) (DR.ir (W9 hx22)) (fun _ _ _ h=>yR h) U77 rfl oK w hW)) fun a E=>?_
      refine bZ rfl<|bd hm fun u24 hx25 hm=>aU E (ws' (d:=13) E rfl rfl rfl rfl hb11) rfl rfl (bP E rfl rfl rfl (Pp _)) (E4 H hx25)<|?_
      rintro _ w ⟨rfl,H⟩ a E
      refine nt<|?_
      refine ⟨⟨_,_,H,(aL),(aA m0 (aM))⟩,?_⟩
      refine bZ rfl<|bd hm fun u26 hx27 hm=>aU E (ws' (d:=13) E rfl rfl rfl rfl hb11) rfl rfl (bP E rfl rfl rfl (Pp _)) (E4 H hx27)<|?_
      rintro _ w ⟨rfl,H⟩ a E
      refine nt<|?_
      refine ⟨⟨_,_,H,(aL),(aA m0 (aM))⟩,?_⟩
      refine fk 2 E (kc 13 rfl hb11) rfl fun a E=>bR<|?_
      clear hI
      exact aC<|⟨_,_,E.to rfl,H,(Y1 hs6),hm⟩
     ·refine fk 11 E (kc 13 rfl hb11) rfl fun a E=>bZ rfl<|pk 1 E (kc 13 rfl hb11) rfl fun a E=>nt<|?_
      refine ⟨⟨_,_,H,(aL),(aA m0 (aM))⟩,?_⟩
      refine bZ rfl<|pk 1 E (kc 13 rfl hb11) rfl fun a E=>nt<|?_
      refine ⟨⟨_,_,H,(aL),(aA m0 (aM))⟩,?_⟩
      refine fk 2 E (kc 13 rfl hb11) rfl fun a E=>bR<|?_
      clear hI
      exact aC<|⟨_,_,E.to rfl,H,(Y1 hs6),hm⟩
    ·clear E H hm
     rintro a w ⟨b7,rs8,E,H,hs9,hm⟩
     unfold lM at hm
     refine wif E hm rfl (fun hm=>?_) fun hm=>?_
     ·refine sq<|pr 1 E rfl fun a E=>nt<|wp_ret<|bV<|aP<|aP<|bV<|aP<|?_
      refine aY E rfl rfl<|?_
      cases hm
      exact ⟨rfl,H.reads hs9⟩
     ·exact wp_skip<|bY<|aC<|wp_region_lit<|pr 2 E rfl fun a E=>nt<|⟨k1,Nat.lt_succ_self k1,_,_,E.to rfl,H,hs9,hm⟩
   ·refine wp_exit<|bH<|bH<|dG<|aC<|sq<|pr 1 E rfl fun a E=>nt<|wp_ret<|?_
    refine aY E rfl rfl<|?_
    cases hm
    exact ⟨rfl,H.reads hs6⟩

def tC (x1:Int) (x2:Int) (x3:Int):Option Bool:=
  if (decide (x1 ≥ x2))=true then (some (decide (x1 ≤ x3))) else (some (false))
theorem k5 {w:World} {Fo:List Ob} {rs:List Rp} {x1 x2 x3:Int} (H:Sep w (Fo) rs) {r:Bool} (hm:tC x1 x2 x3=some r) :
    Calls Tryz.prog 52 [.int .i64 x1,.int .i64 x2,.int .i64 x3].toArray w (Ret fun v w'=>.bool r=v∧Sep w' (Fo) (rs)):=by
 unfold tC at hm
 refine ent Tryz.func52 rfl Tryz.ntmps52 rfl rfl fun a E=>sq<|pr 1 E rfl fun a E=>nx<|pr 4 E rfl fun a E=>cs hm (fun hb4 hm=>?_) fun hb4 hm=>?_
 ·refine pk 5 E (kc 10 rfl hb4) rfl fun a E=>nt<|wp_ret<|aY E rfl rfl<|?_
  cases hm
  exact ⟨rfl,H.reads Y0⟩
 ·refine pk 5 E (kc 10 rfl hb4) rfl fun a E=>nt<|wp_ret<|aY E rfl rfl<|?_
  cases hm
  exact ⟨rfl,H.reads Y0⟩

def xL (s1:ByteArray) (s2:ByteArray) (x3:Int) (x4:Int) (x5:Int):Option Bool:=
  (fA s1).bind fun u6=>if u6=true then (if (decide ((s2.size:Int) ≤ 256))=true then ((tC x3 x4 281474976710656).bind fun u10=>if u10=true then ((tC x5 0 1099511627776).bind fun u13=>some (u13)) else (some (false))) else (some (false))) else (some (false))
theorem J1 {w:World} {Fo:List Ob} {rs:List Rp} {s1 s2:ByteArray} {x3 x4 x5:Int} (H:Sep w (Fo) rs) {r:Bool} (hm:xL s1 s2 x3 x4 x5=some r) :
    Calls Tryz.prog 48 [.string s1,.string s2,.int .i64 x3,.int .i64 x4,.int .i64 x5].toArray w (Ret fun v w'=>.bool r=v∧Sep w' (Fo) (rs)):=by
 unfold xL at hm
 refine ent Tryz.func48 rfl Tryz.ntmps48 rfl rfl fun a E=>sq<|pr 1 E rfl fun a E=>nx<|pr 1 E rfl fun a E=>bd hm fun u6 hx7 hm=>xk E rfl rfl rfl rfl rfl yU (gC H hx7) fun w H a E=>pr 1 E rfl fun a E=>cs hm (fun hb8 hm=>?_) fun hb8 hm=>?_
 ·refine pk 5 E (kc 13 rfl hb8) rfl fun a E=>cs hm (fun hb9 hm=>?_) fun hb9 hm=>?_
  ·refine pk 2 E (kc 18 rfl hb9) rfl fun a E=>bd hm fun u10 hx11 hm=>aU E (ws' (d:=18) E rfl rfl rfl rfl hb9) rfl rfl (cC E rfl rfl (Kl _)) (k5 H hx11)<|?_
   rintro _ w ⟨rfl,H⟩ a E
   refine pk 2 E (kc 18 rfl hb9) rfl fun a E=>cs hm (fun hb12 hm=>?_) fun hb12 hm=>?_
   ·refine pk 1 E (kc 23 rfl hb12) rfl fun a E=>bd hm fun u13 hx14 hm=>aU E (ws' (d:=23) E rfl rfl rfl rfl hb12) rfl rfl (cC E rfl rfl (Kl _)) (k5 H hx14)<|?_
    rintro _ w ⟨rfl,H⟩ a E
    refine pk 2 E (kc 23 rfl hb12) rfl fun a E=>nt<|wp_ret<|aY E rfl rfl<|?_
    cases hm
    exact ⟨rfl,H.reads Y0⟩
   ·refine pk 4 E (kc 23 rfl hb12) rfl fun a E=>nt<|wp_ret<|aY E rfl rfl<|?_
    cases hm
    exact ⟨rfl,H.reads Y0⟩
  ·refine pk 9 E (kc 18 rfl hb9) rfl fun a E=>nt<|wp_ret<|aY E rfl rfl<|?_
   cases hm
   exact ⟨rfl,H.reads Y0⟩
 ·refine pk 14 E (kc 13 rfl hb8) rfl fun a E=>nt<|wp_ret<|aY E rfl rfl<|?_
  cases hm
  exact ⟨rfl,H.reads Y0⟩

def zW (x1:aE):Option Bool:=
  if (x1.Turn != 0)=true then (some (true)) else ((xL x1.Path x1.Data x1.Version 0 x1.Owner).bind fun u4=>some (!u4))
theorem Bk {w:World} {Fo:List Ob} {rs:List Rp} {x1:aE} (H:Sep w (Fo) rs) {r:Bool} (hm:zW x1=some r) :
    Calls Tryz.prog 47 [.agg (iQ x1).toArray].toArray w (Ret fun v w'=>.bool r=v∧Sep w' (Fo) (rs)):=by
 unfold zW at hm
 refine ent Tryz.func47 rfl Tryz.ntmps47 rfl rfl fun a E=>sq<|bS E H (wn rfl) rfl rfl rfl rfl rfl fun p2 w a H E=>pr 1 E rfl fun a E=>nx<|pr 1 E rfl fun a E=>lb E H 0 rfl rfl rfl rfl rfl rfl rfl U2 rfl fun a E=>pr 2 E rfl fun a E=>cs hm (fun hb3 hm=>?_) fun hb3 hm=>?_
 ·refine pk 12 E (kc 6 rfl hb3) rfl fun a E=>nt<|wp_ret<|aY E rfl rfl<|have H:=H.drop 0;?_
  cases hm
  exact ⟨rfl,H.reads Y0⟩
 ·refine pk 1 E (kc 6 rfl hb3) rfl fun a E=>aQ E (ws' (d:=6) E rfl rfl rfl rfl hb3) rfl rfl (cD (i:=0) E H rfl rfl rfl rfl U9 rfl) fun a E=>pk 1 E (kc 6 rfl hb3) rfl fun a E=>aQ E (ws' (d:=6) E rfl rfl rfl rfl hb3) rfl rfl (cD (i:=0) E H rfl rfl rfl rfl U9 rfl) fun a E=>pk 1 E (kc 6 rfl hb3) rfl fun a E=>aQ E (ws' (d:=6) E rfl rfl rfl rfl hb3) rfl rfl (cD (i:=0) E H rfl rfl rfl rfl U2 rfl) fun a E=>pk 1 E (kc 6 rfl hb3) rfl fun a E=>aQ E (ws' (d:=6) E rfl rfl rfl rfl hb3) rfl rfl (cD (i:=0) E H rfl rfl rfl rfl U2 rfl) fun a E=>bd hm fun u4 hx5 hm=>?_
  refine aU E (ws' (d:=6) E rfl rfl rfl rfl hb3) rfl rfl (cC E rfl rfl (Pi _)) (J1 H hx5)<|?_
  rintro _ w ⟨rfl,H⟩ a E
  refine pk 3 E (kc 6 rfl hb3) rfl fun a E=>nt<|wp_ret<|aY E rfl rfl<|have H:=H.drop 0;?_
  cases hm
  exact ⟨rfl,H.reads Y0⟩

def fN (l2:List aE):Nat→Int→Option Int
  | 0,_=>none
  | k1+1,x4=>
    if (decide (x4 < (l2.length:Int)))=true then ((idx l2 x4).bind fun x7=>(zW x7).bind fun u10=>if u10=true then (some (x4)) else (fN l2 k1 (IntKind.i64.wrap (x4+1)))) else (some ((-1)))
def jE (l2:List aE):Option Int:=
  fN l2 (((l2.length:Int) - 0:Int).toNat+1) 0
theorem uV {w:World} {Fo:List Ob} {rs:List Rp} {v1:Value} {l2:List aE} (H:Sep w (Fo) rs) (hr3:rSl aF v1 l2 ∈ rs) {r:Int} (hm:jE l2=some r) :
    Calls Tryz.prog 105 [v1,.func (.func 47) #[] #[]].toArray w (Ret fun v w'=>.int .i64 r=v∧Sep w' (Fo) (rs)):=by
 unfold jE at hm
 refine ent Tryz.func105 rfl Tryz.ntmps105 rfl rfl fun a E=>sq<|pr 1 E rfl fun a E=>nt<|wp_seq<|sq<|pr 1 E rfl fun a E=>sv E rfl rfl rfl (cR E H rfl rfl hr3 U22) fun a E=>pr 1 E rfl fun a E=>?_
 refine nt<|wp_block<|bX (fun k1 a w=>∃ x4 rs5,Env 19 a [(0,v1),(1,.func (.func 47) #[] #[]),(7,.int .i64 (l2.length:Int)),(8,.int .i64 x4)]∧Sep w (Fo) rs5∧(∀ r,r ∈ rs→r ∈ rs5)∧fN l2 k1 x4=some r) (((l2.length:Int) - 0:Int).toNat+1) ?_ ?_
 ·exact ⟨_,_,E.to rfl,H,Y0,hm⟩
 ·clear E H hm
  rintro k1 a w ⟨x4,rs5,E,H,hs6,hm⟩
  cases k1 with
  | zero=>exact (bT hm rfl).elim
  | succ k1=>
   unfold fN at hm
   refine sq<|pr 1 E rfl fun a E=>nt<|wp_seq<|wif E hm rfl (fun hm=>?_) fun hm=>?_
   ·refine wp_skip<|aC<|wp_seq<|wp_block<|sq<|pr 2 E rfl fun a E=>nx<|pr 3 E rfl fun a E=>bd hm fun x7 hx8 hm=>?_
    refine dE E H (wn rfl) rfl rfl rfl rfl rfl (hs6 _ hr3) U22 iR hx8 fun q9 a H E=>ldf cK E H rfl rfl rfl rfl rfl m0 U95 rfl iR fun a E=>bd hm fun u10 hx11 hm=>aU E (wn rfl) rfl rfl (bP E rfl rfl rfl (Xm _)) (Bk H hx11)<|?_
    rintro _ w ⟨rfl,H⟩ a E
    refine nt<|wif E hm rfl (fun hm=>?_) fun hm=>?_
    ·refine sq<|pr 2 E rfl fun a E=>nt<|wp_ret<|bV<|aP<|aP<|bV<|aP<|?_
     refine aY E rfl rfl<|?_
     cases hm
     exact ⟨rfl,H.reads (Y1 hs6)⟩
    ·exact wp_skip<|bY<|aC<|wp_region_lit<|pr 2 E rfl fun a E=>nt<|⟨k1,Nat.lt_succ_self k1,_,_,E.to rfl,H,(Y1 hs6),hm⟩
   ·refine wp_exit<|bH<|bH<|dG<|aC<|sq<|pr 1 E rfl fun a E=>nt<|wp_ret<|?_
    refine aY E rfl rfl<|?_
    cases hm
    exact ⟨rfl,H.reads hs6⟩

def hU (l2:List aE):Option Bool:=
  (jE l2).bind fun u4=>some (decide (u4 ≥ 0))
theorem tD {w:World} {Fo:List Ob} {rs:List Rp} {v1:Value} {l2:List aE} (H:Sep w (Fo) rs) (hr3:rSl aF v1 l2 ∈ rs) {r:Bool} (hm:hU l2=some r) :
    Calls Tryz.prog 46 [v1,.func (.func 47) #[] #[]].toArray w (Ret fun v w'=>.bool r=v∧Sep w' (Fo) (rs)):=by
 unfold hU at hm
 refine ent Tryz.func46 rfl Tryz.ntmps46 rfl rfl fun a E=>sq<|pr 1 E rfl fun a E=>nx<|pr 2 E rfl fun a E=>bd hm fun u4 hx5 hm=>xk E rfl rfl rfl rfl rfl Gv (uV H hr3 hx5) fun w H a E=>pr 2 E rfl fun a E=>nt<|?_
 refine wp_ret<|aY E rfl rfl<|?_
 cases hm
 exact ⟨rfl,H.reads Y0⟩

def zX (x1:aI):Option Bool:=
  (fA x1.Dir).bind fun u3=>if (!u3)=true then (some (true)) else ((tC x1.Next 1 10000).bind fun u6=>some (!u6))
theorem Bl {w:World} {Fo:List Ob} {rs:List Rp} {x1:aI} (H:Sep w (Fo) rs) {r:Bool} (hm:zX x1=some r) :
    Calls Tryz.prog 50 [.agg #[.string x1.Dir,.int .i64 x1.Next]].toArray w (Ret fun v w'=>.bool r=v∧Sep w' (Fo) (rs)):=by
 unfold zX at hm
 refine ent Tryz.func50 rfl Tryz.ntmps50 rfl rfl fun a E=>sq<|bS E H (wn rfl) rfl rfl rfl rfl rfl fun p2 w a H E=>pr 1 E rfl fun a E=>nx<|pr 1 E rfl fun a E=>lb E H 0 rfl rfl rfl rfl rfl rfl rfl U9 rfl fun a E=>bd hm fun u3 hx4 hm=>xk E rfl rfl rfl rfl rfl yU (gC H hx4) fun w H a E=>?_
 refine pr 2 E rfl fun a E=>cs hm (fun hb5 hm=>?_) fun hb5 hm=>?_
 ·refine pk 6 E (kc 7 rfl hb5) rfl fun a E=>nt<|wp_ret<|aY E rfl rfl<|have H:=H.drop 0;?_
  cases hm
  exact ⟨rfl,H.reads Y0⟩
 ·refine pk 1 E (kc 7 rfl hb5) rfl fun a E=>aQ E (ws' (d:=7) E rfl rfl rfl rfl hb5) rfl rfl (cD (i:=0) E H rfl rfl rfl rfl U2 rfl) fun a E=>bd hm fun u6 hx7 hm=>aU E (ws' (d:=7) E rfl rfl rfl rfl hb5) rfl rfl (cC E rfl rfl (Kl _)) (k5 H hx7)<|?_
  rintro _ w ⟨rfl,H⟩ a E
  refine pk 3 E (kc 7 rfl hb5) rfl fun a E=>nt<|wp_ret<|aY E rfl rfl<|have H:=H.drop 0;?_
  cases hm
  exact ⟨rfl,H.reads Y0⟩

def fO (l2:List aI):Nat→Int→Option Int
  | 0,_=>none
  | k1+1,x4=>
    if (decide (x4 < (l2.length:Int)))=true then ((idx l2 x4).bind fun x7=>(zX x7).bind fun u10=>if u10=true then (some (x4)) else (fO l2 k1 (IntKind.i64.wrap (x4+1)))) else (some ((-1)))
def jF (l2:List aI):Option Int:=
  fO l2 (((l2.length:Int) - 0:Int).toNat+1) 0
theorem uW {w:World} {Fo:List Ob} {rs:List Rp} {v1:Value} {l2:List aI} (H:Sep w (Fo) rs) (hr3:rSl aJ v1 l2 ∈ rs) {r:Int} (hm:jF l2=some r) :
    Calls Tryz.prog 106 [v1,.func (.func 50) #[] #[]].toArray w (Ret fun v w'=>.int .i64 r=v∧Sep w' (Fo) (rs)):=by
 unfold jF at hm
 refine ent Tryz.func106 rfl Tryz.ntmps106 rfl rfl fun a E=>sq<|pr 1 E rfl fun a E=>nt<|wp_seq<|sq<|pr 1 E rfl fun a E=>sv E rfl rfl rfl (cR E H rfl rfl hr3 U23) fun a E=>pr 1 E rfl fun a E=>?_
 refine nt<|wp_block<|bX (fun k1 a w=>∃ x4 rs5,Env 19 a [(0,v1),(1,.func (.func 50) #[] #[]),(7,.int .i64 (l2.length:Int)),(8,.int .i64 x4)]∧Sep w (Fo) rs5∧(∀ r,r ∈ rs→r ∈ rs5)∧fO l2 k1 x4=some r) (((l2.length:Int) - 0:Int).toNat+1) ?_ ?_
 ·exact ⟨_,_,E.to rfl,H,Y0,hm⟩
 ·clear E H hm
  rintro k1 a w ⟨x4,rs5,E,H,hs6,hm⟩
  cases k1 with
  | zero=>exact (bT hm rfl).elim
  | succ k1=>
   unfold fO at hm
   refine sq<|pr 1 E rfl fun a E=>nt<|wp_seq<|wif E hm rfl (fun hm=>?_) fun hm=>?_
   ·refine wp_skip<|aC<|wp_seq<|wp_block<|sq<|pr 2 E rfl fun a E=>nx<|pr 3 E rfl fun a E=>bd hm fun x7 hx8 hm=>?_
    refine dE E H (wn rfl) rfl rfl rfl rfl rfl (hs6 _ hr3) U23 oK hx8 fun q9 a H E=>ldf dI E H rfl rfl rfl rfl rfl m0 U77 rfl oK fun a E=>bd hm fun u10 hx11 hm=>aU E (wn rfl) rfl rfl (bP E rfl rfl rfl (Xo _)) (Bl H hx11)<|?_
    rintro _ w ⟨rfl,H⟩ a E
    refine nt<|wif E hm rfl (fun hm=>?_) fun hm=>?_
    ·refine sq<|pr 2 E rfl fun a E=>nt<|wp_ret<|bV<|aP<|aP<|bV<|aP<|?_
     refine aY E rfl rfl<|?_
     cases hm
     exact ⟨rfl,H.reads (Y1 hs6)⟩
    ·exact wp_skip<|bY<|aC<|wp_region_lit<|pr 2 E rfl fun a E=>nt<|⟨k1,Nat.lt_succ_self k1,_,_,E.to rfl,H,(Y1 hs6),hm⟩
   ·refine wp_exit<|bH<|bH<|dG<|aC<|sq<|pr 1 E rfl fun a E=>nt<|wp_ret<|?_
    refine aY E rfl rfl<|?_
    cases hm
    exact ⟨rfl,H.reads hs6⟩

def hX (l2:List aI):Option Bool:=
  (jF l2).bind fun u4=>some (decide (u4 ≥ 0))
theorem tE {w:World} {Fo:List Ob} {rs:List Rp} {v1:Value} {l2:List aI} (H:Sep w (Fo) rs) (hr3:rSl aJ v1 l2 ∈ rs) {r:Bool} (hm:hX l2=some r) :
    Calls Tryz.prog 49 [v1,.func (.func 50) #[] #[]].toArray w (Ret fun v w'=>.bool r=v∧Sep w' (Fo) (rs)):=by
 unfold hX at hm
 refine ent Tryz.func49 rfl Tryz.ntmps49 rfl rfl fun a E=>sq<|pr 1 E rfl fun a E=>nx<|pr 2 E rfl fun a E=>bd hm fun u4 hx5 hm=>xk E rfl rfl rfl rfl rfl Tz (uW H hr3 hx5) fun w H a E=>pr 2 E rfl fun a E=>nt<|?_
 refine wp_ret<|aY E rfl rfl<|?_
 cases hm
 exact ⟨rfl,H.reads Y0⟩

def pM (x1:bB):Option Bool:=
  (hU x1.Nodes).bind fun u7=>(hX x1.Turns).bind fun u9=>if (!u7)=true then (if (!u9)=true then ((rF x1.Nodes).bind fun u13=>if u13=true then ((rG x1.Turns).bind fun u16=>some (u16)) else (some (false))) else (some (false))) else (some (false))
theorem yX {w:World} {Fo:List Ob} {rs:List Rp} {x1:bB} {v2 v3:Value} (H:Sep w (Fo) rs) (hr4:rSl aF v2 x1.Nodes ∈ rs) (hr5:rSl aJ v3 x1.Turns ∈ rs) {r:Bool} (hm:pM x1=some r) :
    Calls Tryz.prog 20 [.agg #[v2,v3]].toArray w (Ret fun v w'=>.bool r=v∧Sep w' (Fo) (rs)):=by
 unfold pM at hm
 refine ent Tryz.func20 rfl Tryz.ntmps20 rfl rfl fun a E=>sq<|bS E H (wn rfl) rfl rfl rfl rfl rfl fun p6 w a H E=>pr 1 E rfl fun a E=>nx<|pr 1 E rfl fun a E=>lb E H 0 rfl rfl rfl rfl rfl rfl rfl U22 rfl fun a E=>bd hm fun u7 hx8 hm=>xk E rfl rfl rfl rfl rfl Pc (tD H hr4 hx8) fun w H a E=>?_
 refine pr 1 E rfl fun a E=>nx<|pr 1 E rfl fun a E=>lb E H 0 rfl rfl rfl rfl rfl rfl rfl U23 rfl fun a E=>bd hm fun u9 hx10 hm=>xk E rfl rfl rfl rfl rfl Xn (tE H hr5 hx10) fun w H a E=>pr 1 E rfl fun a E=>nx<|pr 3 E rfl fun a E=>cs hm (fun hb11 hm=>?_) fun hb11 hm=>?_
 ·refine pk 4 E (kc 13 rfl hb11) rfl fun a E=>cs hm (fun hb12 hm=>?_) fun hb12 hm=>?_
  ·refine pk 1 E (kc 17 rfl hb12) rfl fun a E=>aQ E (ws' (d:=17) E rfl rfl rfl rfl hb12) rfl rfl (cD (i:=0) E H rfl rfl rfl rfl U22 rfl) fun a E=>bd hm fun u13 hx14 hm=>aU E (ws' (d:=17) E rfl rfl rfl rfl hb12) rfl rfl (cC E rfl rfl (Xp _)) (C2 H hr4 hx14)<|?_
   rintro _ w ⟨rfl,H⟩ a E
   refine pk 2 E (kc 17 rfl hb12) rfl fun a E=>cs hm (fun hb15 hm=>?_) fun hb15 hm=>?_
   ·refine pk 1 E (kc 22 rfl hb15) rfl fun a E=>aQ E (ws' (d:=22) E rfl rfl rfl rfl hb15) rfl rfl (cD (i:=0) E H rfl rfl rfl rfl U23 rfl) fun a E=>bd hm fun u16 hx17 hm=>aU E (ws' (d:=22) E rfl rfl rfl rfl hb15) rfl rfl (cC E rfl rfl (Xq _)) (C3 H hr5 hx17)<|?_
    rintro _ w ⟨rfl,H⟩ a E
    refine pk 2 E (kc 22 rfl hb15) rfl fun a E=>nt<|wp_ret<|aY E rfl rfl<|have H:=H.drop 0;?_
    cases hm
    exact ⟨rfl,H.reads Y0⟩
   ·refine pk 5 E (kc 22 rfl hb15) rfl fun a E=>nt<|wp_ret<|aY E rfl rfl<|have H:=H.drop 0;?_
    cases hm
    exact ⟨rfl,H.reads Y0⟩
  ·refine pk 10 E (kc 17 rfl hb12) rfl fun a E=>nt<|wp_ret<|aY E rfl rfl<|have H:=H.drop 0;?_
   cases hm
   exact ⟨rfl,H.reads Y0⟩
 ·refine pk 14 E (kc 13 rfl hb11) rfl fun a E=>nt<|wp_ret<|aY E rfl rfl<|have H:=H.drop 0;?_
  cases hm
  exact ⟨rfl,H.reads Y0⟩

def vW (x1:bB) (l5:List aH) (b10:Bool):Option (Option ((List aE)×(List aI)×(List aH))):=
  if b10=true then (some none) else (some (some (x1.Nodes,x1.Turns,l5)))
def f9 (x1:bB) (l5:List aH):Option (Option ((List aE)×(List aI)×(List aH))):=
  (pM x1).bind fun u23=>if (!u23)=true then (vW x1 l5 true) else ((oL l5).bind fun u26=>vW x1 l5 (!u26))
theorem S2 {w:World} {Fo:List Ob} {rs:List Rp} {x1:bB} {v2 v3 v4:Value} {l5:List aH} (H:Sep w (Fo) rs) (hr6:rSl aF v2 x1.Nodes ∈ rs) (hr7:rSl aJ v3 x1.Turns ∈ rs) (hr8:rSl aS v4 l5 ∈ rs) {r:Option ((List aE)×(List aI)×(List aH))} (hm:f9 x1 l5=some r) :
    Calls Tryz.prog 7 [.agg #[v2,v3],v4].toArray w (Ret fun v w'=>(r=none∧.pointer none=v∧Sep w' (Fo) rs)∨∃ y,r=some y∧∃ p5001 y2 y4 y6 p5008 p5009 p5010,pt p5001 0=v∧Sep w' (Blk p5001 75 [y2,y4,y6,.slice none 0 0,.slice none 0 0,.slice none 0 0,.map (some p5008),.map (some p5009),.map (some p5010)]::cB Tryz.prog 2 (kyI .i64) bI true p5008 []::cB Tryz.prog 2 (kyI .i64) cQ true p5009 []::cB Tryz.prog 2 (kyI .i64) bI true p5010 []::Fo) (rSl aF y2 y.1::rSl aJ y4 y.2.1::rSl aS y6 y.2.2::rs)):=by
 unfold f9 at hm
 refine ent Tryz.func7 rfl Tryz.ntmps7 rfl rfl fun a E=>sq<|bS E H (wn rfl) rfl rfl rfl rfl rfl fun p9 w a H E=>pr 1 E rfl fun a E=>nt<|wp_seq<|aT (fun a w=>∃ b10 rs11,Env 20 a [(1,v4),(2,pt p9 0),(12,.bool b10)]∧Sep w (Blk p9 25 [v2,v3]::Fo) rs11∧(∀ r,r ∈ rs→r ∈ rs11)∧vW x1 l5 b10=some r) ?_ ?_
 ·refine wp_region_lit<|sv E rfl rfl rfl (cA (i:=0) (us:=[v2,v3]) E H rfl rfl rfl rfl U25 rfl dA) fun a E=>bd hm fun u23 hx24 hm=>xk E rfl rfl rfl rfl rfl Gu (yX H hr6 hr7 hx24) fun w H a E=>pr 2 E rfl fun a E=>cs hm (fun hb25 hm=>?_) fun hb25 hm=>?_
  ·exact pk 4 E (kc 8 rfl hb25) rfl fun a E=>nt<|⟨_,_,E.to rfl,H,Y0,hm⟩
  ·refine pk 1 E (kc 8 rfl hb25) rfl fun a E=>bd hm fun u26 hx27 hm=>aU E (ws' (d:=8) E rfl rfl rfl rfl hb25) rfl rfl (cC E rfl rfl (Eh _)) (tB H hr8 hx27)<|?_
   rintro _ w ⟨rfl,H⟩ a E
   exact pk 2 E (kc 8 rfl hb25) rfl fun a E=>nt<|⟨_,_,E.to rfl,H,Y0,hm⟩
 ·clear E H hm
  rintro a w ⟨b10,rs11,E,H,hs12,hm⟩
  unfold vW at hm
  refine wif E hm rfl (fun hm=>?_) fun hm=>?_
  ·refine sq<|pr 1 E rfl fun a E=>nt<|wp_ret<|aP<|aY E rfl rfl<|have H:=H.drop 0;?_
   cases hm
   exact .inl ⟨rfl,rfl,H.reads (hs12)⟩
  ·refine wp_skip<|aC<|sq<|sv E rfl rfl rfl (cA (i:=0) (us:=[v2,v3]) E H rfl rfl rfl rfl U25 rfl dA) fun a E=>pr 1 E rfl fun a E=>tK (k:=2) (K:=(kyI .i64)) (d:=bI) (g:=true) E H (wn rfl) rfl rfl rfl fun p13 w a H E=>tK (k:=2) (K:=(kyI .i64)) (d:=cQ) (g:=true) E H (wn rfl) rfl rfl rfl fun p14 w a H E=>tK (k:=2) (K:=(kyI .i64)) (d:=bI) (g:=true) E H (wn rfl) rfl rfl rfl fun p15 w a H E=>?_
   obtain ⟨q16,x17,rfl⟩:=H.slform (hs12 _ hr6)
   obtain ⟨q18,x19,rfl⟩:=H.slform (hs12 _ hr7)
   obtain ⟨q20,x21,rfl⟩:=H.slform (hs12 _ hr8)
   refine sv E rfl rfl rfl (cI E rfl (E.evs rfl) (v:=.agg #[(.slice q16 x1.Nodes.length x17),(.slice q18 x1.Turns.length x19),(.slice q20 l5.length x21),.slice none 0 0,.slice none 0 0,.slice none 0 0,.map (some p13),.map (some p14),.map (some p15)]) (by kernel_rfl)) fun a E=>bS E H (wn rfl) rfl rfl rfl rfl rfl fun p22 w a H E=>pr 1 E rfl fun a E=>nt<|wp_ret<|aY E rfl rfl<|have H:=H.drop 4;have H:=H.frs [1,2,3,3] rfl;?_
   cases hm
   exact .inr ⟨_,rfl,X7 ⟨rfl,H.reads (aA (hs12 _ hr6) (aA (hs12 _ hr7) (aA (hs12 _ hr8) (hs12))))⟩⟩

def uX:Option (Option ((List aE)×(List aI)×(List aH))):=
  (f9 (⟨([(⟨(ByteArray.mk #[47]),(ByteArray.mk #[]),0,0,0⟩:aE)]:List aE),[]⟩:bB) ([(⟨(ByteArray.mk #[47]),1,1⟩:aH)]:List aH)).bind fun u5=>S9 u5 (some none) fun u14=>some (some (u14.1,u14.2.1,u14.2.2))
theorem i7 {w:World} {Fo:List Ob} {rs:List Rp} (H:Sep w (Fo) rs) {r:Option ((List aE)×(List aI)×(List aH))} (hm:uX=some r) :
    Calls Tryz.prog 15 [].toArray w (Ret fun v w'=>(r=none∧.pointer none=v∧Sep w' (Fo) rs)∨∃ y,r=some y∧∃ p5001 y2 y4 y6 p5008 p5009 p5010,pt p5001 0=v∧Sep w' (Blk p5001 75 [y2,y4,y6,.slice none 0 0,.slice none 0 0,.slice none 0 0,.map (some p5008),.map (some p5009),.map (some p5010)]::cB Tryz.prog 2 (kyI .i64) bI true p5008 []::cB Tryz.prog 2 (kyI .i64) cQ true p5009 []::cB Tryz.prog 2 (kyI .i64) bI true p5010 []::Fo) (rSl aF y2 y.1::rSl aJ y4 y.2.1::rSl aS y6 y.2.2::rs)):=by
 unfold uX at hm
 refine ent Tryz.func15 rfl Tryz.ntmps15 rfl rfl fun a E=>sq<|pr 1 E rfl fun a E=>nx<|sv E rfl rfl rfl (cI E rfl (E.evs rfl) (v:=.agg #[.string (ByteArray.mk #[47]),.string (ByteArray.mk #[]),.int .i64 0,.int .i64 0,.int .i64 0]) (by kernel_rfl)) fun a E=>fY (e:=95) (d:=aF) (cs:=[.string (ByteArray.mk #[47]),.string (ByteArray.mk #[]),.int .i64 0,.int .i64 0,.int .i64 0]) (xs:=[(⟨(ByteArray.mk #[47]),(ByteArray.mk #[]),0,0,0⟩:aE)]) E H (wn rfl) rfl rfl rfl (E.evs rfl) (by kernel_rfl) rfl rfl (fun ok hr=>(Rows.single (d:=aF) (cs:=[.string (ByteArray.mk #[47]),.string (ByteArray.mk #[]),.int .i64 0,.int .i64 0,.int .i64 0]) (x:=(⟨(ByteArray.mk #[47]),(ByteArray.mk #[]),0,0,0⟩:aE)) sZ)) fun v1 w a H E=>?_
 obtain ⟨q2,x3,rfl⟩:=H.rowform (i:=0) rfl
 refine sv E rfl rfl rfl (cI E rfl (E.evs rfl) (v:=.agg #[(.slice q2 ([(⟨(ByteArray.mk #[47]),(ByteArray.mk #[]),0,0,0⟩:aE)]:List aE).length x3),.slice none 0 0]) (by kernel_rfl)) fun a E=>sv E rfl rfl rfl (cI E rfl (E.evs rfl) (v:=.agg #[.string (ByteArray.mk #[47]),.int .i64 1,.int .i64 1]) (by kernel_rfl)) fun a E=>fY (e:=31) (d:=aS) (cs:=[.string (ByteArray.mk #[47]),.int .i64 1,.int .i64 1]) (xs:=[(⟨(ByteArray.mk #[47]),1,1⟩:aH)]) E H (wn rfl) rfl rfl rfl (E.evs rfl) (by kernel_rfl) rfl rfl (fun ok hr=>(Rows.single (d:=aS) (cs:=[.string (ByteArray.mk #[47]),.int .i64 1,.int .i64 1]) (x:=(⟨(ByteArray.mk #[47]),1,1⟩:aH)) rR)) fun v4 w a H E=>have H:=H.thaw (i:=1) rfl;have H:=H.nilSl aJ;have H:=H.thaw (i:=0) rfl;bd hm fun u5 hx6 hm=>cG E rfl rfl rfl rfl rfl cf7 (S2 (x1:=(⟨([(⟨(ByteArray.mk #[47]),(ByteArray.mk #[]),0,0,0⟩:aE)]:List aE),[]⟩:bB)) H mm2 mm1 m0 hx6)<|?_
 rintro _ w (⟨rfl,rfl,H⟩ | ⟨u14,rfl,p7,v8,v9,v10,p11,p12,p13,rfl,H⟩) a E
 ·replace hm:=Z1 hm
  refine pr 1 E rfl fun a E=>nt<|wp_ret<|aY E rfl rfl<|?_
  cases hm
  exact .inl ⟨rfl,rfl,H.reads (fun r hr=>(t3 hr))⟩
 ·replace hm:=Z2 hm
  refine pr 1 E rfl fun a E=>nt<|wp_ret<|aY E rfl rfl<|?_
  cases hm
  exact .inr ⟨_,rfl,X7 ⟨rfl,H.reads (aA m0 (aA mm1 (aA mm2 (fun r hr=>(t6 hr)))))⟩⟩

def qP (s1:ByteArray):Option Bool:=
  if (sEq s1 (ByteArray.mk #[]))=true then (some (true)) else ((fA s1).bind fun u3=>some (u3))
theorem A4 {w:World} {Fo:List Ob} {rs:List Rp} {s1:ByteArray} (H:Sep w (Fo) rs) {r:Bool} (hm:qP s1=some r) :
    Calls Tryz.prog 95 [.string s1].toArray w (Ret fun v w'=>.bool r=v∧Sep w' (Fo) (rs)):=by
 unfold qP at hm
 refine ent Tryz.func95 rfl Tryz.ntmps95 rfl rfl fun a E=>sq<|pr 1 E rfl fun a E=>nx<|pr 3 E rfl fun a E=>cs hm (fun hb2 hm=>?_) fun hb2 hm=>?_
 ·refine pk 4 E (kc 5 rfl hb2) rfl fun a E=>nt<|wp_ret<|aY E rfl rfl<|?_
  cases hm
  exact ⟨rfl,H.reads Y0⟩
 ·refine pk 1 E (kc 5 rfl hb2) rfl fun a E=>bd hm fun u3 hx4 hm=>aU E (ws' (d:=5) E rfl rfl rfl rfl hb2) rfl rfl (cC E rfl rfl (yU _)) (gC H hx4)<|?_
  rintro _ w ⟨rfl,H⟩ a E
  refine pk 2 E (kc 5 rfl hb2) rfl fun a E=>nt<|wp_ret<|aY E rfl rfl<|?_
  cases hm
  exact ⟨rfl,H.reads Y0⟩

def kH (rec_1:Int→Option Bool) (x4:Int) (b10:Bool):Option Bool:=
  if b10=true then (some (false)) else (rec_1 (IntKind.i64.wrap (x4+1)))
def gM (l2:List Int):Nat→Int→Option Bool
  | 0,_=>none
  | k1+1,x4=>
    if (decide (x4 < (l2.length:Int)))=true then ((idx l2 x4).bind fun x7=>if (decide (x7 < 0))=true then (kH (gM l2 k1) x4 true) else (kH (gM l2 k1) x4 (decide (x7 > 281474976710656)))) else (some (true))
def pN (l2:List Int):Option Bool:=
  gM l2 (((l2.length:Int) - 0:Int).toNat+1) 0
theorem V9 {w:World} {Fo:List Ob} {rs:List Rp} {v1:Value} {l2:List Int} (H:Sep w (Fo) rs) (hr3:rSl (kI .i64) v1 l2 ∈ rs) {r:Bool} (hm:pN l2=some r) :
    Calls Tryz.prog 94 [v1].toArray w (Ret fun v w'=>.bool r=v∧Sep w' (Fo) (rs)):=by
 unfold pN at hm
 refine ent Tryz.func94 rfl Tryz.ntmps94 rfl rfl fun a E=>sq<|pr 1 E rfl fun a E=>nt<|wp_seq<|sq<|pr 1 E rfl fun a E=>sv E rfl rfl rfl (cR E H rfl rfl hr3 U46) fun a E=>pr 1 E rfl fun a E=>?_
 refine nt<|wp_block<|bX (fun k1 a w=>∃ x4 rs5,Env 18 a [(5,v1),(6,.int .i64 (l2.length:Int)),(7,.int .i64 x4)]∧Sep w (Fo) rs5∧(∀ r,r ∈ rs→r ∈ rs5)∧gM l2 k1 x4=some r) (((l2.length:Int) - 0:Int).toNat+1) ?_ ?_
 ·exact ⟨_,_,E.to rfl,H,Y0,hm⟩
 ·clear E H hm
  rintro k1 a w ⟨x4,rs5,E,H,hs6,hm⟩
  cases k1 with
  | zero=>exact (bT hm rfl).elim
  | succ k1=>
   unfold gM at hm
   refine sq<|pr 1 E rfl fun a E=>nt<|wp_seq<|wif E hm rfl (fun hm=>?_) fun hm=>?_
   ·refine wp_skip<|aC<|wp_seq<|wp_block<|sq<|bd hm fun x7 hx8 hm=>dE E H (wn rfl) rfl rfl rfl rfl rfl (hs6 _ hr3) U46 sz2 hx8 fun q9 a H E=>sv E rfl rfl rfl (nT E H rfl rfl m0 U2 rfl) fun a E=>pr 1 E rfl fun a E=>?_
    refine nt<|aT (fun a w=>∃ b10 rs11,Env 18 a [(5,v1),(6,.int .i64 (l2.length:Int)),(7,.int .i64 x4),(16,.bool b10)]∧Sep w (Fo) rs11∧(∀ r,r ∈ rs→r ∈ rs11)∧kH (gM l2 k1) x4 b10=some r) ?_ ?_
    ·refine wp_region_lit<|pr 3 E rfl fun a E=>cs hm (fun hb13 hm=>?_) fun hb13 hm=>?_
     ·exact pk 3 E (kc 13 rfl hb13) rfl fun a E=>nt<|⟨_,_,E.to rfl,H,(Y1 hs6),hm⟩
     ·exact pk 3 E (kc 13 rfl hb13) rfl fun a E=>nt<|⟨_,_,E.to rfl,H,(Y1 hs6),hm⟩
    ·clear E H hm
     rintro a w ⟨b10,rs11,E,H,hs12,hm⟩
     unfold kH at hm
     refine wif E hm rfl (fun hm=>?_) fun hm=>?_
     ·refine sq<|pr 1 E rfl fun a E=>nt<|wp_ret<|bV<|aP<|aP<|bV<|aP<|?_
      refine aY E rfl rfl<|?_
      cases hm
      exact ⟨rfl,H.reads hs12⟩
     ·exact wp_skip<|bY<|aC<|wp_region_lit<|pr 2 E rfl fun a E=>nt<|⟨k1,Nat.lt_succ_self k1,_,_,E.to rfl,H,hs12,hm⟩
   ·refine wp_exit<|bH<|bH<|dG<|aC<|sq<|pr 1 E rfl fun a E=>nt<|wp_ret<|?_
    refine aY E rfl rfl<|?_
    cases hm
    exact ⟨rfl,H.reads hs6⟩

def xM (x1:bJ) (s5:ByteArray):Option Bool:=
  (xL x1.Path x1.Data x1.Version (-1) x1.Owner).bind fun u8=>if u8=true then (if (sEq x1.Dir s5)=true then (if (decide (x1.Kind ≥ 1))=true then (if (decide (x1.Kind ≤ 10))=true then (if (x1.Kind != 2)=true then (some (true)) else (some (!(sEq x1.Path (ByteArray.mk #[47]))))) else (some (false))) else (some (false))) else (some (false))) else (some (false))
def tF (x1:bJ) (u3:ByteArray) (b15:Bool):Option Bool:=
  if b15=true then (xM x1 x1.Path) else (xM x1 u3)
def n2 (x1:bJ):Option Bool:=
  (i6 x1.Path).bind fun u3=>if (x1.Kind == 4)=true then (tF x1 u3 true) else (if (x1.Kind == 9)=true then (tF x1 u3 true) else (tF x1 u3 (x1.Kind == 10)))
theorem Ao {w:World} {Fo:List Ob} {rs:List Rp} {x1:bJ} (H:Sep w (Fo) rs) {r:Bool} (hm:n2 x1=some r) :
    Calls Tryz.prog 92 [.agg (cH x1).toArray].toArray w (Ret fun v w'=>.bool r=v∧Sep w' (Fo) (rs)):=by
 unfold n2 at hm
 refine ent Tryz.func92 rfl Tryz.ntmps92 rfl rfl fun a E=>sq<|bS E H (wn rfl) rfl rfl rfl rfl rfl fun p2 w a H E=>pr 1 E rfl fun a E=>nx<|pr 1 E rfl fun a E=>lb E H 0 rfl rfl rfl rfl rfl rfl rfl U9 rfl fun a E=>bd hm fun u3 hx4 hm=>xk E rfl rfl rfl rfl rfl Gz (M3 H hx4) fun w H a E=>?_
 refine pr 1 E rfl fun a E=>nt<|aT (fun a w=>∃ s5 rs6,Env 57 a [(1,pt p2 0),(3,.string s5)]∧Sep w (Blk p2 85 (cH x1)::Fo) rs6∧(∀ r,r ∈ rs→r ∈ rs6)∧xM x1 s5=some r) ?_ ?_
 ·refine aT (fun a w=>∃ b15 rs16,Env 57 a [(1,pt p2 0),(3,.string u3),(19,.bool b15)]∧Sep w (Blk p2 85 (cH x1)::Fo) rs16∧(∀ r,r ∈ rs→r ∈ rs16)∧tF x1 u3 b15=some r) ?_ ?_
  ·refine wp_region_lit<|pr 1 E rfl fun a E=>lb E H 0 rfl rfl rfl rfl rfl rfl rfl U3 rfl fun a E=>pr 2 E rfl fun a E=>cs hm (fun hb18 hm=>?_) fun hb18 hm=>?_
   ·exact pk 9 E (kc 10 rfl hb18) rfl fun a E=>nt<|⟨_,_,E.to rfl,H,Y0,hm⟩
   ·refine pk 1 E (kc 10 rfl hb18) rfl fun a E=>aQ E (ws' (d:=10) E rfl rfl rfl rfl hb18) rfl rfl (cD (i:=0) E H rfl rfl rfl rfl U3 rfl) fun a E=>pk 3 E (kc 10 rfl hb18) rfl fun a E=>cs hm (fun hb19 hm=>?_) fun hb19 hm=>?_
    ·exact pk 4 E (kc 15 rfl hb19) rfl fun a E=>nt<|⟨_,_,E.to rfl,H,Y0,hm⟩
    ·exact pk 1 E (kc 15 rfl hb19) rfl fun a E=>aQ E (ws' (d:=15) E rfl rfl rfl rfl hb19) rfl rfl (cD (i:=0) E H rfl rfl rfl rfl U3 rfl) fun a E=>pk 2 E (kc 15 rfl hb19) rfl fun a E=>nt<|⟨_,_,E.to rfl,H,Y0,hm⟩
  ·clear E H hm
   rintro a w ⟨b15,rs16,E,H,hs17,hm⟩
   unfold tF at hm
   refine wif E hm rfl (fun hm=>?_) fun hm=>?_
   ·exact wp_region_lit<|pr 1 E rfl fun a E=>lb E H 0 rfl rfl rfl rfl rfl rfl rfl U9 rfl fun a E=>pr 1 E rfl fun a E=>nt<|⟨_,_,E.to rfl,H,hs17,hm⟩
   ·exact wp_skip<|aC<|⟨_,_,E.to rfl,H,hs17,hm⟩
 ·clear E H hm
  rintro a w ⟨s5,rs6,E,H,hs7,hm⟩
  unfold xM at hm
  refine sq<|pr 1 E rfl fun a E=>lb E H 0 rfl rfl rfl rfl rfl rfl rfl U9 rfl fun a E=>pr 1 E rfl fun a E=>lb E H 0 rfl rfl rfl rfl rfl rfl rfl U9 rfl fun a E=>pr 1 E rfl fun a E=>lb E H 0 rfl rfl rfl rfl rfl rfl rfl U2 rfl fun a E=>pr 1 E rfl fun a E=>lb E H 0 rfl rfl rfl rfl rfl rfl rfl U2 rfl fun a E=>?_
  refine bd hm fun u8 hx9 hm=>xk E rfl rfl rfl rfl rfl Pi (J1 H hx9) fun w H a E=>pr 1 E rfl fun a E=>cs hm (fun hb10 hm=>?_) fun hb10 hm=>?_
  ·refine pk 1 E (kc 31 rfl hb10) rfl fun a E=>aQ E (ws' (d:=31) E rfl rfl rfl rfl hb10) rfl rfl (cD (i:=0) E H rfl rfl rfl rfl U9 rfl) fun a E=>pk 4 E (kc 31 rfl hb10) rfl fun a E=>cs hm (fun hb11 hm=>?_) fun hb11 hm=>?_
   ·refine pk 1 E (kc 37 rfl hb11) rfl fun a E=>aQ E (ws' (d:=37) E rfl rfl rfl rfl hb11) rfl rfl (cD (i:=0) E H rfl rfl rfl rfl U3 rfl) fun a E=>pk 3 E (kc 37 rfl hb11) rfl fun a E=>cs hm (fun hb12 hm=>?_) fun hb12 hm=>?_
    ·refine pk 1 E (kc 42 rfl hb12) rfl fun a E=>aQ E (ws' (d:=42) E rfl rfl rfl rfl hb12) rfl rfl (cD (i:=0) E H rfl rfl rfl rfl U3 rfl) fun a E=>pk 3 E (kc 42 rfl hb12) rfl fun a E=>cs hm (fun hb13 hm=>?_) fun hb13 hm=>?_
     ·refine pk 1 E (kc 47 rfl hb13) rfl fun a E=>aQ E (ws' (d:=47) E rfl rfl rfl rfl hb13) rfl rfl (cD (i:=0) E H rfl rfl rfl rfl U3 rfl) fun a E=>pk 2 E (kc 47 rfl hb13) rfl fun a E=>cs hm (fun hb14 hm=>?_) fun hb14 hm=>?_
      ·refine pk 6 E (kc' (kc 51 rfl hb14) 47 rfl hb13) rfl fun a E=>nt<|wp_ret<|aY E rfl rfl<|have H:=H.drop 0;?_
       cases hm
       exact ⟨rfl,H.reads hs7⟩
      ·refine pk 1 E (kc 51 rfl hb14) rfl fun a E=>aQ E (ws' (d:=51) E rfl rfl rfl rfl hb14) rfl rfl (cD (i:=0) E H rfl rfl rfl rfl U9 rfl) fun a E=>pk 4 E (kc' (kc 51 rfl hb14) 47 rfl hb13) rfl fun a E=>nt<|wp_ret<|aY E rfl rfl<|have H:=H.drop 0;?_
       cases hm
       exact ⟨rfl,H.reads hs7⟩
     ·refine pk 10 E (kc 47 rfl hb13) rfl fun a E=>nt<|wp_ret<|aY E rfl rfl<|have H:=H.drop 0;?_
      cases hm
      exact ⟨rfl,H.reads hs7⟩
    ·refine pk 15 E (kc 42 rfl hb12) rfl fun a E=>nt<|wp_ret<|aY E rfl rfl<|have H:=H.drop 0;?_
     cases hm
     exact ⟨rfl,H.reads hs7⟩
   ·refine pk 20 E (kc 37 rfl hb11) rfl fun a E=>nt<|wp_ret<|aY E rfl rfl<|have H:=H.drop 0;?_
    cases hm
    exact ⟨rfl,H.reads hs7⟩
  ·refine pk 26 E (kc 31 rfl hb10) rfl fun a E=>nt<|wp_ret<|aY E rfl rfl<|have H:=H.drop 0;?_
   cases hm
   exact ⟨rfl,H.reads hs7⟩

def lA (s1:ByteArray) (s2:ByteArray):Option Bool:=
  if (decide ((s1.size:Int) ≥ (s2.size:Int)))=true then ((ck (0 ≤ (IntKind.i64.wrap ((s1.size:Int) - (s2.size:Int)))∧(IntKind.i64.wrap ((s1.size:Int) - (s2.size:Int))) ≤ s1.size)).bind fun u4=>some (sEq (s1.extract (IntKind.i64.wrap ((s1.size:Int) - (s2.size:Int))).toNat s1.size) s2)) else (some (false))
theorem xZ {w:World} {Fo:List Ob} {rs:List Rp} {s1 s2:ByteArray} (H:Sep w (Fo) rs) {r:Bool} (hm:lA s1 s2=some r) :
    Calls Tryz.prog 287 [.string s1,.string s2].toArray w (Ret fun v w'=>.bool r=v∧Sep w' (Fo) (rs)):=by
 unfold lA at hm
 refine ent Tryz.func287 rfl Tryz.ntmps287 rfl rfl fun a E=>sq<|pr 1 E rfl fun a E=>nx<|pr 6 E rfl fun a E=>cs hm (fun hb3 hm=>?_) fun hb3 hm=>?_
 ·refine pk 6 E (kc 10 rfl hb3) rfl fun a E=>bk hm fun hx5 hm=>aQ E (ws' (d:=10) E rfl rfl rfl rfl hb3) rfl rfl (D4 E rfl rfl rfl U9 hx5) fun a E=>pk 4 E (kc 10 rfl hb3) rfl fun a E=>nt<|wp_ret<|aY E rfl rfl<|?_
  cases hm
  exact ⟨rfl,H.reads Y0⟩
 ·refine pk 11 E (kc 10 rfl hb3) rfl fun a E=>nt<|wp_ret<|aY E rfl rfl<|?_
  cases hm
  exact ⟨rfl,H.reads Y0⟩

def kQ (s1:ByteArray) (s2:ByteArray):Option ByteArray:=
  (lA s1 s2).bind fun u3=>if u3=true then ((ck (0 ≤ (IntKind.i64.wrap ((s1.size:Int) - (s2.size:Int)))∧(IntKind.i64.wrap ((s1.size:Int) - (s2.size:Int))) ≤ s1.size)).bind fun u5=>some (s1.extract 0 (IntKind.i64.wrap ((s1.size:Int) - (s2.size:Int))).toNat)) else (some (s1))
theorem xD {w:World} {Fo:List Ob} {rs:List Rp} {s1 s2:ByteArray} (H:Sep w (Fo) rs) {r:ByteArray} (hm:kQ s1 s2=some r) :
    Calls Tryz.prog 237 [.string s1,.string s2].toArray w (Ret fun v w'=>.string r=v∧Sep w' (Fo) (rs)):=by
 unfold kQ at hm
 refine ent Tryz.func237 rfl Tryz.ntmps237 rfl rfl fun a E=>sq<|pr 1 E rfl fun a E=>nt<|wp_seq<|sq<|pr 2 E rfl fun a E=>bd hm fun u3 hx4 hm=>xk E rfl rfl rfl rfl rfl Ul (xZ H hx4) fun w H a E=>?_
 refine nt<|wif E hm rfl (fun hm=>?_) fun hm=>?_
 ·refine sq<|pr 6 E rfl fun a E=>bk hm fun hx6 hm=>sv E rfl rfl rfl (K7 E rfl rfl rfl U9 hx6) fun a E=>pr 1 E rfl fun a E=>nt<|wp_ret<|aP<|aY E rfl rfl<|?_
  cases hm
  exact ⟨rfl,H.reads Y0⟩
 ·refine wp_skip<|aC<|sq<|pr 2 E rfl fun a E=>nt<|wp_ret<|aY E rfl rfl<|?_
  cases hm
  exact ⟨rfl,H.reads Y0⟩

def oT (s1:ByteArray) (s2:ByteArray):Option ByteArray:=
  (kQ s1 s2).bind fun u3=>some (u3)
theorem yY {w:World} {Fo:List Ob} {rs:List Rp} {s1 s2:ByteArray} (H:Sep w (Fo) rs) {r:ByteArray} (hm:oT s1 s2=some r) :
    Calls Tryz.prog 173 [.string s1,.string s2].toArray w (Ret fun v w'=>.string r=v∧Sep w' (Fo) (rs)):=by
 unfold oT at hm
 refine ent Tryz.func173 rfl Tryz.ntmps173 rfl rfl fun a E=>sq<|pr 1 E rfl fun a E=>nx<|pr 2 E rfl fun a E=>bd hm fun u3 hx4 hm=>xk E rfl rfl rfl rfl rfl Uk (xD H hx4) fun w H a E=>pr 1 E rfl fun a E=>nt<|?_
 refine wp_ret<|aY E rfl rfl<|?_
 cases hm
 exact ⟨rfl,H.reads Y0⟩

def yZ (s2:ByteArray) (s1:ByteArray) (b3:Bool):Option Bool:=
  if b3=true then (some (false)) else ((oT s2 (ByteArray.mk #[47])).bind fun u6=>(pT s1 u6).bind fun u8=>if u8.2=true then (if (sEq u8.1 (ByteArray.mk #[]))=true then (some (true)) else ((idx u8.1.data.toList 0).bind fun x12=>some ((x12.toNat:Int) == 47))) else (some (false)))
def i8 (s1:ByteArray) (s2:ByteArray):Option Bool:=
  (fA s1).bind fun u14=>if (!u14)=true then (yZ s2 s1 true) else ((fA s2).bind fun u17=>yZ s2 s1 (!u17))
theorem M5 {w:World} {Fo:List Ob} {rs:List Rp} {s1 s2:ByteArray} (H:Sep w (Fo) rs) {r:Bool} (hm:i8 s1 s2=some r) :
    Calls Tryz.prog 93 [.string s1,.string s2].toArray w (Ret fun v w'=>.bool r=v∧Sep w' (Fo) (rs)):=by
 unfold i8 at hm
 refine ent Tryz.func93 rfl Tryz.ntmps93 rfl rfl fun a E=>sq<|pr 1 E rfl fun a E=>nt<|wp_seq<|aT (fun a w=>∃ b3 rs4,Env 32 a [(0,.string s1),(1,.string s2),(14,.bool b3)]∧Sep w (Fo) rs4∧(∀ r,r ∈ rs→r ∈ rs4)∧yZ s2 s1 b3=some r) ?_ ?_
 ·refine wp_region_lit<|pr 1 E rfl fun a E=>bd hm fun u14 hx15 hm=>xk E rfl rfl rfl rfl rfl yU (gC H hx15) fun w H a E=>pr 2 E rfl fun a E=>cs hm (fun hb16 hm=>?_) fun hb16 hm=>?_
  ·exact pk 4 E (kc 10 rfl hb16) rfl fun a E=>nt<|⟨_,_,E.to rfl,H,Y0,hm⟩
  ·refine pk 1 E (kc 10 rfl hb16) rfl fun a E=>bd hm fun u17 hx18 hm=>aU E (ws' (d:=10) E rfl rfl rfl rfl hb16) rfl rfl (cC E rfl rfl (yU _)) (gC H hx18)<|?_
   rintro _ w ⟨rfl,H⟩ a E
   exact pk 2 E (kc 10 rfl hb16) rfl fun a E=>nt<|⟨_,_,E.to rfl,H,Y0,hm⟩
 ·clear E H hm
  rintro a w ⟨b3,rs4,E,H,hs5,hm⟩
  unfold yZ at hm
  refine wif E hm rfl (fun hm=>?_) fun hm=>?_
  ·refine sq<|pr 1 E rfl fun a E=>nt<|wp_ret<|aP<|aY E rfl rfl<|?_
   cases hm
   exact ⟨rfl,H.reads hs5⟩
  ·refine wp_skip<|aC<|sq<|pr 2 E rfl fun a E=>bd hm fun u6 hx7 hm=>xk E rfl rfl rfl rfl rfl Lp (yY H hx7) fun w H a E=>bd hm fun u8 hx9 hm=>xk E rfl rfl rfl rfl rfl Lm (zJ H hx9) fun w H a E=>pr 5 E rfl fun a E=>?_
   refine nx<|pr 2 E rfl fun a E=>cs hm (fun hb10 hm=>?_) fun hb10 hm=>?_
   ·refine pk 3 E (kc 23 rfl hb10) rfl fun a E=>cs hm (fun hb11 hm=>?_) fun hb11 hm=>?_
    ·refine pk 6 E (kc' (kc 26 rfl hb11) 23 rfl hb10) rfl fun a E=>nt<|wp_ret<|aY E rfl rfl<|?_
     cases hm
     exact ⟨rfl,H.reads hs5⟩
    ·refine pk 1 E (kc 26 rfl hb11) rfl fun a E=>bd hm fun x12 hx13 hm=>aQ E (ws' (d:=26) E rfl rfl rfl rfl hb11) rfl rfl (Dq E rfl rfl rfl U9 hx13) fun a E=>pk 4 E (kc' (kc 26 rfl hb11) 23 rfl hb10) rfl fun a E=>nt<|wp_ret<|aY E rfl rfl<|?_
     cases hm
     exact ⟨rfl,H.reads hs5⟩
   ·refine pk 9 E (kc 23 rfl hb10) rfl fun a E=>nt<|wp_ret<|aY E rfl rfl<|?_
    cases hm
    exact ⟨rfl,H.reads hs5⟩

def lF (rec_1:Int→Int→Option Bool) (x15:cF) (x12:Int) (b19:Bool):Option Bool:=
  if b19=true then (some (false)) else (rec_1 x15.Op (IntKind.i64.wrap (x12+1)))
def lG (rec_2:Int→Option Bool) (x27:Int) (b33:Bool):Option Bool:=
  if b33=true then (some (false)) else (rec_2 (IntKind.i64.wrap (x27+1)))
def jG (x1:bA) (b47:Bool):Option Bool:=
  if b47=true then (if (decide ((x1.Gone.length:Int) ≤ 32))=true then ((pM x1.Store).bind fun u52=>if u52=true then (if (decide ((x1.Store.Nodes.length:Int) ≤ 512))=true then (some (decide ((x1.Store.Turns.length:Int) ≤ 512))) else (some (false))) else (some (false))) else (some (false))) else (some (false))
def gW (x1:bA) (b44:Bool):Option Bool:=
  if b44=true then ((pN ([x1.Id,x1.Txn,x1.Age,x1.Epoch,x1.Watch.Session,x1.Watch.Num]:List Int)).bind fun u58=>if u58=true then ((qP x1.Prefix).bind fun u61=>if u61=true then ((qP x1.Watch.Path).bind fun u64=>jG x1 u64) else (jG x1 false)) else (jG x1 false)) else (jG x1 false)
def gD (x1:bA):Nat→Int→Option Bool
  | 0,_=>none
  | k2+1,x27=>
    if (decide (x27 < (x1.Gone.length:Int)))=true then ((idx x1.Gone x27).bind fun x30=>(i8 x30 x1.Prefix).bind fun u36=>if (!u36)=true then (lG (gD x1 k2) x27 true) else (if (sEq x30 x1.Prefix)=true then (lG (gD x1 k2) x27 true) else (if (decide (x27 > 0))=true then ((idx x1.Gone (IntKind.i64.wrap (x27 - 1))).bind fun x41=>lG (gD x1 k2) x27 (!(sLt x41 x30))) else (lG (gD x1 k2) x27 false)))) else (if (decide (x1.Kind ≥ 1))=true then (if (decide (x1.Kind ≤ 13))=true then (if (decide (x1.To ≥ 0))=true then (if (decide (x1.To < 4))=true then (gW x1 (decide ((x1.Pieces.length:Int) ≤ 16))) else (gW x1 false)) else (gW x1 false)) else (gW x1 false)) else (gW x1 false))
def gE (x1:bA):Nat→Int→Int→Option Bool
  | 0,_,_=>none
  | k1+1,x11,x12=>
    if (decide (x12 < (x1.Pieces.length:Int)))=true then ((idx x1.Pieces x12).bind fun x15=>if (decide (x15.Op < x11))=true then (lF (gE x1 k1) x15 x12 true) else (if (decide (x15.Op ≥ 8))=true then (lF (gE x1 k1) x15 x12 true) else ((n2 x15.Part).bind fun u24=>if (!u24)=true then (lF (gE x1 k1) x15 x12 true) else (lF (gE x1 k1) x15 x12 (decide (x15.Part.Version ≥ 281474976710656)))))) else (gD x1 (((x1.Gone.length:Int) - 0:Int).toNat+1) 0)
def qQ (x1:bA):Option Bool:=
  gE x1 (((x1.Pieces.length:Int) - 0:Int).toNat+1) 0 0
theorem Ap {w:World} {Fo:List Ob} {rs:List Rp} {x1:bA} {v2 v3 v4 v5:Value} (H:Sep w (Fo) rs) (hr6:rSl cE v2 x1.Pieces ∈ rs) (hr7:rSl aF v3 x1.Store.Nodes ∈ rs) (hr8:rSl aJ v4 x1.Store.Turns ∈ rs) (hr9:rSl kS v5 x1.Gone ∈ rs) {r:Bool} (hm:qQ x1=some r) :
    Calls Tryz.prog 35 [.agg (aR x1 v2 v3 v4 v5).toArray].toArray w (Ret fun v w'=>.bool r=v∧Sep w' (Fo) (rs)):=by
 unfold qQ at hm
 refine ent Tryz.func35 rfl Tryz.ntmps35 rfl rfl fun a E=>sq<|bS E H (wn rfl) rfl rfl rfl rfl rfl fun p10 w a H E=>pr 1 E rfl fun a E=>nx<|pr 1 E rfl fun a E=>nt<|wp_seq<|sq<|?_
 refine pr 1 E rfl fun a E=>lb E H 0 rfl rfl rfl rfl rfl rfl rfl U26 rfl fun a E=>sv E rfl rfl rfl (cR E H rfl rfl hr6 U26) fun a E=>pr 1 E rfl fun a E=>nt<|wp_block<|bX (fun k1 a w=>∃ x11 x12 rs13,Env 154 a [(1,pt p10 0),(3,.int .i64 x11),(10,v2),(11,.int .i64 (x1.Pieces.length:Int)),(12,.int .i64 x12)]∧Sep w (Blk p10 37 (aR x1 v2 v3 v4 v5)::Fo) rs13∧(∀ r,r ∈ rs→r ∈ rs13)∧gE x1 k1 x11 x12=some r) (((x1.Pieces.length:Int) - 0:Int).toNat+1) ?_ ?_
 ·exact X3 ⟨E.to rfl,H,Y0,hm⟩
 ·clear E H hm
  rintro k1 a w ⟨x11,x12,rs13,E,H,hs14,hm⟩
  cases k1 with
  | zero=>exact (bT hm rfl).elim
  | succ k1=>
   unfold gE at hm
   refine sq<|pr 1 E rfl fun a E=>nt<|wp_seq<|wif E hm rfl (fun hm=>?_) fun hm=>?_
   ·refine wp_skip<|aC<|wp_seq<|wp_block<|sq<|bd hm fun x15 hx16 hm=>dE E H (wn rfl) rfl rfl rfl rfl rfl (hs14 _ hr6) U26 j7 hx16 fun q17 a H E=>ldf sJ E H rfl rfl rfl rfl rfl m0 U87 rfl j7 fun a E=>al E H rfl rfl rfl rfl Hc fun p18 w a H E=>?_
    refine aZ (i:=0) E H (wn rfl) rfl rfl rfl rfl rfl rfl j7 rfl rfl fun w H=>nt<|wp_seq<|aT (fun a w=>∃ b19 rs20,Env 154 a [(1,pt p10 0),(5,pt p18 0),(10,v2),(11,.int .i64 (x1.Pieces.length:Int)),(12,.int .i64 x12),(36,.bool b19)]∧Sep w (Blk p10 37 (aR x1 v2 v3 v4 v5)::Blk p18 87 (R4 x15)::Fo) rs20∧(∀ r,r ∈ rs→r ∈ rs20)∧lF (gE x1 k1) x15 x12 b19=some r) ?_ ?_
    ·refine wp_region_lit<|pr 1 E rfl fun a E=>lb E H 0 rfl rfl rfl rfl rfl rfl rfl U3 rfl fun a E=>pr 3 E rfl fun a E=>cs hm (fun hb22 hm=>?_) fun hb22 hm=>?_
     ·exact pk 16 E (kc 20 rfl hb22) rfl fun a E=>nt<|have H:=H.frs [0,1] rfl;⟨_,_,E.to rfl,H,(Y1 hs14),hm⟩
     ·refine pk 1 E (kc 20 rfl hb22) rfl fun a E=>aQ E (ws' (d:=20) E rfl rfl rfl rfl hb22) rfl rfl (cD (i:=0) E H rfl rfl rfl rfl U3 rfl) fun a E=>pk 3 E (kc 20 rfl hb22) rfl fun a E=>cs hm (fun hb23 hm=>?_) fun hb23 hm=>?_
      ·exact pk 11 E (kc 25 rfl hb23) rfl fun a E=>nt<|have H:=H.frs [0,1] rfl;⟨_,_,E.to rfl,H,(Y1 hs14),hm⟩
      ·refine pk 1 E (kc 25 rfl hb23) rfl fun a E=>aQ E (ws' (d:=25) E rfl rfl rfl rfl hb23) rfl rfl (cA (i:=0) (us:=(cH x15.Part)) E H rfl rfl rfl rfl U85 rfl hP) fun a E=>bd hm fun u24 hx25 hm=>aU E (ws' (d:=25) E rfl rfl rfl rfl hb23) rfl rfl (cC E rfl rfl (Qh _)) (Ao H hx25)<|?_
       rintro _ w ⟨rfl,H⟩ a E
       refine pk 3 E (kc 25 rfl hb23) rfl fun a E=>cs hm (fun hb26 hm=>?_) fun hb26 hm=>?_
       ·exact pk 5 E (kc 31 rfl hb26) rfl fun a E=>nt<|have H:=H.frs [0,1] rfl;⟨_,_,E.to rfl,H,(Y1 hs14),hm⟩
       ·exact pk 2 E (kc 31 rfl hb26) rfl fun a E=>aQ E (ws' (d:=31) E rfl rfl rfl rfl hb26) rfl rfl (cD (i:=0) E H rfl rfl rfl rfl U2 rfl) fun a E=>pk 2 E (kc 31 rfl hb26) rfl fun a E=>nt<|have H:=H.frs [0,1] rfl;⟨_,_,E.to rfl,H,(Y1 hs14),hm⟩
    ·clear E H hm
     rintro a w ⟨b19,rs20,E,H,hs21,hm⟩
     unfold lF at hm
     refine wif E hm rfl (fun hm=>?_) fun hm=>?_
     ·refine sq<|pr 1 E rfl fun a E=>nt<|wp_ret<|aP<|bV<|aP<|aP<|bV<|?_
      refine aP<|aY E rfl rfl<|have H:=H.drs [0,0];?_
      cases hm
      exact ⟨rfl,H.reads hs21⟩
     ·refine wp_skip<|aC<|wp_region_lit<|pr 1 E rfl fun a E=>lb E H 1 rfl rfl rfl rfl rfl rfl rfl U3 rfl fun a E=>pr 1 E rfl fun a E=>wpList_nil<|bY<|aC<|?_
      exact wp_region_lit<|pr 2 E rfl fun a E=>nt<|have H:=H.drop 1;⟨k1,Nat.lt_succ_self k1,X3 ⟨E.to rfl,H,hs21,hm⟩⟩
   ·refine wp_exit<|bH<|bH<|dG<|aC<|wp_seq<|sq<|pr 1 E rfl fun a E=>lb E H 0 rfl rfl rfl rfl rfl rfl rfl U33 rfl fun a E=>?_
    refine sv E rfl rfl rfl (cR E H rfl rfl (hs14 _ hr9) U33) fun a E=>pr 1 E rfl fun a E=>nt<|wp_block<|bX (fun k2 a w=>∃ x27 rs28,Env 154 a [(1,pt p10 0),(41,v5),(42,.int .i64 (x1.Gone.length:Int)),(43,.int .i64 x27)]∧Sep w (Blk p10 37 (aR x1 v2 v3 v4 v5)::Fo) rs28∧(∀ r,r ∈ rs→r ∈ rs28)∧gD x1 k2 x27=some r) (((x1.Gone.length:Int) - 0:Int).toNat+1) ?_ ?_
    ·exact ⟨_,_,E.to rfl,H,hs14,hm⟩
    ·clear E H hm
     rintro k2 a w ⟨x27,rs28,E,H,hs29,hm⟩
     cases k2 with
     | zero=>exact (bT hm rfl).elim
     | succ k2=>
      unfold gD at hm
      refine sq<|pr 1 E rfl fun a E=>nt<|wp_seq<|wif E hm rfl (fun hm=>?_) fun hm=>?_
      ·refine wp_skip<|aC<|wp_seq<|wp_block<|sq<|pr 1 E rfl fun a E=>bd hm fun x30 hx31 hm=>dE E H (wn rfl) rfl rfl rfl rfl rfl (hs29 _ hr9) U33 sz9 hx31 fun q32 a H E=>sv E rfl rfl rfl (nT E H rfl rfl m0 U9 rfl) fun a E=>?_
       refine pr 2 E rfl fun a E=>nt<|aT (fun a w=>∃ b33 rs34,Env 154 a [(1,pt p10 0),(41,v5),(42,.int .i64 (x1.Gone.length:Int)),(43,.int .i64 x27),(72,.bool b33)]∧Sep w (Blk p10 37 (aR x1 v2 v3 v4 v5)::Fo) rs34∧(∀ r,r ∈ rs→r ∈ rs34)∧lG (gD x1 k2) x27 b33=some r) ?_ ?_
       ·refine wp_region_lit<|pr 2 E rfl fun a E=>lb E H 0 rfl rfl rfl rfl rfl rfl rfl U9 rfl fun a E=>bd hm fun u36 hx37 hm=>xk E rfl rfl rfl rfl rfl Km (M5 H hx37) fun w H a E=>pr 2 E rfl fun a E=>cs hm (fun hb38 hm=>?_) fun hb38 hm=>?_
        ·exact pk 19 E (kc 53 rfl hb38) rfl fun a E=>nt<|⟨_,_,E.to rfl,H,(Y1 hs29),hm⟩
        ·refine pk 2 E (kc 53 rfl hb38) rfl fun a E=>aQ E (ws' (d:=53) E rfl rfl rfl rfl hb38) rfl rfl (cD (i:=0) E H rfl rfl rfl rfl U9 rfl) fun a E=>pk 3 E (kc 53 rfl hb38) rfl fun a E=>cs hm (fun hb39 hm=>?_) fun hb39 hm=>?_
         ·exact pk 13 E (kc 59 rfl hb39) rfl fun a E=>nt<|⟨_,_,E.to rfl,H,(Y1 hs29),hm⟩
         ·refine pk 3 E (kc 59 rfl hb39) rfl fun a E=>cs hm (fun hb40 hm=>?_) fun hb40 hm=>?_
          ·exact pk 1 E (kc 62 rfl hb40) rfl fun a E=>aQ E (ws' (d:=62) E rfl rfl rfl rfl hb40) rfl rfl (cD (i:=0) E H rfl rfl rfl rfl U33 rfl) fun a E=>pk 2 E (kc 62 rfl hb40) rfl fun a E=>bd hm fun x41 hx42 hm=>dE E H (ws' (d:=62) E rfl rfl rfl rfl hb40) rfl rfl rfl rfl rfl (t1 (hs29 _ hr9)) U33 sz9 hx42 fun q43 a H E=>aQ E (ws' (d:=62) E rfl rfl rfl rfl hb40) rfl rfl (nT E H rfl rfl m0 U9 rfl) fun a E=>pk 4 E (kc' (kc 62 rfl hb40) 59 rfl hb39) rfl fun a E=>nt<|⟨_,_,E.to rfl,H,(Y2 hs29),hm⟩
          ·exact pk 10 E (kc' (kc 62 rfl hb40) 59 rfl hb39) rfl fun a E=>nt<|⟨_,_,E.to rfl,H,(Y1 hs29),hm⟩
       ·clear E H hm
        rintro a w ⟨b33,rs34,E,H,hs35,hm⟩
        unfold lG at hm
        refine wif E hm rfl (fun hm=>?_) fun hm=>?_
        ·refine sq<|pr 1 E rfl fun a E=>nt<|wp_ret<|bV<|aP<|aP<|bV<|aP<|?_
         refine aY E rfl rfl<|have H:=H.drop 0;?_
         cases hm
         exact ⟨rfl,H.reads hs35⟩
        ·exact wp_skip<|bY<|aC<|wp_region_lit<|pr 2 E rfl fun a E=>nt<|⟨k2,Nat.lt_succ_self k2,_,_,E.to rfl,H,hs35,hm⟩
      ·refine wp_exit<|bH<|bH<|dG<|aC<|aT (fun a w=>∃ b44 rs45,Env 154 a [(1,pt p10 0),(8,.bool b44)]∧Sep w (Blk p10 37 (aR x1 v2 v3 v4 v5)::Fo) rs45∧(∀ r,r ∈ rs→r ∈ rs45)∧gW x1 b44=some r) ?_ ?_
       ·refine wp_region_lit<|pr 1 E rfl fun a E=>lb E H 0 rfl rfl rfl rfl rfl rfl rfl U3 rfl fun a E=>pr 2 E rfl fun a E=>cs hm (fun hb66 hm=>?_) fun hb66 hm=>?_
        ·refine pk 1 E (kc 77 rfl hb66) rfl fun a E=>aQ E (ws' (d:=77) E rfl rfl rfl rfl hb66) rfl rfl (cD (i:=0) E H rfl rfl rfl rfl U3 rfl) fun a E=>pk 3 E (kc 77 rfl hb66) rfl fun a E=>cs hm (fun hb67 hm=>?_) fun hb67 hm=>?_
         ·refine pk 1 E (kc 82 rfl hb67) rfl fun a E=>aQ E (ws' (d:=82) E rfl rfl rfl rfl hb67) rfl rfl (cD (i:=0) E H rfl rfl rfl rfl U3 rfl) fun a E=>pk 3 E (kc 82 rfl hb67) rfl fun a E=>cs hm (fun hb68 hm=>?_) fun hb68 hm=>?_
          ·refine pk 1 E (kc 87 rfl hb68) rfl fun a E=>aQ E (ws' (d:=87) E rfl rfl rfl rfl hb68) rfl rfl (cD (i:=0) E H rfl rfl rfl rfl U3 rfl) fun a E=>pk 3 E (kc 87 rfl hb68) rfl fun a E=>cs hm (fun hb69 hm=>?_) fun hb69 hm=>?_
           ·exact pk 1 E (kc 92 rfl hb69) rfl fun a E=>aQ E (ws' (d:=92) E rfl rfl rfl rfl hb69) rfl rfl (cD (i:=0) E H rfl rfl rfl rfl U26 rfl) fun a E=>aQ E (ws' (d:=92) E rfl rfl rfl rfl hb69) rfl rfl (cR E H rfl rfl (hs29 _ hr6) U26) fun a E=>pk 3 E (kc 92 rfl hb69) rfl fun a E=>nt<|⟨_,_,E.to rfl,H,hs29,hm⟩
           ·exact pk 6 E (kc 92 rfl hb69) rfl fun a E=>nt<|⟨_,_,E.to rfl,H,hs29,hm⟩
          ·exact pk 11 E (kc 87 rfl hb68) rfl fun a E=>nt<|⟨_,_,E.to rfl,H,hs29,hm⟩
         ·exact pk 16 E (kc 82 rfl hb67) rfl fun a E=>nt<|⟨_,_,E.to rfl,H,hs29,hm⟩
        ·exact pk 21 E (kc 77 rfl hb66) rfl fun a E=>nt<|⟨_,_,E.to rfl,H,hs29,hm⟩
       ·clear E H hm
        rintro a w ⟨b44,rs45,E,H,hs46,hm⟩
        unfold gW at hm
        refine aT (fun a w=>∃ b47 rs48,Env 154 a [(1,pt p10 0),(8,.bool b47)]∧Sep w (Blk p10 37 (aR x1 v2 v3 v4 v5)::Fo) rs48∧(∀ r,r ∈ rs→r ∈ rs48)∧jG x1 b47=some r) ?_ ?_
        ·refine wp_region_lit<|pr 2 E rfl fun a E=>cs hm (fun hb56 hm=>?_) fun hb56 hm=>?_
         ·refine pk 1 E (kc 99 rfl hb56) rfl fun a E=>aQ E (ws' (d:=99) E rfl rfl rfl rfl hb56) rfl rfl (cD (i:=0) E H rfl rfl rfl rfl U2 rfl) fun a E=>pk 1 E (kc 99 rfl hb56) rfl fun a E=>aQ E (ws' (d:=99) E rfl rfl rfl rfl hb56) rfl rfl (cD (i:=0) E H rfl rfl rfl rfl U2 rfl) fun a E=>pk 1 E (kc 99 rfl hb56) rfl fun a E=>aQ E (ws' (d:=99) E rfl rfl rfl rfl hb56) rfl rfl (cD (i:=0) E H rfl rfl rfl rfl U2 rfl) fun a E=>pk 1 E (kc 99 rfl hb56) rfl fun a E=>aQ E (ws' (d:=99) E rfl rfl rfl rfl hb56) rfl rfl (cD (i:=0) E H rfl rfl rfl rfl U2 rfl) fun a E=>pk 2 E (kc 99 rfl hb56) rfl fun a E=>?_
          refine aQ E (ws' (d:=99) E rfl rfl rfl rfl hb56) rfl rfl (cD (i:=0) E H rfl rfl rfl rfl U2 rfl) fun a E=>pk 2 E (kc 99 rfl hb56) rfl fun a E=>aQ E (ws' (d:=99) E rfl rfl rfl rfl hb56) rfl rfl (cD (i:=0) E H rfl rfl rfl rfl U2 rfl) fun a E=>fY (e:=2) (d:=(kI .i64)) (cs:=[.int .i64 x1.Id,.int .i64 x1.Txn,.int .i64 x1.Age,.int .i64 x1.Epoch,.int .i64 x1.Watch.Session,.int .i64 x1.Watch.Num]) (xs:=[x1.Id,x1.Txn,x1.Age,x1.Epoch,x1.Watch.Session,x1.Watch.Num]) E H (ws' (d:=99) E rfl rfl rfl rfl hb56) rfl rfl rfl (E.evs rfl) (by kernel_rfl) rfl rfl (fun ok hr=>(Rows.append (Rows.append (Rows.append (Rows.append (Rows.append (Rows.single (d:=(kI .i64)) (cs:=[.int .i64 x1.Id]) (x:=x1.Id) rfl) (Rows.single (d:=(kI .i64)) (cs:=[.int .i64 x1.Txn]) (x:=x1.Txn) rfl)) (Rows.single (d:=(kI .i64)) (cs:=[.int .i64 x1.Age]) (x:=x1.Age) rfl)) (Rows.single (d:=(kI .i64)) (cs:=[.int .i64 x1.Epoch]) (x:=x1.Epoch) rfl)) (Rows.single (d:=(kI .i64)) (cs:=[.int .i64 x1.Watch.Session]) (x:=x1.Watch.Session) rfl)) (Rows.single (d:=(kI .i64)) (cs:=[.int .i64 x1.Watch.Num]) (x:=x1.Watch.Num) rfl))) fun v57 w a H E=>have H:=H.thaw (i:=0) rfl;bd hm fun u58 hx59 hm=>aU E (ws' (d:=99) E rfl rfl rfl rfl hb56) rfl rfl (cC E rfl rfl (Yc _)) (V9 H m0 hx59)<|?_
          rintro _ w ⟨rfl,H⟩ a E
          refine pk 2 E (kc 99 rfl hb56) rfl fun a E=>cs hm (fun hb60 hm=>?_) fun hb60 hm=>?_
          ·refine pk 1 E (kc 117 rfl hb60) rfl fun a E=>aQ E (ws' (d:=117) E rfl rfl rfl rfl hb60) rfl rfl (cD (i:=0) E H rfl rfl rfl rfl U9 rfl) fun a E=>bd hm fun u61 hx62 hm=>aU E (ws' (d:=117) E rfl rfl rfl rfl hb60) rfl rfl (cC E rfl rfl (Qp _)) (A4 H hx62)<|?_
           rintro _ w ⟨rfl,H⟩ a E
           refine pk 2 E (kc 117 rfl hb60) rfl fun a E=>cs hm (fun hb63 hm=>?_) fun hb63 hm=>?_
           ·refine pk 2 E (kc 122 rfl hb63) rfl fun a E=>aQ E (ws' (d:=122) E rfl rfl rfl rfl hb63) rfl rfl (cD (i:=0) E H rfl rfl rfl rfl U9 rfl) fun a E=>bd hm fun u64 hx65 hm=>aU E (ws' (d:=122) E rfl rfl rfl rfl hb63) rfl rfl (cC E rfl rfl (Qp _)) (A4 H hx65)<|?_
            rintro _ w ⟨rfl,H⟩ a E
            exact pk 2 E (kc 122 rfl hb63) rfl fun a E=>nt<|⟨_,_,E.to rfl,H,(Y1 hs46),hm⟩
           ·exact pk 6 E (kc 122 rfl hb63) rfl fun a E=>nt<|⟨_,_,E.to rfl,H,(Y1 hs46),hm⟩
          ·exact pk 11 E (kc 117 rfl hb60) rfl fun a E=>nt<|⟨_,_,E.to rfl,H,(Y1 hs46),hm⟩
         ·exact pk 29 E (kc 99 rfl hb56) rfl fun a E=>nt<|⟨_,_,E.to rfl,H,hs46,hm⟩
        ·clear E H hm
         rintro a w ⟨b47,rs48,E,H,hs49,hm⟩
         unfold jG at hm
         refine sq<|pr 2 E rfl fun a E=>cs hm (fun hb50 hm=>?_) fun hb50 hm=>?_
         ·refine pk 1 E (kc 129 rfl hb50) rfl fun a E=>aQ E (ws' (d:=129) E rfl rfl rfl rfl hb50) rfl rfl (cD (i:=0) E H rfl rfl rfl rfl U33 rfl) fun a E=>aQ E (ws' (d:=129) E rfl rfl rfl rfl hb50) rfl rfl (cR E H rfl rfl (hs49 _ hr9) U33) fun a E=>pk 3 E (kc 129 rfl hb50) rfl fun a E=>cs hm (fun hb51 hm=>?_) fun hb51 hm=>?_
          ·refine pk 1 E (kc 135 rfl hb51) rfl fun a E=>aQ E (ws' (d:=135) E rfl rfl rfl rfl hb51) rfl rfl (cA (i:=0) (us:=[v3,v4]) E H rfl rfl rfl rfl U25 rfl dA) fun a E=>bd hm fun u52 hx53 hm=>aU E (ws' (d:=135) E rfl rfl rfl rfl hb51) rfl rfl (cC E rfl rfl (Gu _)) (yX H (hs49 _ hr7) (hs49 _ hr8) hx53)<|?_
           rintro _ w ⟨rfl,H⟩ a E
           refine pk 2 E (kc 135 rfl hb51) rfl fun a E=>cs hm (fun hb54 hm=>?_) fun hb54 hm=>?_
           ·refine pk 2 E (kc 140 rfl hb54) rfl fun a E=>aQ E (ws' (d:=140) E rfl rfl rfl rfl hb54) rfl rfl (cD (i:=0) E H rfl rfl rfl rfl U22 rfl) fun a E=>aQ E (ws' (d:=140) E rfl rfl rfl rfl hb54) rfl rfl (cR E H rfl rfl (hs49 _ hr7) U22) fun a E=>pk 3 E (kc 140 rfl hb54) rfl fun a E=>cs hm (fun hb55 hm=>?_) fun hb55 hm=>?_
            ·refine pk 2 E (kc 147 rfl hb55) rfl fun a E=>aQ E (ws' (d:=147) E rfl rfl rfl rfl hb55) rfl rfl (cD (i:=0) E H rfl rfl rfl rfl U23 rfl) fun a E=>aQ E (ws' (d:=147) E rfl rfl rfl rfl hb55) rfl rfl (cR E H rfl rfl (hs49 _ hr8) U23) fun a E=>pk 3 E (kc 147 rfl hb55) rfl fun a E=>nt<|wp_ret<|aY E rfl rfl<|have H:=H.drop 0;?_
             cases hm
             exact ⟨rfl,H.reads hs49⟩
            ·refine pk 7 E (kc 147 rfl hb55) rfl fun a E=>nt<|wp_ret<|aY E rfl rfl<|have H:=H.drop 0;?_
             cases hm
             exact ⟨rfl,H.reads hs49⟩
           ·refine pk 14 E (kc 140 rfl hb54) rfl fun a E=>nt<|wp_ret<|aY E rfl rfl<|have H:=H.drop 0;?_
            cases hm
            exact ⟨rfl,H.reads hs49⟩
          ·refine pk 19 E (kc 135 rfl hb51) rfl fun a E=>nt<|wp_ret<|aY E rfl rfl<|have H:=H.drop 0;?_
           cases hm
           exact ⟨rfl,H.reads hs49⟩
         ·refine pk 25 E (kc 129 rfl hb50) rfl fun a E=>nt<|wp_ret<|aY E rfl rfl<|have H:=H.drop 0;?_
          cases hm
          exact ⟨rfl,H.reads hs49⟩

def dM (x1:Int):Option aG:=
  some ((⟨x1,0,false,0,[],(⟨[],[]⟩:bB),[],[],[]⟩:aG))
theorem dT {w:World} {Fo:List Ob} {rs:List Rp} {x1:Int} (H:Sep w (Fo) rs) {r:aG} (hm:dM x1=some r) :
    Calls Tryz.prog 36 [.int .i64 x1].toArray w (Ret fun v w'=>∃ y2 y3 y4 y5 y6 y7,.agg (bC r y2 y3 y4 y5 y6 y7).toArray=v∧Sep w' (Fo) (rSl bE y2 r.Results::rSl aF y3 r.Store.Nodes::rSl aJ y4 r.Store.Turns::rSl aV y5 r.Events::rSl bL y6 r.Mounts::rSl (kI .i64) y7 r.Wounded::rs)):=by
 unfold dM at hm
 refine ent Tryz.func36 rfl Tryz.ntmps36 rfl rfl fun a E=>sq<|al E H rfl rfl rfl rfl gN fun p2 w a H E=>nx<|pr 1 E rfl fun a E=>sv E rfl rfl rfl (cI E rfl (E.evs rfl) (v:=.agg #[.int .i64 x1,.int .i64 0,.bool false,.int .i64 0,.slice none 0 0,.slice none 0 0,.slice none 0 0,.slice none 0 0,.slice none 0 0,.slice none 0 0]) (by kernel_rfl)) fun a E=>aZ (i:=0) E H (wn rfl) rfl rfl rfl rfl rfl rfl bU rfl rfl fun w H=>nt<|wp_ret<|?_
 refine dH E rfl (cV (i:=0) (us:=[.int .i64 x1,.int .i64 0,.bool false,.int .i64 0,.slice none 0 0,.slice none 0 0,.slice none 0 0,.slice none 0 0,.slice none 0 0,.slice none 0 0]) H rfl rfl rfl U48 rfl bU)<|have H:=H.nilSl bE;have H:=H.nilSl aF;have H:=H.nilSl aJ;have H:=H.nilSl aV;have H:=H.nilSl bL;have H:=H.nilSl (kI .i64);have H:=H.drop 0;?_
 cases hm
 exact X6 ⟨rfl,H.reads (aA mm5 (aA mm4 (aA mm3 (aA mm2 (aA mm1 (aA m0 (fun r hr=>(t6 hr))))))))⟩

def gY (x20:bA) (x39:(List ((Int)×aG))):Option (aG×(List ((Int)×aG))):=
  (Z6 (kyI .i64) x39 x20.Txn nP).bind fun x44=>some (x44,x39)
def jU (x20:bA) (l19:List ((Int)×aG)) (b52:Bool):Option (aG×(List ((Int)×aG))):=
  if (!b52)=true then (if ((l19.length:Int) == 128)=true then ((dM 2).bind fun u55=>some (u55,l19)) else ((mpt (kyI .i64) l19 x20.Txn (⟨0,0,x20.Yes,x20.Epoch,[],(⟨[],[]⟩:bB),[],[],[]⟩:aG)).bind fun l64=>gY x20 l64)) else (gY x20 l19)
def fF (l19:List ((Int)×aG)) (x20:bA):Option (aG×(List ((Int)×aG))):=
  (o8 (kyI .i64) l19 x20.Txn nP).bind fun x67=>jU x20 l19 x67.2
theorem G8 {w:World} {Fo:List Ob} {rs:List Rp} {p1 p18:Nat} {l19:List ((Int)×aG)} {x20:bA} {v21 v22 v23 v24 v25 v26 v27 v28 v29 v30 v31 v32:Value} (H:Sep w (Blk p1 75 [v25,v26,v27,v28,v29,v30,v31,v32,.map (some p18)]::cB Tryz.prog 2 (kyI .i64) bI true p18 l19::Fo) rs) {r:aG×(List ((Int)×aG))} (hm:fF l19 x20=some r) :
    Calls Tryz.prog 28 [pt p1 0,.agg (aR x20 v21 v22 v23 v24).toArray].toArray w (Ret fun v w'=>∃ y2 y3 y4 y5 y6 y7,.agg (bC r.1 y2 y3 y4 y5 y6 y7).toArray=v∧Sep w' (Blk p1 75 [v25,v26,v27,v28,v29,v30,v31,v32,.map (some p18)]::cB Tryz.prog 2 (kyI .i64) bI true p18 r.2::Fo) (rSl bE y2 r.1.Results::rSl aF y3 r.1.Store.Nodes::rSl aJ y4 r.1.Store.Turns::rSl aV y5 r.1.Events::rSl bL y6 r.1.Mounts::rSl (kI .i64) y7 r.1.Wounded::rs)):=by
 unfold fF at hm
 refine ent Tryz.func28 rfl Tryz.ntmps28 rfl rfl fun a E=>sq<|bS E H (wn rfl) rfl rfl rfl rfl rfl fun p37 w a H E=>al E H rfl rfl rfl rfl gN fun p38 w a H E=>nt<|aT (fun a w=>∃ x39 rs40,Env 44 a [(0,pt p1 0),(3,pt p37 0),(4,pt p38 0)]∧Sep w (Blk p1 75 [v25,v26,v27,v28,v29,v30,v31,v32,.map (some p18)]::Blk p37 37 (aR x20 v21 v22 v23 v24)::Blk p38 48 bN::cB Tryz.prog 2 (kyI .i64) bI true p18 x39::Fo) rs40∧(∀ r,r ∈ rs→r ∈ rs40)∧gY x20 x39=some r) ?_ ?_
 ·refine aT (fun a w=>∃ b52 rs53,Env 44 a [(0,pt p1 0),(3,pt p37 0),(4,pt p38 0),(6,.bool b52)]∧Sep w (Blk p1 75 [v25,v26,v27,v28,v29,v30,v31,v32,.map (some p18)]::Blk p37 37 (aR x20 v21 v22 v23 v24)::Blk p38 48 bN::cB Tryz.prog 2 (kyI .i64) bI true p18 l19::Fo) rs53∧(∀ r,r ∈ rs→r ∈ rs53)∧jU x20 l19 b52=some r) ?_ ?_
  ·refine bd hm fun x67 hx65 hm=>?_
   have hI:dP [Blk p37 37 (aR x20 v21 v22 v23 v24),Blk p1 75 [v25,v26,v27,v28,v29,v30,v31,v32,.map (some p18)]] [] { w with drawn:=w.drawn+1 }:=⟨_,_,H.kept (Kp.drawn _ w _),(aB mm1 (aB mm2 (aL))),(aM)⟩
   refine jY _ (.go 0 0 (.go 1 0 (.go 2 0 (.go 3 0 (.go 4 0 (.go 5 0 (.alt 6 (.go 7 0 (.go 8 0 (.go 9 0 (.go 10 1 (.go 11 1 (.go 12 2 .nil)))))) 10 (.go 6 1 (.go 7 0 (.go 8 0 (.go 9 0 (.go 11 1 (.go 12 2 .nil))))))))))))) [12] kG (by kernel_rfl) (fun _ _ _ h=>False.elim h.2) hI<|have H:=H.kept (Kp.drawn _ w (w.drawn+1));?_
   generalize ({ w with drawn:=w.drawn+1 }:World)=w at H hI ⊢
   replace hI:∃ W,dP [Blk p37 37 (aR x20 v21 v22 v23 v24),Blk p1 75 [v25,v26,v27,v28,v29,v30,v31,v32,.map (some p18)]] [] W:=⟨_,hI⟩
   obtain ⟨W0,hI⟩:=hI
   refine aW E rfl (wn rfl) rfl rfl (fun w hW=>(bD E rfl rfl)) fun a E=>aW E rfl (wn rfl) rfl rfl (fun w hW=>(sF E rfl rfl)) fun a E=>aW E rfl (wn rfl) rfl rfl (fun w hW=>iY E rfl rfl (v:=pt p1 8) (Je _ _)) fun a E=>aW E rfl (wn rfl) rfl rfl (fun w hW=>eZ E rfl rfl (kD mm1 rfl U68 rfl w hW)) fun a E=>aW E rfl (wn rfl) rfl rfl (fun w hW=>iY E rfl rfl (v:=pt p37 2) (Ac _ _)) fun a E=>aW E rfl (wn rfl) rfl rfl (fun w hW=>eZ E rfl rfl (kD m0 rfl U2 rfl w hW)) fun a E=>?_
   refine kM rfl rfl ?_ ?_
   ·refine lR (i:=3) (K:=(kyI .i64)) E H (wn rfl) rfl rfl rfl rfl rfl rfl (dX U2) U68 yV q3 hx65 fun u90 a H E=>?_
    obtain ⟨v91,v92,v93,v94,v95,v96,rfl,h⟩:=jC H;clear H;have H:=h
    refine nt<|?_
    refine ⟨⟨_,_,H,(aB mm1 (aB mm2 (aL))),(aM)⟩,?_⟩
    refine aW E rfl (wn rfl) rfl rfl (fun w hW=>(bD E rfl rfl)) fun a E=>aW E rfl (wn rfl) rfl rfl (fun w hW=>(cX E rfl rfl rfl)) fun a E=>aW E rfl (wn rfl) rfl rfl (fun w hW=>(cX E rfl rfl rfl)) fun a E=>cJ rfl<|al E H rfl rfl rfl rfl gN fun p97 w a H E=>nt<|?_
    refine ⟨⟨_,_,H,(aB mm2 (aB mm3 (aL))),(aM)⟩,?_⟩
    refine cJ rfl<|aZ (i:=0) E H (wn rfl) rfl rfl rfl rfl rfl rfl bU rfl (bF H mm5 mm4 mm3 mm2 mm1 m0) fun w H=>nt<|?_
    refine ⟨⟨_,_,H,(aB mm2 (aB mm3 (aL))),(aM)⟩,?_⟩
    refine cP rfl<|pr 1 E rfl fun a E=>nt<|dW<|?_
    clear hI
    exact aC<|have H:=H.drop 0;have H:=H.frs [3,1,2,3] rfl;⟨_,_,E.to rfl,H,(Y7 Y0),hm⟩
   ·refine al E H rfl rfl rfl rfl gN fun p98 w a H E=>nt<|?_
    refine ⟨⟨_,_,H,(aB mm2 (aB mm3 (aL))),(aM)⟩,?_⟩
    refine cJ rfl<|lR (i:=4) (K:=(kyI .i64)) E H (wn rfl) rfl rfl rfl rfl rfl rfl (dX U2) U68 yV q3 hx65 fun u102 a H E=>?_
    obtain ⟨v103,v104,v105,v106,v107,v108,rfl,h⟩:=jC H;clear H;have H:=h
    refine nt<|?_
    refine ⟨⟨_,_,H,(aB mm2 (aB mm3 (aL))),(aM)⟩,?_⟩
    refine aW E rfl (wn rfl) rfl rfl (fun w hW=>(bD E rfl rfl)) fun a E=>aW E rfl (wn rfl) rfl rfl (fun w hW=>(cX E rfl rfl rfl)) fun a E=>aW E rfl (wn rfl) rfl rfl (fun w hW=>(cX E rfl rfl rfl)) fun a E=>cJ rfl<|aZ (i:=0) E H (wn rfl) rfl rfl rfl rfl rfl rfl bU rfl (bF H mm5 mm4 mm3 mm2 mm1 m0) fun w H=>nt<|?_
    refine ⟨⟨_,_,H,(aB mm2 (aB mm3 (aL))),(aM)⟩,?_⟩
    refine cP rfl<|pr 1 E rfl fun a E=>nt<|dW<|?_
    clear hI
    exact aC<|have H:=H.drop 0;have H:=H.frs [3,1,2,3] rfl;⟨_,_,E.to rfl,H,(Y7 Y0),hm⟩
  ·clear E H hm
   rintro a w ⟨b52,rs53,E,H,hs54,hm⟩
   unfold jU at hm
   refine sq<|pr 2 E rfl fun a E=>nt<|wif E hm rfl (fun hm=>?_) fun hm=>?_
   ·refine wp_seq<|sq<|pr 3 E rfl fun a E=>lb E H 0 rfl rfl rfl rfl rfl rfl rfl U68 rfl fun a E=>sv E rfl rfl rfl (i1 (i:=3) E H rfl rfl rfl U68) fun a E=>pr 1 E rfl fun a E=>nt<|wif E hm rfl (fun hm=>?_) fun hm=>?_
    ·refine sq<|bd hm fun u55 hx56 hm=>cG E rfl rfl rfl rfl rfl tM (dT H hx56)<|?_
     rintro _ w ⟨v57,v58,v59,v60,v61,v62,rfl,H⟩ a E
     refine aZ (i:=2) E H (wn rfl) rfl rfl rfl rfl rfl rfl bU rfl (bF H m0 mm1 mm2 mm3 mm4 mm5) fun w H=>nt<|wp_ret<|aP<|aP<|dH E rfl (cV (i:=2) (us:=(bC u55 v57 v58 v59 v60 v61 v62)) H rfl rfl rfl U48 rfl bU)<|have H:=H.drs [1,1];?_
     cases hm
     exact X6 ⟨rfl,H.reads (aA m0 (aA mm1 (aA mm2 (aA mm3 (aA mm4 (aA mm5 (fun r hr=>(t6 (hs54 r hr)))))))))⟩
    ·refine wp_skip<|aC<|dw [(0,0),(1,0),(2,0),(3,0),(4,0),(5,0),(6,0),(7,0),(8,0),(9,0),(10,0),(11,2)] [0,1] [] H (by kernel_rfl) (fun _ _ _ h=>False.elim h.2) fun w W0 hI H=>fn 3 E rfl fun a E=>fb E rfl (wn rfl) rfl rfl rfl rfl m0 rfl U68 rfl fun a E=>fn 1 E rfl fun a E=>fb E rfl (wn rfl) rfl rfl rfl rfl mm1 rfl U2 rfl fun a E=>fn 1 E rfl fun a E=>fb E rfl (wn rfl) rfl rfl rfl rfl mm1 rfl U4 rfl fun a E=>?_
     refine fn 1 E rfl fun a E=>fb E rfl (wn rfl) rfl rfl rfl rfl mm1 rfl U2 rfl fun a E=>bW E rfl (wn rfl) rfl rfl (fun w hW=>(cI E rfl (E.evs rfl) (v:=.agg #[.int .i64 0,.int .i64 0,.bool x20.Yes,.int .i64 x20.Epoch,.slice none 0 0,.slice none 0 0,.slice none 0 0,.slice none 0 0,.slice none 0 0,.slice none 0 0]) (by kernel_rfl))) fun a E=>?_
     refine bQ rfl<|bd hm fun l64 hx63 hm=>zR (i:=3) (K:=(kyI .i64)) (v:=(⟨0,0,x20.Yes,x20.Epoch,[],(⟨[],[]⟩:bB),[],[],[]⟩:aG)) (cs:=[.int .i64 0,.int .i64 0,.bool x20.Yes,.int .i64 x20.Epoch,.slice none 0 0,.slice none 0 0,.slice none 0 0,.slice none 0 0,.slice none 0 0,.slice none 0 0]) E H (wn rfl) rfl rfl rfl rfl rfl rfl (dX U2) U68 hx63 (fun ok hr=>(lS (Sl.nil _ _ _) (Sl.nil _ _ _) (Sl.nil _ _ _) (Sl.nil _ _ _) (Sl.nil _ _ _) (Sl.nil _ _ _))) fun w H=>nt<|bR<|?_
     clear hI
     exact aC<|⟨_,_,E.to rfl,H,hs54,hm⟩
   ·exact wp_skip<|aC<|⟨_,_,E.to rfl,H,hs54,hm⟩
 ·clear E H hm
  rintro a w ⟨x39,rs40,E,H,hs41,hm⟩
  unfold gY at hm
  refine wp_seq<|dw [(0,0),(1,0),(2,0),(3,0),(4,0),(5,0),(6,1),(7,2)] [0,1] [] H (by kernel_rfl) (fun _ _ _ h=>False.elim h.2) fun w W0 hI H=>fn 3 E rfl fun a E=>fb E rfl (wn rfl) rfl rfl rfl rfl m0 rfl U68 rfl fun a E=>fn 1 E rfl fun a E=>fb E rfl (wn rfl) rfl rfl rfl rfl mm1 rfl U2 rfl fun a E=>bZ rfl<|bd hm fun x44 hx42 hm=>Iy (i:=3) (K:=(kyI .i64)) E H (wn rfl) rfl rfl rfl rfl rfl rfl (dX U2) U68 yV q3 hx42 fun u45 a H E=>?_
  obtain ⟨v46,v47,v48,v49,v50,v51,rfl,h⟩:=jC H;clear H;have H:=h
  refine nt<|?_
  refine ⟨⟨_,_,H,(aB m0 (aB mm1 (aL))),(aM)⟩,?_⟩
  refine bQ rfl<|aZ (i:=2) E H (wn rfl) rfl rfl rfl rfl rfl rfl bU rfl (bF H mm5 mm4 mm3 mm2 mm1 m0) fun w H=>nt<|bR<|?_
  clear hI
  refine aC<|wp_ret<|dH E rfl (cV (i:=2) (us:=(bC x44 v46 v47 v48 v49 v50 v51)) H rfl rfl rfl U48 rfl bU)<|have H:=H.drs [1,1];?_
  cases hm
  exact X6 ⟨rfl,H.reads (aA mm5 (aA mm4 (aA mm3 (aA mm2 (aA mm1 (aA m0 (fun r hr=>(t7 (hs41 r hr)))))))))⟩

def xN (rec_1:Int→Int→Option Int) (x6:Int) (x9:Int):Option Int:=
  rec_1 x9 (IntKind.i64.wrap (x6+1))
def tG (rec_1:Int→Int→Option Int) (x6:Int) (x5:Int) (b16:Bool):Option Int:=
  if b16=true then (xN rec_1 x6 x6) else (xN rec_1 x6 x5)
def mD (l2:List aH) (s3:ByteArray):Nat→Int→Int→Option Int
  | 0,_,_=>none
  | k1+1,x5,x6=>
    if (decide (x6 < (l2.length:Int)))=true then ((idx l2 x6).bind fun x12=>(i8 s3 x12.Prefix).bind fun u20=>if u20=true then (if (decide (x5 < 0))=true then (tG (mD l2 s3 k1) x6 x5 true) else ((idx l2 x5).bind fun x24=>tG (mD l2 s3 k1) x6 x5 (decide ((x12.Prefix.size:Int) > (x24.Prefix.size:Int))))) else (tG (mD l2 s3 k1) x6 x5 false)) else ((oL l2).bind fun u31=>if (!u31)=true then (some ((-1))) else (some (x5)))
def oU (l2:List aH) (s3:ByteArray):Option Int:=
  mD l2 s3 (((l2.length:Int) - 0:Int).toNat+1) (-1) 0
theorem sK {w:World} {Fo:List Ob} {rs:List Rp} {v1:Value} {l2:List aH} {s3:ByteArray} (H:Sep w (Fo) rs) (hr4:rSl aS v1 l2 ∈ rs) {r:Int} (hm:oU l2 s3=some r) :
    Calls Tryz.prog 76 [v1,.string s3].toArray w (Ret fun v w'=>.int .i64 r=v∧Sep w' (Fo) (rs)):=by
 unfold oU at hm
 refine ent Tryz.func76 rfl Tryz.ntmps76 rfl rfl fun a E=>sq<|pr 1 E rfl fun a E=>nx<|pr 1 E rfl fun a E=>nt<|wp_seq<|sq<|pr 1 E rfl fun a E=>?_
 refine sv E rfl rfl rfl (cR E H rfl rfl hr4 U32) fun a E=>pr 1 E rfl fun a E=>nt<|wp_block<|bX (fun k1 a w=>∃ x5 x6 rs7,Env 41 a [(0,v1),(1,.string s3),(5,.int .i64 x5),(8,v1),(9,.int .i64 (l2.length:Int)),(10,.int .i64 x6)]∧Sep w (Fo) rs7∧(∀ r,r ∈ rs→r ∈ rs7)∧mD l2 s3 k1 x5 x6=some r) (((l2.length:Int) - 0:Int).toNat+1) ?_ ?_
 ·exact X3 ⟨E.to rfl,H,Y0,hm⟩
 ·clear E H hm
  rintro k1 a w ⟨x5,x6,rs7,E,H,hs8,hm⟩
  cases k1 with
  | zero=>exact (bT hm rfl).elim
  | succ k1=>
   unfold mD at hm
   refine sq<|pr 1 E rfl fun a E=>nt<|wp_seq<|wif E hm rfl (fun hm=>?_) fun hm=>?_
   ·refine wp_skip<|aC<|aT (fun a w=>∃ x9 rs10,Env 41 a [(0,v1),(1,.string s3),(5,.int .i64 x9),(8,v1),(9,.int .i64 (l2.length:Int)),(10,.int .i64 x6)]∧Sep w (Fo) rs10∧(∀ r,r ∈ rs→r ∈ rs10)∧xN (mD l2 s3 k1) x6 x9=some r) ?_ ?_
    ·refine wp_block<|sq<|pr 1 E rfl fun a E=>bd hm fun x12 hx13 hm=>dE E H (wn rfl) rfl rfl rfl rfl rfl (hs8 _ hr4) U32 gL hx13 fun q14 a H E=>ldf gZ E H rfl rfl rfl rfl rfl m0 U31 rfl gL fun a E=>al E H rfl rfl rfl rfl Bd fun p15 w a H E=>pr 1 E rfl fun a E=>aZ (i:=0) E H (wn rfl) rfl rfl rfl rfl rfl rfl gL rfl rfl fun w H=>?_
     refine nt<|aT (fun a w=>∃ b16 rs17,Env 41 a [(0,v1),(1,.string s3),(5,.int .i64 x5),(6,.int .i64 x6),(8,v1),(9,.int .i64 (l2.length:Int)),(10,.int .i64 x6),(34,.bool b16)]∧Sep w (Fo) rs17∧(∀ r,r ∈ rs→r ∈ rs17)∧tG (mD l2 s3 k1) x6 x5 b16=some r) ?_ ?_
     ·obtain ⟨u19,H⟩:=H.raw (t1 (hs8 _ hr4))
      refine dw [(0,0),(1,0),(2,0),(3,1),(4,0),(5,0),(6,0),(7,0),(8,0),(9,0),(10,0),(11,0),(12,0),(13,0),(14,0),(15,0),(16,0),(17,0),(18,0),(19,0)] [0] [0] H (by kernel_rfl) (fun _ _ _ h=>False.elim h.2) fun w W0 hI H=>fn 2 E rfl fun a E=>fb E rfl (wn rfl) rfl rfl rfl rfl m0 rfl U9 rfl fun a E=>bZ rfl<|bd hm fun u20 hx21 hm=>xk E rfl rfl rfl rfl rfl Km (M5 H hx21) fun w H a E=>nt<|?_
      refine ⟨⟨_,_,H,(aB m0 (aL)),(aA m0 (aM))⟩,?_⟩
      refine fn 1 E rfl fun a E=>cs hm (fun hb22 hm=>?_) fun hb22 hm=>?_
      ·refine fk 3 E (kc 19 rfl hb22) rfl fun a E=>cs hm (fun hb23 hm=>?_) fun hb23 hm=>?_
       ·refine fk 12 E (kc' (kc 22 rfl hb23) 19 rfl hb22) rfl fun a E=>bR<|?_
        clear hI
        exact aC<|have H:=H.drop 0;⟨_,_,E.to rfl,H,(Y2 hs8),hm⟩
       ·refine fk 1 E (kc 22 rfl hb23) rfl fun a E=>fb E rfl (ws' (d:=22) E rfl rfl rfl rfl hb23) rfl rfl rfl rfl m0 rfl U9 rfl fun a E=>fk 3 E (kc 22 rfl hb23) rfl fun a E=>bd hm fun x24 hx25 hm=>?_
        obtain ⟨q26,u29,hx27,hx28⟩:=oO (P:=Tryz.prog) (k:=.i64) hI (oN (.head _)) U32 gL hx25
        refine bW E rfl (ws' (d:=22) E rfl rfl rfl rfl hb23) rfl rfl (fun w hW=>rI E rfl rfl rfl (hx27 w)) fun a E=>?_
        have hx30:=uU hx28 (fun _ _ _ h=>nV h)
        refine fk 1 E (kc 22 rfl hb23) rfl fun a E=>fa E rfl (ws' (d:=22) E rfl rfl rfl rfl hb23) rfl rfl rfl rfl hx30 U9 rfl fun a E=>fk 4 E (kc' (kc 22 rfl hb23) 19 rfl hb22) rfl fun a E=>bR<|?_
        clear hI
        exact aC<|have H:=H.drop 0;⟨_,_,E.to rfl,H,(Y2 hs8),hm⟩
      ·refine fk 15 E (kc 19 rfl hb22) rfl fun a E=>bR<|?_
       clear hI
       exact aC<|have H:=H.drop 0;⟨_,_,E.to rfl,H,(Y2 hs8),hm⟩
     ·clear E H hm
      rintro a w ⟨b16,rs17,E,H,hs18,hm⟩
      unfold tG at hm
      refine wif E hm rfl (fun hm=>?_) fun hm=>?_
      ·exact wp_region_lit<|pr 2 E rfl fun a E=>wpList_nil<|bY<|aC<|⟨_,_,E.to rfl,H,hs18,hm⟩
      ·exact wp_skip<|bY<|aC<|⟨_,_,E.to rfl,H,hs18,hm⟩
    ·clear E H hm
     rintro a w ⟨x9,rs10,E,H,hs11,hm⟩
     unfold xN at hm
     exact wp_region_lit<|pr 2 E rfl fun a E=>nt<|⟨k1,Nat.lt_succ_self k1,X3 ⟨E.to rfl,H,hs11,hm⟩⟩
   ·refine wp_exit<|bH<|bH<|dG<|aC<|wp_seq<|sq<|pr 1 E rfl fun a E=>bd hm fun u31 hx32 hm=>?_
    refine xk E rfl rfl rfl rfl rfl Eh (tB H (hs8 _ hr4) hx32) fun w H a E=>pr 1 E rfl fun a E=>nt<|wif E hm rfl (fun hm=>?_) fun hm=>?_
    ·refine sq<|pr 1 E rfl fun a E=>nt<|wp_ret<|aP<|aY E rfl rfl<|?_
     cases hm
     exact ⟨rfl,H.reads hs8⟩
    ·refine wp_skip<|aC<|sq<|pr 2 E rfl fun a E=>nt<|wp_ret<|aY E rfl rfl<|?_
     cases hm
     exact ⟨rfl,H.reads hs8⟩

def xO (s1:ByteArray) (l4:List aH) (s6:ByteArray):Option Bool:=
  (oU l4 s1).bind fun u8=>if (decide (u8 ≥ 0))=true then ((idx l4 u8).bind fun x12=>some (sEq x12.Prefix s6)) else (some (false))
theorem J2 {w:World} {Fo:List Ob} {rs:List Rp} {s1 s6:ByteArray} {p2 p5:Nat} {v3:Value} {l4:List aH} (H:Sep w (Blk p2 32 [v3]::Blk p5 9 [.string s6]::Fo) rs) (hr7:rSl aS v3 l4 ∈ rs) {r:Bool} (hm:xO s1 l4 s6=some r) :
    Calls Tryz.prog 145 [.string s1,pt p2 0,pt p5 0].toArray w (Ret fun v w'=>.bool r=v∧Sep w' (Blk p2 32 [v3]::Blk p5 9 [.string s6]::Fo) (rs)):=by
 unfold xO at hm
 refine ent Tryz.func145 rfl Tryz.ntmps145 rfl rfl fun a E=>sq<|pr 1 E rfl fun a E=>nx<|lb E H 0 rfl rfl rfl rfl rfl rfl rfl U32 rfl fun a E=>pr 1 E rfl fun a E=>bd hm fun u8 hx9 hm=>xk E rfl rfl rfl rfl rfl V4 (sK H hr7 hx9) fun w H a E=>pr 1 E rfl fun a E=>?_
 refine nt<|wp_seq<|?_
 obtain ⟨u10,H⟩:=H.raw hr7
 refine dw [(0,0),(1,0),(2,0),(3,0),(4,0),(5,0),(6,0),(7,0),(8,0),(9,0),(10,0),(11,2)] [0,1] [0] H (by kernel_rfl) (fun _ _ _ h=>False.elim h.2) fun w W0 hI H=>fn 3 E rfl fun a E=>cs hm (fun hb11 hm=>?_) fun hb11 hm=>?_
 ·refine fb E rfl (ws' (d:=11) E rfl rfl rfl rfl hb11) rfl rfl rfl rfl m0 rfl U32 rfl fun a E=>fk 1 E (kc 11 rfl hb11) rfl fun a E=>bd hm fun x12 hx13 hm=>?_
  obtain ⟨q14,u17,hx15,hx16⟩:=oO (P:=Tryz.prog) (k:=.i64) hI (oN (.head _)) U32 gL hx13
  refine bW E rfl (ws' (d:=11) E rfl rfl rfl rfl hb11) rfl rfl (fun w hW=>rI E rfl rfl rfl (hx15 w)) fun a E=>?_
  have hx18:=uU hx16 (fun _ _ _ h=>nV h)
  refine fk 1 E (kc 11 rfl hb11) rfl fun a E=>fa E rfl (ws' (d:=11) E rfl rfl rfl rfl hb11) rfl rfl rfl rfl hx18 U9 rfl fun a E=>fb E rfl (ws' (d:=11) E rfl rfl rfl rfl hb11) rfl rfl rfl rfl mm1 rfl U9 rfl fun a E=>fk 2 E (kc 11 rfl hb11) rfl fun a E=>bQ rfl<|pr 1 E rfl fun a E=>nt<|bR<|?_
  clear hI
  refine aC<|wp_ret<|aY E rfl rfl<|?_
  cases hm
  exact ⟨rfl,H.reads (Y1 Y0)⟩
 ·refine fk 8 E (kc 11 rfl hb11) rfl fun a E=>bQ rfl<|pr 1 E rfl fun a E=>nt<|bR<|?_
  clear hI
  refine aC<|wp_ret<|aY E rfl rfl<|?_
  cases hm
  exact ⟨rfl,H.reads (Y1 Y0)⟩

def sL (l5:List aH) (s7:ByteArray) (s12:ByteArray):Option Bool:=
  (xO s12 l5 s7).bind fun u15=>some (u15)
def k6 (x1:aE) (l5:List aH) (s7:ByteArray):Option Bool:=
  (qM x1.Path).bind fun u10=>if (!u10.2)=true then (sL l5 s7 (ByteArray.mk #[47])) else (sL l5 s7 u10.1)
theorem Co {w:World} {Fo:List Ob} {rs:List Rp} {x1:aE} {p2 p3 p6:Nat} {v4:Value} {l5:List aH} {s7:ByteArray} (H:Sep w (Blk p2 109 [.func (.func 145) #[] #[pt p3 0,pt p6 0]]::Blk p3 32 [v4]::Blk p6 9 [.string s7]::Fo) rs) (hr8:rSl aS v4 l5 ∈ rs) {r:Bool} (hm:k6 x1 l5 s7=some r) :
    Calls Tryz.prog 147 [.agg (iQ x1).toArray,pt p2 0].toArray w (Ret fun v w'=>.bool r=v∧Sep w' (Blk p2 109 [.func (.func 145) #[] #[pt p3 0,pt p6 0]]::Blk p3 32 [v4]::Blk p6 9 [.string s7]::Fo) (rs)):=by
 unfold k6 at hm
 refine ent Tryz.func147 rfl Tryz.ntmps147 rfl rfl fun a E=>sq<|bS E H (wn rfl) rfl rfl rfl rfl rfl fun p9 w a H E=>pr 1 E rfl fun a E=>nx<|pr 1 E rfl fun a E=>lb E H 0 rfl rfl rfl rfl rfl rfl rfl U9 rfl fun a E=>bd hm fun u10 hx11 hm=>xk E rfl rfl rfl rfl rfl Cv (xJ H hx11) fun w H a E=>?_
 refine pr 5 E rfl fun a E=>nt<|aT (fun a w=>∃ s12 rs13,Env 17 a [(1,pt p2 0),(4,.string s12)]∧Sep w (Blk p2 109 [.func (.func 145) #[] #[pt p3 0,pt p6 0]]::Blk p3 32 [v4]::Blk p6 9 [.string s7]::Fo) rs13∧(∀ r,r ∈ rs→r ∈ rs13)∧sL l5 s7 s12=some r) ?_ ?_
 ·refine sq<|pr 2 E rfl fun a E=>nt<|wif E hm rfl (fun hm=>?_) fun hm=>?_
  ·exact wp_region_lit<|pr 1 E rfl fun a E=>nt<|have H:=H.drop 0;⟨_,_,E.to rfl,H,Y0,hm⟩
  ·exact wp_skip<|aC<|have H:=H.drop 0;⟨_,_,E.to rfl,H,Y0,hm⟩
 ·clear E H hm
  rintro a w ⟨s12,rs13,E,H,hs14,hm⟩
  unfold sL at hm
  refine sq<|lb E H 0 rfl rfl rfl rfl rfl rfl rfl Ro rfl fun a E=>pr 1 E rfl fun a E=>have H:=H.frs [0,2,2] rfl;bd hm fun u15 hx16 hm=>aU E (wn rfl) rfl rfl (bP E rfl rfl rfl (Md _)) (J2 H (hs14 _ hr8) hx16)<|?_
  rintro _ w ⟨rfl,H⟩ a E
  refine pr 1 E rfl fun a E=>nt<|wp_ret<|aY E rfl rfl<|have H:=H.frs [1,1,2] rfl;?_
  cases hm
  exact ⟨rfl,H.reads hs14⟩

def kU (rec_1:(List aE)→(List aE)→Int→Option ((List aE)×(List aE))) (x15:Int) (l19:(List aE)) (l21:(List aE)):Option ((List aE)×(List aE)):=
  rec_1 l19 l21 (IntKind.i64.wrap (x15+1))
def fV (l2:List aE) (l6:List aH) (s8:ByteArray):Nat→(List aE)→(List aE)→Int→Option ((List aE)×(List aE))
  | 0,_,_,_=>none
  | k1+1,l12,l14,x15=>
    if (decide (x15 < (l2.length:Int)))=true then ((idx l2 x15).bind fun x24=>(k6 x24 l6 s8).bind fun u28=>if u28=true then ((ck (l12.length+([x24]:List aE).length ≤ LIM)).bind fun u32=>kU (fV l2 l6 s8 k1) x15 (l12 ++ ([x24]:List aE)) l14) else ((ck (l14.length+([x24]:List aE).length ≤ LIM)).bind fun u36=>kU (fV l2 l6 s8 k1) x15 l12 (l14 ++ ([x24]:List aE)))) else (some (l12,l14))
def qB (l2:List aE) (l6:List aH) (s8:ByteArray):Option ((List aE)×(List aE)):=
  fV l2 l6 s8 (((l2.length:Int) - 0:Int).toNat+1) [] [] 0
theorem w3 {w:World} {Fo:List Ob} {rs:List Rp} {v1 v5:Value} {l2:List aE} {p3 p4 p7:Nat} {l6:List aH} {s8:ByteArray} (H:Sep w (Blk p3 109 [.func (.func 145) #[] #[pt p4 0,pt p7 0]]::Blk p4 32 [v5]::Blk p7 9 [.string s8]::Fo) rs) (hr9:rSl aF v1 l2 ∈ rs) (hr10:rSl aS v5 l6 ∈ rs) {r:(List aE)×(List aE)} (hm:qB l2 l6 s8=some r) :
    Calls Tryz.prog 146 [v1,.func (.func 147) #[] #[pt p3 0]].toArray w (Ret fun v w'=>∃ y1 y3,.tuple #[y1,y3]=v∧Sep w' (Row 95 aF y1 r.1::Row 95 aF y3 r.2::Blk p3 109 [.func (.func 145) #[] #[pt p4 0,pt p7 0]]::Blk p4 32 [v5]::Blk p7 9 [.string s8]::Fo) (rs)):=by
 unfold qB at hm
 refine ent Tryz.func146 rfl Tryz.ntmps146 rfl rfl fun a E=>sq<|pr 2 E rfl fun a E=>nx<|pr 2 E rfl fun a E=>nt<|wp_seq<|sq<|pr 1 E rfl fun a E=>?_
 refine sv E rfl rfl rfl (cR E H rfl rfl hr9 U22) fun a E=>pr 1 E rfl fun a E=>nt<|wp_block<|bX (fun k1 a w=>∃ v11 v13 l12 l14 x15 rs16,Env 30 a [(1,.func (.func 147) #[] #[pt p3 0]),(6,v11),(7,v13),(10,v1),(11,.int .i64 (l2.length:Int)),(12,.int .i64 x15)]∧Sep w (Blk p3 109 [.func (.func 145) #[] #[pt p4 0,pt p7 0]]::Row 95 aF v11 l12::Row 95 aF v13 l14::Blk p4 32 [v5]::Blk p7 9 [.string s8]::Fo) rs16∧(∀ r,r ∈ rs→r ∈ rs16)∧fV l2 l6 s8 k1 l12 l14 x15=some r) (((l2.length:Int) - 0:Int).toNat+1) ?_ ?_
 ·exact have H:=H.nilRow 95 aF;have H:=H.nilRow 95 aF;have H:=H.frs [4,4,2,3,4] rfl;X6 ⟨E.to rfl,H,Y0,hm⟩
 ·clear E H hm
  rintro k1 a w ⟨v11,v13,l12,l14,x15,rs16,E,H,hs17,hm⟩
  cases k1 with
  | zero=>exact (bT hm rfl).elim
  | succ k1=>
   unfold fV at hm
   refine sq<|pr 1 E rfl fun a E=>nt<|wp_seq<|wif E hm rfl (fun hm=>?_) fun hm=>?_
   ·refine wp_skip<|aC<|aT (fun a w=>∃ v18 v20 l19 l21 rs22,Env 30 a [(1,.func (.func 147) #[] #[pt p3 0]),(6,v18),(7,v20),(10,v1),(11,.int .i64 (l2.length:Int)),(12,.int .i64 x15)]∧Sep w (Blk p3 109 [.func (.func 145) #[] #[pt p4 0,pt p7 0]]::Row 95 aF v18 l19::Row 95 aF v20 l21::Blk p4 32 [v5]::Blk p7 9 [.string s8]::Fo) rs22∧(∀ r,r ∈ rs→r ∈ rs22)∧kU (fV l2 l6 s8 k1) x15 l19 l21=some r) ?_ ?_
    ·refine wp_block<|sq<|bd hm fun x24 hx25 hm=>dE E H (wn rfl) rfl rfl rfl rfl rfl (hs17 _ hr9) U22 iR hx25 fun q26 a H E=>ldf cK E H rfl rfl rfl rfl rfl m0 U95 rfl iR fun a E=>al E H rfl rfl rfl rfl Ks fun p27 w a H E=>aZ (i:=0) E H (wn rfl) rfl rfl rfl rfl rfl rfl iR rfl rfl fun w H=>nx<|pr 1 E rfl fun a E=>?_
     refine sv E rfl rfl rfl (cA (i:=0) (us:=(iQ x24)) E H rfl rfl rfl rfl U95 rfl iR) fun a E=>have H:=H.frs [3,3,2,5,5,5] rfl;bd hm fun u28 hx29 hm=>aU E (wn rfl) rfl rfl (bP E rfl rfl rfl (Wp _)) (Co H (t1 (hs17 _ hr10)) hx29)<|?_
     rintro _ w ⟨rfl,H⟩ a E
     refine nt<|wif E hm rfl (fun hm=>?_) fun hm=>?_
     ·refine wp_region_lit<|pr 1 E rfl fun a E=>sv E rfl rfl rfl (cA (i:=3) (us:=(iQ x24)) E H rfl rfl rfl rfl U95 rfl iR) fun a E=>pI (e:=95) (d:=aF) (cs:=[.string x24.Path,.string x24.Data,.int .i64 x24.Version,.int .i64 x24.Turn,.int .i64 x24.Owner]) (xs:=[x24]) E H (wn rfl) rfl rfl rfl (E.evs rfl) (by kernel_rfl) rfl (fun ok hr=>(Rows.single (d:=aF) (cs:=[.string x24.Path,.string x24.Data,.int .i64 x24.Version,.int .i64 x24.Turn,.int .i64 x24.Owner]) (x:=x24) sZ)) fun v30 w a H E=>bk hm fun hx33 hm=>dV (i:=4) E H (wn rfl) rfl rfl rfl rfl rfl rfl (jA m0) U22 Db rfl hx33 rfl fun v31 w a H E=>pr 1 E rfl fun a E=>wpList_nil<|bY<|?_
      exact aC<|have H:=H.drop 3;have H:=H.frs [2,2,4,4,4] rfl;X5 ⟨E.to rfl,H,(Y2 hs17),hm⟩
     ·refine wp_region_lit<|pr 1 E rfl fun a E=>sv E rfl rfl rfl (cA (i:=3) (us:=(iQ x24)) E H rfl rfl rfl rfl U95 rfl iR) fun a E=>pI (e:=95) (d:=aF) (cs:=[.string x24.Path,.string x24.Data,.int .i64 x24.Version,.int .i64 x24.Turn,.int .i64 x24.Owner]) (xs:=[x24]) E H (wn rfl) rfl rfl rfl (E.evs rfl) (by kernel_rfl) rfl (fun ok hr=>(Rows.single (d:=aF) (cs:=[.string x24.Path,.string x24.Data,.int .i64 x24.Version,.int .i64 x24.Turn,.int .i64 x24.Owner]) (x:=x24) sZ)) fun v34 w a H E=>bk hm fun hx37 hm=>dV (i:=5) E H (wn rfl) rfl rfl rfl rfl rfl rfl (jA m0) U22 Db rfl hx37 rfl fun v35 w a H E=>pr 1 E rfl fun a E=>wpList_nil<|bY<|?_
      exact aC<|have H:=H.drop 3;have H:=H.frs [2,2,4,4,4] rfl;X5 ⟨E.to rfl,H,(Y2 hs17),hm⟩
    ·clear E H hm
     rintro a w ⟨v18,v20,l19,l21,rs22,E,H,hs23,hm⟩
     unfold kU at hm
     exact wp_region_lit<|pr 2 E rfl fun a E=>nt<|⟨k1,Nat.lt_succ_self k1,X6 ⟨E.to rfl,H,hs23,hm⟩⟩
   ·refine wp_exit<|bH<|bH<|dG<|aC<|sq<|pr 4 E rfl fun a E=>nt<|wp_ret<|?_
    refine fX E rfl rfl rfl<|have H:=H.frs [4,4,2,4,4] rfl;?_
    cases hm
    exact ⟨_,_,rfl,H.reads hs17⟩

def k7 (x1:aI) (l5:List aH) (s7:ByteArray):Option Bool:=
  (xO x1.Dir l5 s7).bind fun u10=>some (u10)
theorem Cp {w:World} {Fo:List Ob} {rs:List Rp} {x1:aI} {p2 p3 p6:Nat} {v4:Value} {l5:List aH} {s7:ByteArray} (H:Sep w (Blk p2 109 [.func (.func 145) #[] #[pt p3 0,pt p6 0]]::Blk p3 32 [v4]::Blk p6 9 [.string s7]::Fo) rs) (hr8:rSl aS v4 l5 ∈ rs) {r:Bool} (hm:k7 x1 l5 s7=some r) :
    Calls Tryz.prog 150 [.agg #[.string x1.Dir,.int .i64 x1.Next],pt p2 0].toArray w (Ret fun v w'=>.bool r=v∧Sep w' (Blk p2 109 [.func (.func 145) #[] #[pt p3 0,pt p6 0]]::Blk p3 32 [v4]::Blk p6 9 [.string s7]::Fo) (rs)):=by
 unfold k7 at hm
 refine ent Tryz.func150 rfl Tryz.ntmps150 rfl rfl fun a E=>sq<|bS E H (wn rfl) rfl rfl rfl rfl rfl fun p9 w a H E=>pr 1 E rfl fun a E=>nx<|lb E H 1 rfl rfl rfl rfl rfl rfl rfl Ro rfl fun a E=>pr 1 E rfl fun a E=>lb E H 0 rfl rfl rfl rfl rfl rfl rfl U9 rfl fun a E=>have H:=H.frs [1,1,3,3] rfl;?_
 refine bd hm fun u10 hx11 hm=>aU E (wn rfl) rfl rfl (bP E rfl rfl rfl (Md _)) (J2 H hr8 hx11)<|?_
 rintro _ w ⟨rfl,H⟩ a E
 refine pr 1 E rfl fun a E=>nt<|wp_ret<|aY E rfl rfl<|have H:=H.drop 2;have H:=H.frs [1,1,2] rfl;?_
 cases hm
 exact ⟨rfl,H.reads Y0⟩

def kV (rec_1:(List aI)→(List aI)→Int→Option ((List aI)×(List aI))) (x15:Int) (l19:(List aI)) (l21:(List aI)):Option ((List aI)×(List aI)):=
  rec_1 l19 l21 (IntKind.i64.wrap (x15+1))
def fW (l2:List aI) (l6:List aH) (s8:ByteArray):Nat→(List aI)→(List aI)→Int→Option ((List aI)×(List aI))
  | 0,_,_,_=>none
  | k1+1,l12,l14,x15=>
    if (decide (x15 < (l2.length:Int)))=true then ((idx l2 x15).bind fun x24=>(k7 x24 l6 s8).bind fun u28=>if u28=true then ((ck (l12.length+([x24]:List aI).length ≤ LIM)).bind fun u32=>kV (fW l2 l6 s8 k1) x15 (l12 ++ ([x24]:List aI)) l14) else ((ck (l14.length+([x24]:List aI).length ≤ LIM)).bind fun u36=>kV (fW l2 l6 s8 k1) x15 l12 (l14 ++ ([x24]:List aI)))) else (some (l12,l14))
def qC (l2:List aI) (l6:List aH) (s8:ByteArray):Option ((List aI)×(List aI)):=
  fW l2 l6 s8 (((l2.length:Int) - 0:Int).toNat+1) [] [] 0
theorem w4 {w:World} {Fo:List Ob} {rs:List Rp} {v1 v5:Value} {l2:List aI} {p3 p4 p7:Nat} {l6:List aH} {s8:ByteArray} (H:Sep w (Blk p3 109 [.func (.func 145) #[] #[pt p4 0,pt p7 0]]::Blk p4 32 [v5]::Blk p7 9 [.string s8]::Fo) rs) (hr9:rSl aJ v1 l2 ∈ rs) (hr10:rSl aS v5 l6 ∈ rs) {r:(List aI)×(List aI)} (hm:qC l2 l6 s8=some r) :
    Calls Tryz.prog 149 [v1,.func (.func 150) #[] #[pt p3 0]].toArray w (Ret fun v w'=>∃ y1 y3,.tuple #[y1,y3]=v∧Sep w' (Row 77 aJ y1 r.1::Row 77 aJ y3 r.2::Blk p3 109 [.func (.func 145) #[] #[pt p4 0,pt p7 0]]::Blk p4 32 [v5]::Blk p7 9 [.string s8]::Fo) (rs)):=by
 unfold qC at hm
 refine ent Tryz.func149 rfl Tryz.ntmps149 rfl rfl fun a E=>sq<|pr 2 E rfl fun a E=>nx<|pr 2 E rfl fun a E=>nt<|wp_seq<|sq<|pr 1 E rfl fun a E=>?_
 refine sv E rfl rfl rfl (cR E H rfl rfl hr9 U23) fun a E=>pr 1 E rfl fun a E=>nt<|wp_block<|bX (fun k1 a w=>∃ v11 v13 l12 l14 x15 rs16,Env 30 a [(1,.func (.func 150) #[] #[pt p3 0]),(6,v11),(7,v13),(10,v1),(11,.int .i64 (l2.length:Int)),(12,.int .i64 x15)]∧Sep w (Blk p3 109 [.func (.func 145) #[] #[pt p4 0,pt p7 0]]::Row 77 aJ v11 l12::Row 77 aJ v13 l14::Blk p4 32 [v5]::Blk p7 9 [.string s8]::Fo) rs16∧(∀ r,r ∈ rs→r ∈ rs16)∧fW l2 l6 s8 k1 l12 l14 x15=some r) (((l2.length:Int) - 0:Int).toNat+1) ?_ ?_
 ·exact have H:=H.nilRow 77 aJ;have H:=H.nilRow 77 aJ;have H:=H.frs [4,4,2,3,4] rfl;X6 ⟨E.to rfl,H,Y0,hm⟩
 ·clear E H hm
  rintro k1 a w ⟨v11,v13,l12,l14,x15,rs16,E,H,hs17,hm⟩
  cases k1 with
  | zero=>exact (bT hm rfl).elim
  | succ k1=>
   unfold fW at hm
   refine sq<|pr 1 E rfl fun a E=>nt<|wp_seq<|wif E hm rfl (fun hm=>?_) fun hm=>?_
   ·refine wp_skip<|aC<|aT (fun a w=>∃ v18 v20 l19 l21 rs22,Env 30 a [(1,.func (.func 150) #[] #[pt p3 0]),(6,v18),(7,v20),(10,v1),(11,.int .i64 (l2.length:Int)),(12,.int .i64 x15)]∧Sep w (Blk p3 109 [.func (.func 145) #[] #[pt p4 0,pt p7 0]]::Row 77 aJ v18 l19::Row 77 aJ v20 l21::Blk p4 32 [v5]::Blk p7 9 [.string s8]::Fo) rs22∧(∀ r,r ∈ rs→r ∈ rs22)∧kV (fW l2 l6 s8 k1) x15 l19 l21=some r) ?_ ?_
    ·refine wp_block<|sq<|bd hm fun x24 hx25 hm=>dE E H (wn rfl) rfl rfl rfl rfl rfl (hs17 _ hr9) U23 oK hx25 fun q26 a H E=>ldf dI E H rfl rfl rfl rfl rfl m0 U77 rfl oK fun a E=>al E H rfl rfl rfl rfl Yr fun p27 w a H E=>aZ (i:=0) E H (wn rfl) rfl rfl rfl rfl rfl rfl oK rfl rfl fun w H=>nx<|pr 1 E rfl fun a E=>?_
     refine sv E rfl rfl rfl (cA (i:=0) (us:=[.string x24.Dir,.int .i64 x24.Next]) E H rfl rfl rfl rfl U77 rfl oK) fun a E=>have H:=H.frs [3,3,2,5,5,5] rfl;bd hm fun u28 hx29 hm=>aU E (wn rfl) rfl rfl (bP E rfl rfl rfl (Wr _)) (Cp H (t1 (hs17 _ hr10)) hx29)<|?_
     rintro _ w ⟨rfl,H⟩ a E
     refine nt<|wif E hm rfl (fun hm=>?_) fun hm=>?_
     ·refine wp_region_lit<|pr 1 E rfl fun a E=>sv E rfl rfl rfl (cA (i:=3) (us:=[.string x24.Dir,.int .i64 x24.Next]) E H rfl rfl rfl rfl U77 rfl oK) fun a E=>pI (e:=77) (d:=aJ) (cs:=[.string x24.Dir,.int .i64 x24.Next]) (xs:=[x24]) E H (wn rfl) rfl rfl rfl (E.evs rfl) (by kernel_rfl) rfl (fun ok hr=>(Rows.single (d:=aJ) (cs:=[.string x24.Dir,.int .i64 x24.Next]) (x:=x24) qL)) fun v30 w a H E=>bk hm fun hx33 hm=>dV (i:=4) E H (wn rfl) rfl rfl rfl rfl rfl rfl (jA m0) U23 Dc rfl hx33 rfl fun v31 w a H E=>pr 1 E rfl fun a E=>wpList_nil<|bY<|?_
      exact aC<|have H:=H.drop 3;have H:=H.frs [2,2,4,4,4] rfl;X5 ⟨E.to rfl,H,(Y2 hs17),hm⟩
     ·refine wp_region_lit<|pr 1 E rfl fun a E=>sv E rfl rfl rfl (cA (i:=3) (us:=[.string x24.Dir,.int .i64 x24.Next]) E H rfl rfl rfl rfl U77 rfl oK) fun a E=>pI (e:=77) (d:=aJ) (cs:=[.string x24.Dir,.int .i64 x24.Next]) (xs:=[x24]) E H (wn rfl) rfl rfl rfl (E.evs rfl) (by kernel_rfl) rfl (fun ok hr=>(Rows.single (d:=aJ) (cs:=[.string x24.Dir,.int .i64 x24.Next]) (x:=x24) qL)) fun v34 w a H E=>bk hm fun hx37 hm=>dV (i:=5) E H (wn rfl) rfl rfl rfl rfl rfl rfl (jA m0) U23 Dc rfl hx37 rfl fun v35 w a H E=>pr 1 E rfl fun a E=>wpList_nil<|bY<|?_
      exact aC<|have H:=H.drop 3;have H:=H.frs [2,2,4,4,4] rfl;X5 ⟨E.to rfl,H,(Y2 hs17),hm⟩
    ·clear E H hm
     rintro a w ⟨v18,v20,l19,l21,rs22,E,H,hs23,hm⟩
     unfold kV at hm
     exact wp_region_lit<|pr 2 E rfl fun a E=>nt<|⟨k1,Nat.lt_succ_self k1,X6 ⟨E.to rfl,H,hs23,hm⟩⟩
   ·refine wp_exit<|bH<|bH<|dG<|aC<|sq<|pr 4 E rfl fun a E=>nt<|wp_ret<|?_
    refine fX E rfl rfl rfl<|have H:=H.frs [4,4,2,4,4] rfl;?_
    cases hm
    exact ⟨_,_,rfl,H.reads hs17⟩

def vX (x1:bB) (l5:List aH) (s6:ByteArray) (b19:Bool):Option ((List aE)×(List aI)×(List aE)×(List aI)):=
  if b19=true then (some ([],[],[],[])) else ((qB x1.Nodes l5 s6).bind fun u23=>(qC x1.Turns l5 s6).bind fun u31=>some (u23.1,u31.1,u23.2,u31.2))
def tL (x1:bB) (l5:List aH) (s6:ByteArray):Option ((List aE)×(List aI)×(List aE)×(List aI)):=
  (pM x1).bind fun u39=>if (!u39)=true then (vX x1 l5 s6 true) else ((oL l5).bind fun u42=>vX x1 l5 s6 (!u42))
theorem jL {w:World} {Fo:List Ob} {rs:List Rp} {x1:bB} {v2 v3 v4:Value} {l5:List aH} {s6:ByteArray} (H:Sep w (Fo) rs) (hr7:rSl aF v2 x1.Nodes ∈ rs) (hr8:rSl aJ v3 x1.Turns ∈ rs) (hr9:rSl aS v4 l5 ∈ rs) {r:(List aE)×(List aI)×(List aE)×(List aI)} (hm:tL x1 l5 s6=some r) :
    Calls Tryz.prog 78 [.agg #[v2,v3],v4,.string s6].toArray w (Ret fun v w'=>∃ y1 y3 y5 y7,.tuple #[.agg #[y1,y3],.agg #[y5,y7]]=v∧Sep w' (Row 95 aF y1 r.1::Row 77 aJ y3 r.2.1::Row 95 aF y5 r.2.2.1::Row 77 aJ y7 r.2.2.2::Fo) (rs)):=by
 unfold tL at hm
 refine ent Tryz.func78 rfl Tryz.ntmps78 rfl rfl fun a E=>sq<|bS E H (wn rfl) rfl rfl rfl rfl rfl fun p10 w a H E=>?_
 obtain ⟨q12,x13,rfl⟩:=H.slform hr9
 refine bS E H (wn rfl) rfl rfl rfl rfl rfl fun p11 w a H E=>bS E H (wn rfl) rfl rfl rfl rfl rfl fun p14 w a H E=>al E H rfl rfl rfl rfl jN fun p15 w a H E=>al E H rfl rfl rfl rfl jN fun p16 w a H E=>nx<|al E H rfl rfl rfl rfl jN fun p17 w a H E=>al E H rfl rfl rfl rfl jN fun p18 w a H E=>nt<|wp_seq<|aT (fun a w=>∃ b19 rs20,Env 42 a [(3,pt p10 0),(4,pt p11 0),(5,pt p14 0),(6,pt p15 0),(7,pt p16 0),(8,pt p17 0),(9,pt p18 0),(18,.bool b19)]∧Sep w (Blk p10 25 [v2,v3]::Blk p11 32 [(.slice q12 l5.length x13)]::Blk p14 9 [.string s6]::Blk p15 25 [.slice none 0 0,.slice none 0 0]::Blk p16 25 [.slice none 0 0,.slice none 0 0]::Blk p17 25 [.slice none 0 0,.slice none 0 0]::Blk p18 25 [.slice none 0 0,.slice none 0 0]::Fo) rs20∧(∀ r,r ∈ rs→r ∈ rs20)∧vX x1 l5 s6 b19=some r) ?_ ?_
 ·refine wp_region_lit<|sv E rfl rfl rfl (cA (i:=6) (us:=[v2,v3]) E H rfl rfl rfl rfl U25 rfl dA) fun a E=>bd hm fun u39 hx40 hm=>xk E rfl rfl rfl rfl rfl Gu (yX H hr7 hr8 hx40) fun w H a E=>pr 2 E rfl fun a E=>cs hm (fun hb41 hm=>?_) fun hb41 hm=>?_
  ·exact pk 4 E (kc 14 rfl hb41) rfl fun a E=>nt<|have H:=H.frs [0,1,2,3,4,5,6] rfl;⟨_,_,E.to rfl,H,Y0,hm⟩
  ·refine aQ E (ws' (d:=14) E rfl rfl rfl rfl hb41) rfl rfl (cD (i:=5) E H rfl rfl rfl rfl U32 rfl) fun a E=>bd hm fun u42 hx43 hm=>aU E (ws' (d:=14) E rfl rfl rfl rfl hb41) rfl rfl (cC E rfl rfl (Eh _)) (tB H hr9 hx43)<|?_
   rintro _ w ⟨rfl,H⟩ a E
   exact pk 2 E (kc 14 rfl hb41) rfl fun a E=>nt<|have H:=H.frs [0,1,2,3,4,5,6] rfl;⟨_,_,E.to rfl,H,Y0,hm⟩
 ·clear E H hm
  rintro a w ⟨b19,rs20,E,H,hs21,hm⟩
  unfold vX at hm
  refine wif E hm rfl (fun hm=>?_) fun hm=>?_
  ·refine wp_seq<|dw [(0,0),(1,0),(2,1),(3,2)] [5,6] [] H (by kernel_rfl) (fun _ _ _ h=>False.elim h.2) fun w W0 hI H=>fbn E [.slice none 0 0,.slice none 0 0] rfl (wn rfl) rfl rfl rfl rfl m0 rfl U25 rfl dA fun a E=>fbn E [.slice none 0 0,.slice none 0 0] rfl (wn rfl) rfl rfl rfl rfl mm1 rfl U25 rfl dA fun a E=>bZ rfl<|aZ (i:=3) E H (wn rfl) rfl rfl rfl rfl rfl rfl dA rfl rfl fun w H=>nt<|?_
   refine ⟨⟨_,_,H,(aB mm5 (aB mm6 (aL))),(aM)⟩,?_⟩
   refine bQ rfl<|aZ (i:=4) E H (wn rfl) rfl rfl rfl rfl rfl rfl dA rfl rfl fun w H=>nt<|bR<|?_
   clear hI
   refine aC<|wp_ret<|aP<|rJ E rfl (cV (i:=3) (us:=[.slice none 0 0,.slice none 0 0]) H rfl rfl rfl U25 rfl dA) (cV (i:=4) (us:=[.slice none 0 0,.slice none 0 0]) H rfl rfl rfl U25 rfl dA)<|have H:=H.nilRow 95 aF;have H:=H.nilRow 77 aJ;have H:=H.nilRow 95 aF;have H:=H.nilRow 77 aJ;have H:=H.drs [4,4,4,4,4,4,4];?_
   refine have H:=H.frs [0,1,2,3] rfl;?_
   cases hm
   exact X4 ⟨rfl,H.reads hs21⟩
  ·refine wp_skip<|aC<|sq<|sv E rfl rfl rfl (iP E rfl rfl rfl) fun a E=>al1 E H rfl rfl rfl rfl Wm rfl fun p22 w a H E=>aZ (i:=0) E H (wn rfl) rfl rfl rfl rfl rfl rfl Wn rfl rfl fun w H=>nx<|pr 1 E rfl fun a E=>lb E H 1 rfl rfl rfl rfl rfl rfl rfl U22 rfl fun a E=>?_
   refine sv E rfl rfl rfl (iP E rfl rfl rfl) fun a E=>have H:=H.frs [7,7,7,7,5,7,7,7] rfl;bd hm fun u23 hx24 hm=>cG E rfl rfl rfl rfl rfl Wo (w3 H (hs21 _ hr7) (hs21 _ hr9) hx24)<|?_
   rintro _ w ⟨v25,v26,rfl,H⟩ a E
   refine pr 4 E rfl fun a E=>?_
   obtain ⟨q27,x28,rfl⟩:=H.rowform (i:=0) rfl
   refine aZ (i:=8) E H (wn rfl) rfl rfl rfl rfl rfl rfl Bg rfl rfl fun w H=>pr 1 E rfl fun a E=>?_
   obtain ⟨q29,x30,rfl⟩:=H.rowform (i:=1) rfl
   refine aZ (i:=9) E H (wn rfl) rfl rfl rfl rfl rfl rfl Bg rfl rfl fun w H=>nx<|pr 1 E rfl fun a E=>lb E H 5 rfl rfl rfl rfl rfl rfl rfl U23 rfl fun a E=>sv E rfl rfl rfl (iP E rfl rfl rfl) fun a E=>have H:=H.frs [9,9,9,9,9,6,6,9,9,9] rfl;bd hm fun u31 hx32 hm=>cG E rfl rfl rfl rfl rfl Wq (w4 H (hs21 _ hr8) (hs21 _ hr9) hx32)<|?_
   rintro _ w ⟨v33,v34,rfl,H⟩ a E
   refine pr 4 E rfl fun a E=>?_
   obtain ⟨q35,x36,rfl⟩:=H.rowform (i:=0) rfl
   refine aZ (i:=10) E H (wn rfl) rfl rfl rfl rfl rfl rfl G4 rfl rfl fun w H=>pr 1 E rfl fun a E=>?_
   obtain ⟨q37,x38,rfl⟩:=H.rowform (i:=1) rfl
   refine aZ (i:=11) E H (wn rfl) rfl rfl rfl rfl rfl rfl G4 rfl rfl fun w H=>nt<|wp_seq<|dw [(0,0),(1,0),(2,1),(3,2)] [10,11] [] H (by kernel_rfl) (fun _ _ _ h=>False.elim h.2) fun w W0 hI H=>fbn E [(.slice q27 u23.1.length x28),(.slice q35 u31.1.length x36)] rfl (wn rfl) rfl rfl rfl rfl m0 rfl U25 rfl dA fun a E=>fbn E [(.slice q29 u23.2.length x30),(.slice q37 u31.2.length x38)] rfl (wn rfl) rfl rfl rfl rfl mm1 rfl U25 rfl dA fun a E=>bZ rfl<|aZ (i:=8) E H (wn rfl) rfl rfl rfl rfl rfl rfl dA rfl rfl fun w H=>nt<|?_
   refine ⟨⟨_,_,H,(aB (t4 mm6) (aB (t5 mm6) (aL))),(aM)⟩,?_⟩
   refine bQ rfl<|aZ (i:=9) E H (wn rfl) rfl rfl rfl rfl rfl rfl dA rfl rfl fun w H=>nt<|bR<|?_
   clear hI
   refine aC<|wp_ret<|rJ E rfl (cV (i:=8) (us:=[(.slice q27 u23.1.length x28),(.slice q35 u31.1.length x36)]) H rfl rfl rfl U25 rfl dA) (cV (i:=9) (us:=[(.slice q29 u23.2.length x30),(.slice q37 u31.2.length x38)]) H rfl rfl rfl U25 rfl dA)<|have H:=H.drs [2,2,2,4,4,4,4,4];have H:=H.frs [1,3,2,3] rfl;?_
   cases hm
   exact X4 ⟨rfl,H.reads hs21⟩

def lB (s1:ByteArray) (s2:ByteArray):Option Int:=
  some (Extern.BytealgCompare.cmp s1 s2)
theorem yA {w:World} {Fo:List Ob} {rs:List Rp} {s1 s2:ByteArray} (H:Sep w (Fo) rs) {r:Int} (hm:lB s1 s2=some r) :
    Calls Tryz.prog 158 [.string s1,.string s2].toArray w (Ret fun v w'=>.int .i64 r=v∧Sep w' (Fo) (rs)):=by
 unfold lB at hm
 refine ent Tryz.func158 rfl Tryz.ntmps158 rfl rfl fun a E=>sq<|pr 1 E rfl fun a E=>nx<|pr 2 E rfl fun a E=>sv E rfl rfl rfl (O4 E rfl rfl (Jd _ _ _)) fun a E=>pr 1 E rfl fun a E=>nt<|wp_ret<|?_
 refine aY E rfl rfl<|?_
 cases hm
 exact ⟨rfl,H.reads Y0⟩

def jZ (s1:ByteArray) (s2:ByteArray):Option Int:=
  (lB s1 s2).bind fun u3=>some (u3)
theorem oP {w:World} {Fo:List Ob} {rs:List Rp} {s1 s2:ByteArray} (H:Sep w (Fo) rs) {r:Int} (hm:jZ s1 s2=some r) :
    Calls Tryz.prog 84 [.string s1,.string s2].toArray w (Ret fun v w'=>.int .i64 r=v∧Sep w' (Fo) (rs)):=by
 unfold jZ at hm
 refine ent Tryz.func84 rfl Tryz.ntmps84 rfl rfl fun a E=>sq<|pr 1 E rfl fun a E=>nx<|pr 2 E rfl fun a E=>bd hm fun u3 hx4 hm=>xk E rfl rfl rfl rfl rfl Vp (yA H hx4) fun w H a E=>pr 1 E rfl fun a E=>nt<|?_
 refine wp_ret<|aY E rfl rfl<|?_
 cases hm
 exact ⟨rfl,H.reads Y0⟩

def vY (x1:aH) (s2:ByteArray):Option Int:=
  (jZ x1.Prefix s2).bind fun u4=>some (u4)
theorem E5 {w:World} {Fo:List Ob} {rs:List Rp} {x1:aH} {s2:ByteArray} (H:Sep w (Fo) rs) {r:Int} (hm:vY x1 s2=some r) :
    Calls Tryz.prog 204 [.agg (kN x1).toArray,.string s2].toArray w (Ret fun v w'=>.int .i64 r=v∧Sep w' (Fo) (rs)):=by
 unfold vY at hm
 refine ent Tryz.func204 rfl Tryz.ntmps204 rfl rfl fun a E=>sq<|bS E H (wn rfl) rfl rfl rfl rfl rfl fun p3 w a H E=>pr 1 E rfl fun a E=>nx<|pr 1 E rfl fun a E=>lb E H 0 rfl rfl rfl rfl rfl rfl rfl U9 rfl fun a E=>pr 1 E rfl fun a E=>bd hm fun u4 hx5 hm=>?_
 refine xk E rfl rfl rfl rfl rfl Er (oP H hx5) fun w H a E=>pr 1 E rfl fun a E=>nt<|wp_ret<|aY E rfl rfl<|have H:=H.drop 0;?_
 cases hm
 exact ⟨rfl,H.reads Y0⟩

def cZ (l2:List aH) (s3:ByteArray):Nat→Int→Int→Option (Int×Bool)
  | 0,_,_=>none
  | k1+1,x5,x6=>
    if (decide (x5 < x6))=true then ((idx l2 (IntKind.i64.wrap (pH .u64 (IntKind.u64.wrap (IntKind.i64.wrap (x5+x6))) 1))).bind fun x9=>(vY x9 s3).bind fun u12=>if (decide (u12 < 0))=true then (cZ l2 s3 k1 (IntKind.i64.wrap ((IntKind.i64.wrap (pH .u64 (IntKind.u64.wrap (IntKind.i64.wrap (x5+x6))) 1))+1)) x6) else (cZ l2 s3 k1 x5 (IntKind.i64.wrap (pH .u64 (IntKind.u64.wrap (IntKind.i64.wrap (x5+x6))) 1)))) else (if (decide (x5 < (l2.length:Int)))=true then ((idx l2 x5).bind fun x15=>(vY x15 s3).bind fun u19=>some (x5,u19 == 0)) else (some (x5,false)))
def eM (l2:List aH) (s3:ByteArray):Option (Int×Bool):=
  cZ l2 s3 (((l2.length:Int) - 0:Int).toNat+1) 0 (l2.length:Int)
theorem oM {w:World} {Fo:List Ob} {rs:List Rp} {v1:Value} {l2:List aH} {s3:ByteArray} (H:Sep w (Fo) rs) (hr4:rSl aS v1 l2 ∈ rs) {r:Int×Bool} (hm:eM l2 s3=some r) :
    Calls Tryz.prog 152 [v1,.string s3,.func (.func 204) #[] #[]].toArray w (Ret fun v w'=>.tuple #[.int .i64 r.1,.bool r.2]=v∧Sep w' (Fo) (rs)):=by
 unfold eM at hm
 refine ent Tryz.func152 rfl Tryz.ntmps152 rfl rfl fun a E=>sq<|pr 2 E rfl fun a E=>nx<|pr 1 E rfl fun a E=>sv E rfl rfl rfl (cR E H rfl rfl hr4 U32) fun a E=>pr 1 E rfl fun a E=>nx<|pr 3 E rfl fun a E=>?_
 refine nt<|wp_seq<|wp_block<|bX (fun k1 a w=>∃ x5 x6 rs7,Env 49 a [(0,v1),(1,.string s3),(2,.func (.func 204) #[] #[]),(8,.int .i64 (l2.length:Int)),(9,.int .i64 x5),(10,.int .i64 x6)]∧Sep w (Fo) rs7∧(∀ r,r ∈ rs→r ∈ rs7)∧cZ l2 s3 k1 x5 x6=some r) (((l2.length:Int) - 0:Int).toNat+1) ?_ ?_
 ·exact X3 ⟨E.to rfl,H,Y0,hm⟩
 ·clear E H hm
  rintro k1 a w ⟨x5,x6,rs7,E,H,hs8,hm⟩
  cases k1 with
  | zero=>exact (bT hm rfl).elim
  | succ k1=>
   unfold cZ at hm
   refine wp_seq<|sq<|pr 3 E rfl fun a E=>nt<|wif E hm rfl (fun hm=>?_) fun hm=>?_
   ·refine wp_skip<|aC<|wp_block<|sq<|pr 4 E rfl fun a E=>sv E rfl rfl rfl (F7 E rfl rfl rfl (by decide)) fun a E=>pr 2 E rfl fun a E=>nx<|pr 3 E rfl fun a E=>?_
    refine bd hm fun x9 hx10 hm=>dE E H (wn rfl) rfl rfl rfl rfl rfl (hs8 _ hr4) U32 gL hx10 fun q11 a H E=>ldf gZ E H rfl rfl rfl rfl rfl m0 U31 rfl gL fun a E=>pr 1 E rfl fun a E=>bd hm fun u12 hx13 hm=>aU E (wn rfl) rfl rfl (bP E rfl rfl rfl (Mb _)) (E5 H hx13)<|?_
    rintro _ w ⟨rfl,H⟩ a E
    refine pr 1 E rfl fun a E=>nt<|wif E hm rfl (fun hm=>?_) fun hm=>?_
    ·exact wp_region_lit<|pr 3 E rfl fun a E=>wpList_nil<|bY<|aC<|⟨k1,Nat.lt_succ_self k1,X3 ⟨E.to rfl,H,(Y1 hs8),hm⟩⟩
    ·exact wp_region_lit<|pr 2 E rfl fun a E=>wpList_nil<|bY<|aC<|⟨k1,Nat.lt_succ_self k1,X3 ⟨E.to rfl,H,(Y1 hs8),hm⟩⟩
   ·refine wp_exit<|bH<|bH<|dG<|aC<|sq<|pr 5 E rfl fun a E=>cs hm (fun hb14 hm=>?_) fun hb14 hm=>?_
    ·refine pk 3 E (kc 39 rfl hb14) rfl fun a E=>bd hm fun x15 hx16 hm=>dE E H (ws' (d:=39) E rfl rfl rfl rfl hb14) rfl rfl rfl rfl rfl (hs8 _ hr4) U32 gL hx16 fun q17 a H E=>K6 E H (ws' (d:=39) E rfl rfl rfl rfl hb14) rfl rfl rfl rfl m0 U31 rfl gL fun u18 a H E=>?_
     obtain ⟨_,hcs⟩:=H.rd (.head _)
     obtain rfl:=o9 hcs
     clear hcs
     refine pk 1 E (kc 39 rfl hb14) rfl fun a E=>bd hm fun u19 hx20 hm=>aU E (ws' (d:=39) E rfl rfl rfl rfl hb14) rfl rfl (bP E rfl rfl rfl (Mb _)) (E5 H hx20)<|?_
     rintro _ w ⟨rfl,H⟩ a E
     refine pk 4 E (kc 39 rfl hb14) rfl fun a E=>nt<|wp_ret<|fX E rfl rfl rfl<|?_
     cases hm
     exact ⟨rfl,H.reads (Y2 hs8)⟩
    ·refine pk 11 E (kc 39 rfl hb14) rfl fun a E=>nt<|wp_ret<|fX E rfl rfl rfl<|?_
     cases hm
     exact ⟨rfl,H.reads hs8⟩

def uY (l2:List aH) (s3:ByteArray):Option (Int×Bool):=
  (eM l2 s3).bind fun u5=>some (u5.1,u5.2)
theorem q6 {w:World} {Fo:List Ob} {rs:List Rp} {v1:Value} {l2:List aH} {s3:ByteArray} (H:Sep w (Fo) rs) (hr4:rSl aS v1 l2 ∈ rs) {r:Int×Bool} (hm:uY l2 s3=some r) :
    Calls Tryz.prog 151 [v1,.string s3].toArray w (Ret fun v w'=>.tuple #[.int .i64 r.1,.bool r.2]=v∧Sep w' (Fo) (rs)):=by
 unfold uY at hm
 refine ent Tryz.func151 rfl Tryz.ntmps151 rfl rfl fun a E=>sq<|pr 2 E rfl fun a E=>nx<|pr 2 E rfl fun a E=>bd hm fun u5 hx6 hm=>xk E rfl rfl rfl rfl rfl Ma (oM H hr4 hx6) fun w H a E=>pr 4 E rfl fun a E=>nt<|?_
 refine wp_ret<|fX E rfl rfl rfl<|?_
 cases hm
 exact ⟨rfl,H.reads Y0⟩

def vZ (u6:Int×Bool) (x3:aH) (l15:(List aH)):Option ((List aH)×Bool):=
  (idx l15 u6.1).bind fun x18=>some (l15.set u6.1.toNat x3,true)
def wA (u6:Int×Bool) (x3:aH) (l2:List aH) (b8:Bool):Option ((List aH)×Bool):=
  if b8=true then (some ([],false)) else ((ck (l2.length ≤ LIM)).bind fun u12=>if (!u6.2)=true then ((ck (0 ≤ u6.1∧u6.1 ≤ l2.length∧l2.length ≤ 1000000)).bind fun u24=>vZ u6 x3 (l2.take u6.1.toNat ++ x3::l2.drop u6.1.toNat)) else (vZ u6 x3 l2))
def xE (l2:List aH) (x3:aH):Option ((List aH)×Bool):=
  (uY l2 x3.Prefix).bind fun u6=>if (!u6.2)=true then (wA u6 x3 l2 ((l2.length:Int) == 32)) else (wA u6 x3 l2 false)
theorem C4 {w:World} {Fo:List Ob} {rs:List Rp} {v1:Value} {l2:List aH} {x3:aH} (H:Sep w (Fo) rs) (hr4:rSl aS v1 l2 ∈ rs) {r:(List aH)×Bool} (hm:xE l2 x3=some r) :
    Calls Tryz.prog 143 [v1,.agg (kN x3).toArray].toArray w (Ret fun v w'=>∃ y1,.tuple #[y1,.bool r.2]=v∧Sep w' (Row 31 aS y1 r.1::Fo) (rs)):=by
 unfold xE at hm
 refine ent Tryz.func143 rfl Tryz.ntmps143 rfl rfl fun a E=>sq<|bS E H (wn rfl) rfl rfl rfl rfl rfl fun p5 w a H E=>pr 2 E rfl fun a E=>nx<|pr 2 E rfl fun a E=>lb E H 0 rfl rfl rfl rfl rfl rfl rfl U9 rfl fun a E=>bd hm fun u6 hx7 hm=>xk E rfl rfl rfl rfl rfl Hw (q6 H hr4 hx7) fun w H a E=>?_
 refine pr 5 E rfl fun a E=>nt<|wp_seq<|aT (fun a w=>∃ b8 rs9,Env 36 a [(0,v1),(3,pt p5 0),(6,.int .i64 u6.1),(7,.bool u6.2),(21,.bool b8)]∧Sep w (Blk p5 31 (kN x3)::Fo) rs9∧(∀ r,r ∈ rs→r ∈ rs9)∧wA u6 x3 l2 b8=some r) ?_ ?_
 ·refine wp_region_lit<|pr 3 E rfl fun a E=>cs hm (fun hb27 hm=>?_) fun hb27 hm=>?_
  ·exact pk 1 E (kc 17 rfl hb27) rfl fun a E=>aQ E (ws' (d:=17) E rfl rfl rfl rfl hb27) rfl rfl (cR E H rfl rfl hr4 U32) fun a E=>pk 2 E (kc 17 rfl hb27) rfl fun a E=>nt<|⟨_,_,E.to rfl,H,Y0,hm⟩
  ·exact pk 4 E (kc 17 rfl hb27) rfl fun a E=>nt<|⟨_,_,E.to rfl,H,Y0,hm⟩
 ·clear E H hm
  rintro a w ⟨b8,rs9,E,H,hs10,hm⟩
  unfold wA at hm
  refine wif E hm rfl (fun hm=>?_) fun hm=>?_
  ·refine sq<|pr 2 E rfl fun a E=>nt<|wp_ret<|aP<|fX E rfl rfl rfl<|have H:=H.nilRow 31 aS;have H:=H.drop 1;?_
   cases hm
   exact ⟨_,rfl,H.reads hs10⟩
  ·refine wp_skip<|aC<|sq<|pr 1 E rfl fun a E=>bk hm fun hx13 hm=>aU E (wn rfl) rfl rfl (cC E rfl rfl (Rn _)) (mC H (hs10 _ hr4) hx13) fun v11 w H a E=>pr 1 E rfl fun a E=>nt<|aT (fun a w=>∃ v14 l15 rs16,Env 36 a [(0,v14),(3,pt p5 0),(6,.int .i64 u6.1)]∧Sep w (Row 31 aS v14 l15::Blk p5 31 (kN x3)::Fo) rs16∧(∀ r,r ∈ rs→r ∈ rs16)∧vZ u6 x3 l15=some r) ?_ ?_
   ·refine sq<|pr 2 E rfl fun a E=>nt<|wif E hm rfl (fun hm=>?_) fun hm=>?_
    ·exact wp_region_lit<|pr 2 E rfl fun a E=>sv E rfl rfl rfl (cA (i:=1) (us:=(kN x3)) E H rfl rfl rfl rfl U31 rfl gL) fun a E=>fY (e:=31) (d:=aS) (cs:=[.string x3.Prefix,.int .i64 x3.Epoch,.int .i64 x3.State]) (xs:=[x3]) E H (wn rfl) rfl rfl rfl (E.evs rfl) (by kernel_rfl) rfl rfl (fun ok hr=>(Rows.single (d:=aS) (cs:=[.string x3.Prefix,.int .i64 x3.Epoch,.int .i64 x3.State]) (x:=x3) rR)) fun v23 w a H E=>bk hm fun hx25 hm=>aU E (wn rfl) rfl rfl (cC E rfl rfl (Mc _)) (Ra.insert_a (ix:=1) (iu:=0) H rfl rfl (by decide) hx25) fun v26 w H a E=>pr 1 E rfl fun a E=>nt<|have H:=H.drop 0;X3 ⟨E.to rfl,H,hs10,hm⟩
    ·exact wp_skip<|aC<|X3 ⟨E.to rfl,H,hs10,hm⟩
   ·clear E H hm
    rintro a w ⟨v14,l15,rs16,E,H,hs17,hm⟩
    unfold vZ at hm
    refine sq<|pr 2 E rfl fun a E=>sv E rfl rfl rfl (cA (i:=1) (us:=(kN x3)) E H rfl rfl rfl rfl U31 rfl gL) fun a E=>bd hm fun x18 hx19 hm=>?_
    obtain ⟨p20,x21,hx22⟩:=H.rowformNE (i:=0) rfl hx19
    refine sv E rfl rfl rfl (cY (d:=aS) E hx22 rfl rfl rfl rfl U32 gL hx19) fun a E=>yO (d:=aS) (i:=0) (us:=[.string x3.Prefix,.int .i64 x3.Epoch,.int .i64 x3.State]) (z':=x3) E H gZ (wn rfl) rfl hx22 rfl rfl rfl rfl rfl rfl rfl hx19 gL fun w H=>nx<|pr 3 E rfl fun a E=>nt<|wp_ret<|fX E rfl rfl rfl<|have H:=H.drop 1;?_
    cases hm
    exact ⟨_,rfl,H.reads hs17⟩

def qR (l2:List aH) (s3:ByteArray) (x4:Int) (b10:Bool):Option ((List aH)×Bool):=
  if b10=true then (some ([],false)) else ((xE l2 (⟨s3,x4,3⟩:aH)).bind fun u13=>some (u13.1,u13.2))
def q7 (l2:List aH) (s3:ByteArray) (x4:Int):Option ((List aH)×Bool):=
  (oL l2).bind fun u6=>if (!u6)=true then (some ([],false)) else ((uY l2 s3).bind fun u8=>if (!u8.2)=true then (qR l2 s3 x4 true) else ((idx l2 u8.1).bind fun x17=>if (x17.State != 2)=true then (qR l2 s3 x4 true) else ((idx l2 u8.1).bind fun x21=>qR l2 s3 x4 (x21.Epoch != x4))))
theorem Ew {w:World} {Fo:List Ob} {rs:List Rp} {v1:Value} {l2:List aH} {s3:ByteArray} {x4:Int} (H:Sep w (Fo) rs) (hr5:rSl aS v1 l2 ∈ rs) {r:(List aH)×Bool} (hm:q7 l2 s3 x4=some r) :
    Calls Tryz.prog 87 [v1,.string s3,.int .i64 x4].toArray w (Ret fun v w'=>∃ y1,.tuple #[y1,.bool r.2]=v∧Sep w' (Row 31 aS y1 r.1::Fo) (rs)):=by
 unfold q7 at hm
 refine ent Tryz.func87 rfl Tryz.ntmps87 rfl rfl fun a E=>sq<|pr 2 E rfl fun a E=>nt<|wp_seq<|sq<|pr 1 E rfl fun a E=>bd hm fun u6 hx7 hm=>xk E rfl rfl rfl rfl rfl Eh (tB H hr5 hx7) fun w H a E=>?_
 refine pr 1 E rfl fun a E=>nt<|wif E hm rfl (fun hm=>?_) fun hm=>?_
 ·refine sq<|pr 2 E rfl fun a E=>nt<|wp_ret<|aP<|fX E rfl rfl rfl<|have H:=H.nilRow 31 aS;?_
  cases hm
  exact ⟨_,rfl,H.reads Y0⟩
 ·refine wp_skip<|aC<|sq<|pr 2 E rfl fun a E=>bd hm fun u8 hx9 hm=>xk E rfl rfl rfl rfl rfl Hw (q6 H hr5 hx9) fun w H a E=>pr 5 E rfl fun a E=>nt<|wp_seq<|aT (fun a w=>∃ b10 rs11,Env 45 a [(0,v1),(1,.string s3),(2,.int .i64 x4),(37,.bool b10)]∧Sep w (Fo) rs11∧(∀ r,r ∈ rs→r ∈ rs11)∧qR l2 s3 x4 b10=some r) ?_ ?_
  ·refine wp_region_lit<|pr 3 E rfl fun a E=>cs hm (fun hb16 hm=>?_) fun hb16 hm=>?_
   ·exact pk 16 E (kc 21 rfl hb16) rfl fun a E=>nt<|⟨_,_,E.to rfl,H,Y0,hm⟩
   ·refine pk 2 E (kc 21 rfl hb16) rfl fun a E=>bd hm fun x17 hx18 hm=>dE E H (ws' (d:=21) E rfl rfl rfl rfl hb16) rfl rfl rfl rfl rfl hr5 U32 gL hx18 fun q19 a H E=>have H:=H.derive1 m0 (rAt (kI .i64) (q19.add 2) x17.State) (fun ok h=>yT h);pk 1 E (kc 21 rfl hb16) rfl fun a E=>aQ E (ws' (d:=21) E rfl rfl rfl rfl hb16) rfl rfl (nT E H rfl rfl m0 U3 rfl) fun a E=>pk 3 E (kc 21 rfl hb16) rfl fun a E=>cs hm (fun hb20 hm=>?_) fun hb20 hm=>?_
    ·exact pk 8 E (kc 29 rfl hb20) rfl fun a E=>nt<|⟨_,_,E.to rfl,H,(Y2 Y0),hm⟩
    ·exact pk 2 E (kc 29 rfl hb20) rfl fun a E=>bd hm fun x21 hx22 hm=>dE E H (ws' (d:=29) E rfl rfl rfl rfl hb20) rfl rfl rfl rfl rfl (t2 hr5) U32 gL hx22 fun q23 a H E=>have H:=H.derive1 m0 (rAt (kI .i64) (q23.add 1) x21.Epoch) (fun ok h=>yS h);pk 1 E (kc 29 rfl hb20) rfl fun a E=>aQ E (ws' (d:=29) E rfl rfl rfl rfl hb20) rfl rfl (nT E H rfl rfl m0 U2 rfl) fun a E=>pk 3 E (kc 29 rfl hb20) rfl fun a E=>nt<|⟨_,_,E.to rfl,H,(Y4 Y0),hm⟩
  ·clear E H hm
   rintro a w ⟨b10,rs11,E,H,hs12,hm⟩
   unfold qR at hm
   refine wif E hm rfl (fun hm=>?_) fun hm=>?_
   ·refine sq<|pr 2 E rfl fun a E=>nt<|wp_ret<|aP<|fX E rfl rfl rfl<|have H:=H.nilRow 31 aS;?_
    cases hm
    exact ⟨_,rfl,H.reads hs12⟩
   ·refine wp_skip<|aC<|sq<|pr 3 E rfl fun a E=>sv E rfl rfl rfl (cI E rfl (E.evs rfl) (v:=.agg #[.string s3,.int .i64 x4,.int .i64 3]) (by kernel_rfl)) fun a E=>bd hm fun u13 hx14 hm=>cG E rfl rfl rfl rfl rfl Hx (C4 (x3:=(⟨s3,x4,3⟩:aH)) H (hs12 _ hr5) hx14)<|?_
    rintro _ w ⟨v15,rfl,H⟩ a E
    refine pr 4 E rfl fun a E=>nt<|wp_ret<|fX E rfl rfl rfl<|?_
    cases hm
    exact ⟨_,rfl,H.reads hs12⟩

def nX (l41:(List aE)) (l43:(List aI)) (l45:(List aH)):Option ((List aE)×(List aI)×(List aH)):=
  some (l41,l43,l45)
def uZ (l3:List aE) (l5:List aI) (l7:List aH) (x20:bA):Option ((List aE)×(List aI)×(List aH)):=
  (q7 l7 x20.Prefix x20.Epoch).bind fun u51=>if u51.2=true then ((tL (⟨l3,l5⟩:bB) l7 x20.Prefix).bind fun u54=>nX u54.2.2.1 u54.2.2.2 u51.1) else (nX l3 l5 l7)
theorem M6 {w:World} {Fo:List Ob} {rs:List Rp} {p1:Nat} {v2 v4 v6 v21 v22 v23 v24 v25 v26 v27 v28 v29 v30:Value} {l3:List aE} {l5:List aI} {l7:List aH} {x20:bA} (H:Sep w (Blk p1 75 [v2,v4,v6,v25,v26,v27,v28,v29,v30]::Fo) rs) (hr31:rSl aF v2 l3 ∈ rs) (hr32:rSl aJ v4 l5 ∈ rs) (hr33:rSl aS v6 l7 ∈ rs) {r:(List aE)×(List aI)×(List aH)} (hm:uZ l3 l5 l7 x20=some r) :
    Calls Tryz.prog 31 [pt p1 0,.agg (aR x20 v21 v22 v23 v24).toArray].toArray w (Ret fun v w'=>∃ y1 y3 y5,.agg bN.toArray=v∧Sep w' (Blk p1 75 [y1,y3,y5,v25,v26,v27,v28,v29,v30]::Fo) (rSl aF y1 r.1::rSl aJ y3 r.2.1::rSl aS y5 r.2.2::rs)):=by
 unfold uZ at hm
 refine ent Tryz.func31 rfl Tryz.ntmps31 rfl rfl fun a E=>sq<|bS E H (wn rfl) rfl rfl rfl rfl rfl fun p38 w a H E=>al E H rfl rfl rfl rfl gN fun p39 w a H E=>nt<|aT (fun a w=>∃ v40 v42 v44 l41 l43 l45 rs46,Env 42 a [(4,pt p39 0)]∧Sep w (Blk p39 48 bN::Blk p1 75 [v40,v42,v44,v25,v26,v27,v28,v29,v30]::Fo) rs46∧(∀ r,r ∈ rs→r ∈ rs46)∧rSl aF v40 l41 ∈ rs46∧rSl aJ v42 l43 ∈ rs46∧rSl aS v44 l45 ∈ rs46∧nX l41 l43 l45=some r) ?_ ?_
 ·refine wp_seq<|dw [(0,0),(1,0),(2,0),(3,0),(4,0),(5,0),(6,0),(7,0),(8,1),(9,0),(10,0),(11,0),(12,1),(13,2)] [1,2] [] H (by kernel_rfl) (fun _ _ _ h=>False.elim h.2) fun w W0 hI H=>fn 3 E rfl fun a E=>fb E rfl (wn rfl) rfl rfl rfl rfl mm1 rfl U32 rfl fun a E=>fn 1 E rfl fun a E=>fb E rfl (wn rfl) rfl rfl rfl rfl m0 rfl U9 rfl fun a E=>fn 1 E rfl fun a E=>fb E rfl (wn rfl) rfl rfl rfl rfl m0 rfl U2 rfl fun a E=>bZ rfl<|?_
  refine bd hm fun u51 hx52 hm=>cG E rfl rfl rfl rfl rfl Yq (Ew H hr33 hx52)<|?_
  rintro _ w ⟨v53,rfl,H⟩ a E
  refine nt<|?_
  refine ⟨⟨_,_,H,(aB mm2 (aB mm3 (aL))),(aM)⟩,?_⟩
  refine fn 3 E rfl fun a E=>bZ rfl<|pr 1 E rfl fun a E=>nt<|?_
  refine ⟨⟨_,_,H,(aB mm2 (aB mm3 (aL))),(aM)⟩,?_⟩
  refine bQ rfl<|pr 1 E rfl fun a E=>nt<|bR<|?_
  clear hI
  refine aC<|sq<|pr 1 E rfl fun a E=>nt<|wif E hm rfl (fun hm=>?_) fun hm=>?_
  ·refine wp_seq<|dw [(0,0),(1,0),(2,0),(3,0),(4,0),(5,0),(6,0),(7,0),(8,0),(9,0),(10,0),(11,1),(12,0),(13,0),(14,0),(15,2),(16,2),(17,2)] [2,3] [] H (by kernel_rfl) (fun _ _ _ h=>False.elim h.2) fun w W0 hI H=>fn 4 E rfl fun a E=>fbn E [v2,v4] rfl (wn rfl) rfl rfl rfl rfl mm1 rfl U25 rfl dA fun a E=>fn 3 E rfl fun a E=>fb E rfl (wn rfl) rfl rfl rfl rfl mm1 rfl U32 rfl fun a E=>fn 1 E rfl fun a E=>fb E rfl (wn rfl) rfl rfl rfl rfl m0 rfl U9 rfl fun a E=>bZ rfl<|?_
   refine bd hm fun u54 hx55 hm=>cG E rfl rfl rfl rfl rfl j9 (jL (x1:=(⟨l3,l5⟩:bB)) H hr31 hr32 hr33 hx55)<|?_
   rintro _ w ⟨v56,v57,v58,v59,rfl,H⟩ a E
   refine nt<|?_
   refine ⟨⟨_,_,H,(aB mm6 (aB (t1 mm6) (aL))),(aM)⟩,?_⟩
   refine fn 3 E rfl fun a E=>bQ rfl<|pr 1 E rfl fun a E=>nt<|bQ rfl<|pr 1 E rfl fun a E=>nt<|bQ rfl<|?_
   obtain ⟨q60,x61,rfl⟩:=H.rowform (i:=2) rfl
   obtain ⟨q62,x63,rfl⟩:=H.rowform (i:=3) rfl
   refine aZ (i:=7) E H (wn rfl) rfl rfl rfl rfl rfl rfl dA rfl rfl fun w H=>nt<|bR<|?_
   clear hI
   refine aC<|wp_region_lit<|pr 4 E rfl fun a E=>?_
   obtain ⟨q64,x65,rfl⟩:=H.rowform (i:=4) rfl
   exact aZ (i:=7) E H (wn rfl) rfl rfl rfl rfl rfl rfl Kt rfl rfl fun w H=>nt<|have H:=H.thaw (i:=2) rfl;have H:=H.thaw (i:=2) rfl;have H:=H.thaw (i:=2) rfl;have H:=H.drs [0,0,1];X7 ⟨E.to rfl,H,(Y3 Y0),mm2,mm1,m0,hm⟩
  ·exact wp_skip<|aC<|have H:=H.drs [0,1];X7 ⟨E.to rfl,H,Y0,hr31,hr32,hr33,hm⟩
 ·clear E H hm
  rintro a w ⟨v40,v42,v44,l41,l43,l45,rs46,E,H,hs47,hr48,hr49,hr50,hm⟩
  unfold nX at hm
  refine sq<|sv E rfl rfl rfl (cI E rfl (E.evs rfl) (v:=.agg bN.toArray) (by kernel_rfl)) fun a E=>aZ (i:=0) E H (wn rfl) rfl rfl rfl rfl rfl rfl bU rfl rfl fun w H=>nt<|wp_ret<|dH E rfl (cV (i:=0) (us:=bN) H rfl rfl rfl U48 rfl bU)<|have H:=H.drop 0;?_
  cases hm
  exact X3 ⟨rfl,H.reads (aA hr48 (aA hr49 (aA hr50 (hs47))))⟩

def wB (x1:aN) (x3:Int):Option Bool:=
  some (x1.Txn == x3)
theorem E6 {w:World} {Fo:List Ob} {rs:List Rp} {x1:aN} {p2:Nat} {x3:Int} (H:Sep w (Blk p2 2 [.int .i64 x3]::Fo) rs) {r:Bool} (hm:wB x1 x3=some r) :
    Calls Tryz.prog 140 [.agg (nG x1).toArray,pt p2 0].toArray w (Ret fun v w'=>.bool r=v∧Sep w' (Blk p2 2 [.int .i64 x3]::Fo) (rs)):=by
 unfold wB at hm
 refine ent Tryz.func140 rfl Tryz.ntmps140 rfl rfl fun a E=>sq<|bS E H (wn rfl) rfl rfl rfl rfl rfl fun p4 w a H E=>pr 1 E rfl fun a E=>nx<|pr 1 E rfl fun a E=>lb E H 0 rfl rfl rfl rfl rfl rfl rfl U2 rfl fun a E=>lb E H 1 rfl rfl rfl rfl rfl rfl rfl U2 rfl fun a E=>pr 2 E rfl fun a E=>?_
 refine nt<|wp_ret<|aY E rfl rfl<|have H:=H.drop 0;?_
 cases hm
 exact ⟨rfl,H.reads Y0⟩

def eQ (l2:List aN) (x4:Int):Nat→Int→Option Int
  | 0,_=>none
  | k1+1,x5=>
    if (decide (x5 < (l2.length:Int)))=true then ((idx l2 x5).bind fun x8=>(wB x8 x4).bind fun u13=>if u13=true then (some (x5)) else (eQ l2 x4 k1 (IntKind.i64.wrap (x5+1)))) else (some ((-1)))
def iG (l2:List aN) (x4:Int):Option Int:=
  eQ l2 x4 (((l2.length:Int) - 0:Int).toNat+1) 0
theorem tS {w:World} {Fo:List Ob} {rs:List Rp} {v1:Value} {l2:List aN} {p3:Nat} {x4:Int} (H:Sep w (Row 103 bG v1 l2::Blk p3 2 [.int .i64 x4]::Fo) rs) {r:Int} (hm:iG l2 x4=some r) :
    Calls Tryz.prog 120 [v1,.func (.func 140) #[] #[pt p3 0]].toArray w (Ret fun v w'=>.int .i64 r=v∧Sep w' (Blk p3 2 [.int .i64 x4]::Row 103 bG v1 l2::Fo) (rs)):=by
 unfold iG at hm
 refine ent Tryz.func120 rfl Tryz.ntmps120 rfl rfl fun a E=>sq<|pr 1 E rfl fun a E=>nt<|wp_seq<|sq<|pr 1 E rfl fun a E=>sv E rfl rfl rfl (iZ (i:=0) E H rfl rfl rfl U62) fun a E=>pr 1 E rfl fun a E=>?_
 refine nt<|wp_block<|bX (fun k1 a w=>∃ x5 rs6,Env 19 a [(0,v1),(1,.func (.func 140) #[] #[pt p3 0]),(7,.int .i64 (l2.length:Int)),(8,.int .i64 x5)]∧Sep w (Row 103 bG v1 l2::Blk p3 2 [.int .i64 x4]::Fo) rs6∧(∀ r,r ∈ rs→r ∈ rs6)∧eQ l2 x4 k1 x5=some r) (((l2.length:Int) - 0:Int).toNat+1) ?_ ?_
 ·exact ⟨_,_,E.to rfl,H,Y0,hm⟩
 ·clear E H hm
  rintro k1 a w ⟨x5,rs6,E,H,hs7,hm⟩
  cases k1 with
  | zero=>exact (bT hm rfl).elim
  | succ k1=>
   unfold eQ at hm
   refine sq<|pr 1 E rfl fun a E=>nt<|wp_seq<|wif E hm rfl (fun hm=>?_) fun hm=>?_
   ·refine wp_skip<|aC<|wp_seq<|wp_block<|sq<|pr 2 E rfl fun a E=>nx<|pr 3 E rfl fun a E=>bd hm fun x8 hx9 hm=>?_
    obtain ⟨p10,x11,hx12⟩:=H.rowformNE (i:=0) rfl hx9
    refine sv E rfl rfl rfl (cY (d:=bG) E hx12 rfl rfl rfl rfl U62 gQ hx9) fun a E=>sv E rfl rfl rfl (fZ (i:=0) E H eC hx12 rfl rfl rfl hx9 (us:=[.string x8.Dir,.int .i64 x8.Txn,.int .i64 x8.Age]) rfl j8 rfl gQ) fun a E=>have H:=H.frs [0,1] rfl;bd hm fun u13 hx14 hm=>aU E (wn rfl) rfl rfl (bP E rfl rfl rfl (Mf _)) (E6 H hx14)<|?_
    rintro _ w ⟨rfl,H⟩ a E
    refine nt<|wif E hm rfl (fun hm=>?_) fun hm=>?_
    ·refine sq<|pr 2 E rfl fun a E=>nt<|wp_ret<|bV<|aP<|aP<|bV<|aP<|?_
     refine aY E rfl rfl<|?_
     cases hm
     exact ⟨rfl,H.reads hs7⟩
    ·exact wp_skip<|bY<|aC<|wp_region_lit<|pr 2 E rfl fun a E=>nt<|have H:=H.frs [0,1] rfl;⟨k1,Nat.lt_succ_self k1,_,_,E.to rfl,H,hs7,hm⟩
   ·refine wp_exit<|bH<|bH<|dG<|aC<|sq<|pr 1 E rfl fun a E=>nt<|wp_ret<|?_
    refine aY E rfl rfl<|have H:=H.frs [0,1] rfl;?_
    cases hm
    exact ⟨rfl,H.reads hs7⟩

def fG (rec_1:(List aN)→Int→Int→Option (List aN)) (x9:Int) (l12:(List aN)) (x13:Int):Option (List aN):=
  rec_1 l12 x13 (IntKind.i64.wrap (x9+1))
def dQ (x4:Int):Nat→(List aN)→Int→Int→Option (List aN)
  | 0,_,_,_=>none
  | k1+1,l7,x8,x9=>
    if (decide (x9 < (l7.length:Int)))=true then ((idx l7 x9).bind fun x16=>(wB x16 x4).bind fun u22=>if (!u22)=true then ((idx l7 x8).bind fun x24=>fG (dQ x4 k1) x9 (l7.set x8.toNat x16) (IntKind.i64.wrap (x8+1))) else (fG (dQ x4 k1) x9 l7 x8)) else ((ck (0 ≤ x8∧x8 ≤ l7.length)).bind fun u29=>(ck (0 ≤ x8∧x8 ≤ (l7.take x8.toNat ++ List.replicate (l7.length - x8.toNat) (⟨⟨#[]⟩,0,0⟩:aN)).length)).bind fun u31=>some ((l7.take x8.toNat ++ List.replicate (l7.length - x8.toNat) (⟨⟨#[]⟩,0,0⟩:aN)).take x8.toNat))
def iT (l2:List aN) (x4:Int):Option (List aN):=
  (iG l2 x4).bind fun u5=>if (u5 == (-1))=true then (some (l2)) else (dQ x4 (((l2.length:Int) - (IntKind.i64.wrap (u5+1)):Int).toNat+1) l2 u5 (IntKind.i64.wrap (u5+1)))
theorem uP {w:World} {Fo:List Ob} {rs:List Rp} {v1:Value} {l2:List aN} {p3:Nat} {x4:Int} (H:Sep w (Row 103 bG v1 l2::Blk p3 2 [.int .i64 x4]::Fo) rs) {r:(List aN)} (hm:iT l2 x4=some r) :
    Calls Tryz.prog 139 [v1,.func (.func 140) #[] #[pt p3 0]].toArray w (Ret fun v w'=>∃ y1,y1=v∧Sep w' (Row 103 bG y1 r::Blk p3 2 [.int .i64 x4]::Fo) (rs)):=by
 unfold iT at hm
 refine ent Tryz.func139 rfl Tryz.ntmps139 rfl rfl fun a E=>sq<|pr 1 E rfl fun a E=>nx<|pr 2 E rfl fun a E=>bd hm fun u5 hx6 hm=>xk E rfl rfl rfl rfl rfl Ag (tS H hx6) fun w H a E=>pr 1 E rfl fun a E=>nt<|?_
 refine wp_seq<|sq<|pr 2 E rfl fun a E=>nt<|wif E hm rfl (fun hm=>?_) fun hm=>?_
 ·refine sq<|pr 2 E rfl fun a E=>nt<|wp_ret<|aP<|aY E rfl rfl<|have H:=H.frs [0,1] rfl;?_
  cases hm
  exact ⟨_,rfl,H.reads Y0⟩
 ·refine wp_skip<|aC<|wp_seq<|sq<|pr 3 E rfl fun a E=>nt<|wp_block<|bX (fun k1 a w=>∃ l7 x8 x9 rs10,Env 42 a [(0,v1),(1,.func (.func 140) #[] #[pt p3 0]),(5,.int .i64 x8),(6,.int .i64 x9)]∧Sep w (Row 103 bG v1 l7::Blk p3 2 [.int .i64 x4]::Fo) rs10∧(∀ r,r ∈ rs→r ∈ rs10)∧dQ x4 k1 l7 x8 x9=some r) (((l2.length:Int) - (IntKind.i64.wrap (u5+1)):Int).toNat+1) ?_ ?_
  ·exact have H:=H.frs [0,1] rfl;X4 ⟨E.to rfl,H,Y0,hm⟩
  ·clear E H hm
   rintro k1 a w ⟨l7,x8,x9,rs10,E,H,hs11,hm⟩
   cases k1 with
   | zero=>exact (bT hm rfl).elim
   | succ k1=>
    unfold dQ at hm
    refine wp_seq<|sq<|pr 2 E rfl fun a E=>sv E rfl rfl rfl (iZ (i:=0) E H rfl rfl rfl U62) fun a E=>pr 1 E rfl fun a E=>nt<|wif E hm rfl (fun hm=>?_) fun hm=>?_
    ·refine wp_skip<|aC<|aT (fun a w=>∃ l12 x13 rs14,Env 42 a [(0,v1),(1,.func (.func 140) #[] #[pt p3 0]),(5,.int .i64 x13),(6,.int .i64 x9)]∧Sep w (Row 103 bG v1 l12::Blk p3 2 [.int .i64 x4]::Fo) rs14∧(∀ r,r ∈ rs→r ∈ rs14)∧fG (dQ x4 k1) x9 l12 x13=some r) ?_ ?_
     ·refine wp_block<|sq<|pr 2 E rfl fun a E=>bd hm fun x16 hx17 hm=>?_
      obtain ⟨p18,x19,hx20⟩:=H.rowformNE (i:=0) rfl hx17
      refine sv E rfl rfl rfl (cY (d:=bG) E hx20 rfl rfl rfl rfl U62 gQ hx17) fun a E=>sv E rfl rfl rfl (fZ (i:=0) E H eC hx20 rfl rfl rfl hx17 (us:=[.string x16.Dir,.int .i64 x16.Txn,.int .i64 x16.Age]) rfl j8 rfl gQ) fun a E=>al E H rfl rfl rfl rfl Hz fun p21 w a H E=>aZ (i:=0) E H (wn rfl) rfl rfl rfl rfl rfl rfl gQ rfl rfl fun w H=>nx<|pr 1 E rfl fun a E=>sv E rfl rfl rfl (cA (i:=0) (us:=(nG x16)) E H rfl rfl rfl rfl j8 rfl gQ) fun a E=>have H:=H.frs [1,1,2] rfl;bd hm fun u22 hx23 hm=>?_
      refine aU E (wn rfl) rfl rfl (bP E rfl rfl rfl (Mf _)) (E6 H hx23)<|?_
      rintro _ w ⟨rfl,H⟩ a E
      refine pr 1 E rfl fun a E=>nt<|wif E hm rfl (fun hm=>?_) fun hm=>?_
      ·refine sq<|pr 2 E rfl fun a E=>sv E rfl rfl rfl (cA (i:=1) (us:=(nG x16)) E H rfl rfl rfl rfl j8 rfl gQ) fun a E=>bd hm fun x24 hx25 hm=>?_
       obtain ⟨p26,x27,hx28⟩:=H.rowformNE (i:=2) rfl hx25
       refine sv E rfl rfl rfl (cY (d:=bG) E hx28 rfl rfl rfl rfl U62 gQ hx25) fun a E=>yO (d:=bG) (i:=2) (us:=[.string x16.Dir,.int .i64 x16.Txn,.int .i64 x16.Age]) (z':=x16) E H eC (wn rfl) rfl hx28 rfl rfl rfl rfl rfl rfl rfl hx25 gQ fun w H=>nt<|wp_region_lit<|pr 3 E rfl fun a E=>wpList_nil<|bY<|aC<|have H:=H.drop 1;?_
       exact have H:=H.frs [0,1] rfl;X3 ⟨E.to rfl,H,hs11,hm⟩
      ·exact wp_skip<|bY<|aC<|have H:=H.drop 1;have H:=H.frs [0,1] rfl;X3 ⟨E.to rfl,H,hs11,hm⟩
     ·clear E H hm
      rintro a w ⟨l12,x13,rs14,E,H,hs15,hm⟩
      unfold fG at hm
      exact wp_region_lit<|pr 3 E rfl fun a E=>nt<|⟨k1,Nat.lt_succ_self k1,X4 ⟨E.to rfl,H,hs15,hm⟩⟩
    ·refine wp_exit<|bH<|bH<|dG<|aC<|sq<|pr 2 E rfl fun a E=>bk hm fun hx30 hm=>sv E rfl rfl rfl (F9 (d:=bG) (i:=0) E H rfl rfl rfl rfl U62 gQ hx30) fun a E=>?_
     refine c9 (i:=0) (z0:=(⟨⟨#[]⟩,0,0⟩:aN)) E H eC (wn rfl) rfl rfl rfl U62 Rt rfl rfl rfl hx30 fun w H=>nx<|pr 2 E rfl fun a E=>bk hm fun hx32 hm=>w9 (i:=0) E H eC (wn rfl) rfl rfl rfl rfl rfl rfl U62 gQ hx32 fun v33 a H E=>pr 1 E rfl fun a E=>nt<|wp_ret<|aY E rfl rfl<|?_
     cases hm
     exact ⟨_,rfl,H.reads hs11⟩

def q8 (l2:List aN) (x3:Int):Option (List aN):=
  (ck (l2.length ≤ LIM)).bind fun u7=>(iT l2 x3).bind fun u9=>some (u9)
theorem Ex {w:World} {Fo:List Ob} {rs:List Rp} {v1:Value} {l2:List aN} {x3:Int} (H:Sep w (Fo) rs) (hr4:rSl bG v1 l2 ∈ rs) {r:(List aN)} (hm:q8 l2 x3=some r) :
    Calls Tryz.prog 73 [v1,.int .i64 x3].toArray w (Ret fun v w'=>∃ y1,y1=v∧Sep w' (Row 103 bG y1 r::Fo) (rs)):=by
 unfold q8 at hm
 refine ent Tryz.func73 rfl Tryz.ntmps73 rfl rfl fun a E=>sq<|bS E H (wn rfl) rfl rfl rfl rfl rfl fun p5 w a H E=>pr 1 E rfl fun a E=>nx<|pr 1 E rfl fun a E=>bk hm fun hx8 hm=>aU E (wn rfl) rfl rfl (cC E rfl rfl (Kv _)) (iS H hr4 hx8) fun v6 w H a E=>sv E rfl rfl rfl (iP E rfl rfl rfl) fun a E=>?_
 refine bd hm fun u9 hx10 hm=>cG E rfl rfl rfl rfl rfl Wx (uP H hx10)<|?_
 rintro _ w ⟨v11,rfl,H⟩ a E
 refine pr 1 E rfl fun a E=>nt<|wp_ret<|aY E rfl rfl<|have H:=H.drop 1;?_
 cases hm
 exact ⟨_,rfl,H.reads Y0⟩

end Go.Cb
