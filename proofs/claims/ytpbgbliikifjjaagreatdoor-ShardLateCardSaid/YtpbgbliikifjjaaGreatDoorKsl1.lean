/- Functions of the program, walked: each comes to its plain function. -/
import Derived.Test.YtpbgbliikifjjaaGreatDoorTsl
import Derived.Test.YtpbgbliikifjjaaGreatDoorExsl
set_option linter.unusedVariables false
set_option linter.unusedSimpArgs false
set_option maxRecDepth 20000
set_option maxHeartbeats 1000000
namespace Go.Cb
open Go.Proofs Go.RowKit
variable {w:World} {Fo:List Ob} {rs:List Rp}

def F7:Option Unit:=
  some ()
theorem Ir(H:Sep w (Fo) rs){r:Unit}(hm:F7=some r) :
    Calls Tryz.prog 176 [].toArray w (Ret fun v w'=>.agg #[.int .i64 0,.int .i64 13,.int .i64 2,.int .i64 19,.int .i64 18,.int .i64 16,.int .i64 16,.int .i64 20]=v∧Sep w' (Fo) (rs)):=by
 unfold F7 at hm
 refine ent Tryz.func176 rfl Tryz.ntmps176 rfl rfl fun a E=>sq<|al E H rfl rfl rfl rfl GN fun b w a H E=>nx<|sv E rfl rfl rfl (cL E rfl (E.evs rfl) (v:=.agg #[.int .i64 0,.int .i64 13,.int .i64 2,.int .i64 19,.int .i64 18,.int .i64 16,.int .i64 16,.int .i64 20]) (by kernel_rfl)) fun a E=>bA (i:=0) E H (wn rfl) rfl rfl rfl rfl rfl rfl Wy rfl rfl fun w H=>nt<|wp_ret<|dT E rfl (dD (i:=0) (us:=[.int .i64 0,.int .i64 13,.int .i64 2,.int .i64 19,.int .i64 18,.int .i64 16,.int .i64 16,.int .i64 20]) H rfl rfl rfl CC rfl Wy)<|?_
 refine have H:=H.drop 0;?_
 cases hm
 exact ⟨rfl,H.reads Y0⟩

def uZ(x1:Int)(b:Int):Option Bool:=
  if (decide (x1 ≥ 0))=true then (some (decide (x1 ≤ b))) else (some (false))
theorem Gs{x1 c:Int}(H:Sep w (Fo) rs){r:Bool}(hm:uZ x1 c=some r) :
    Calls Tryz.prog 175 [.int .i64 x1,.int .i64 c].toArray w (Ret fun v w'=>.bool r=v∧Sep w' (Fo) (rs)):=by
 unfold uZ at hm
 refine ent Tryz.func175 rfl Tryz.ntmps175 rfl rfl fun a E=>sq<|pr 1 E rfl fun a E=>nx<|pr 3 E rfl fun a E=>cs hm (fun b hm=>?_) fun b hm=>?_
 ·refine pk 5 E (kc 7 rfl b) rfl fun a E=>nt<|wp_ret<|aY E rfl rfl<|?_
  cases hm
  exact ⟨rfl,H.reads Y0⟩
 ·refine pk 5 E (kc 7 rfl b) rfl fun a E=>nt<|wp_ret<|aY E rfl rfl<|?_
  cases hm
  exact ⟨rfl,H.reads Y0⟩

def nH(b:ByteArray)(c:Int):Option Int:=
  some (ixB b c)
theorem u9{b:ByteArray}{c:Int}(H:Sep w (Fo) rs){r:Int}(hm:nH b c=some r) :
    Calls Tryz.prog 238 [.string b,.int .u8 c].toArray w (Ret fun v w'=>.int .i64 r=v∧Sep w' (Fo) (rs)):=by
 unfold nH at hm
 refine ent Tryz.func238 rfl Tryz.ntmps238 rfl rfl fun a E=>sq<|pr 1 E rfl fun a E=>nx<|pr 2 E rfl fun a E=>sv E rfl rfl rfl (Bc E rfl rfl (BK _ _ _)) fun a E=>pr 1 E rfl fun a E=>nt<|wp_ret<|?_
 refine aY E rfl rfl<|?_
 cases hm
 exact ⟨rfl,H.reads Y0⟩

def iL(b:ByteArray)(c:Int):Option Int:=
  (nH b c).bind fun d=>some (d)
theorem xO{b:ByteArray}{c:Int}(H:Sep w (Fo) rs){r:Int}(hm:iL b c=some r) :
    Calls Tryz.prog 177 [.string b,.int .u8 c].toArray w (Ret fun v w'=>.int .i64 r=v∧Sep w' (Fo) (rs)):=by
 unfold iL at hm
 refine ent Tryz.func177 rfl Tryz.ntmps177 rfl rfl fun a E=>sq<|pr 1 E rfl fun a E=>nx<|pr 2 E rfl fun a E=>bd hm fun e d hm=>xk E rfl rfl rfl rfl rfl GB (u9 H d) fun w H a E=>pr 1 E rfl fun a E=>nt<|?_
 refine wp_ret<|aY E rfl rfl<|?_
 cases hm
 exact ⟨rfl,H.reads Y0⟩

def jC(b:Bool):Option Bool:=
  if b=true then (some (true)) else (some (false))
def jD(x1:Int)(b:Bool):Option Bool:=
  if b=true then (some (true)) else (if (decide (57343 < x1))=true then (jC (decide (x1 ≤ 1114111))) else (jC false))
def lG(x1:Int):Option Bool:=
  if (decide (0 ≤ x1))=true then (jD x1 (decide (x1 < 55296))) else (jD x1 false)
theorem J7{x1:Int}(H:Sep w (Fo) rs){r:Bool}(hm:lG x1=some r) :
    Calls Tryz.prog 325 [.int .i32 x1].toArray w (Ret fun v w'=>.bool r=v∧Sep w' (Fo) (rs)):=by
 unfold lG at hm
 refine ent Tryz.func325 rfl Tryz.ntmps325 rfl rfl fun a E=>sq<|pr 1 E rfl fun a E=>nt<|wp_seq<|wp_block<|aV (fun a w=>∃ i b,Env 17 a [(0,.int .i32 x1),(3,.bool i)]∧Sep w (Fo) b∧(∀ r,r ∈ rs→r ∈ b)∧jD x1 i=some r) ?_ ?_
 ·refine wp_region_lit<|pr 3 E rfl fun a E=>cs hm (fun c hm=>?_) fun c hm=>?_
  ·exact pk 4 E (kc 6 rfl c) rfl fun a E=>nt<|⟨_,_,E.to rfl,H,Y0,hm⟩
  ·exact pk 4 E (kc 6 rfl c) rfl fun a E=>nt<|⟨_,_,E.to rfl,H,Y0,hm⟩
 ·clear E H hm
  rintro a w ⟨i,b,E,H,d,hm⟩
  unfold jD at hm
  refine wif E hm rfl (fun hm=>?_) fun hm=>?_
  ·refine sq<|pr 1 E rfl fun a E=>nt<|wp_ret<|bW<|aP<|aY E rfl rfl<|?_
   cases hm
   exact ⟨rfl,H.reads d⟩
  ·refine aV (fun a w=>∃ j e,Env 17 a [(10,.bool j)]∧Sep w (Fo) e∧(∀ r,r ∈ rs→r ∈ e)∧jC j=some r) ?_ ?_
   ·refine wp_region_lit<|pr 3 E rfl fun a E=>cs hm (fun f hm=>?_) fun f hm=>?_
    ·exact pk 4 E (kc 13 rfl f) rfl fun a E=>nt<|⟨_,_,E.to rfl,H,d,hm⟩
    ·exact pk 4 E (kc 13 rfl f) rfl fun a E=>nt<|⟨_,_,E.to rfl,H,d,hm⟩
   ·clear E H hm
    rintro a w ⟨j,e,E,H,g,hm⟩
    unfold jC at hm
    refine wif E hm rfl (fun hm=>?_) fun hm=>?_
    ·refine sq<|pr 1 E rfl fun a E=>nt<|wp_ret<|bW<|aP<|aY E rfl rfl<|?_
     cases hm
     exact ⟨rfl,H.reads g⟩
    ·refine wp_skip<|bZ<|aC<|sq<|pr 1 E rfl fun a E=>nt<|wp_ret<|aY E rfl rfl<|?_
     cases hm
     exact ⟨rfl,H.reads g⟩

def pY(c:ByteArray):Nat→(Nat)→Option Int
  | 0,_=>none
  | d+1,b=>
    if decide (b < c.size)=true then (if (((Utf8.decode c b).1:Int) == 65533)=true then (some ((b:Int))) else (pY c d (b+(Utf8.decode c b).2))) else (some ((-1)))
def pZ(b:Int)(c:ByteArray):Nat→Option Int
  | 0=>none
  | j+1=>
    if (decide ((IntKind.i64.wrap (((Utf8.encode b).size:Int) - 1)) < (c.size:Int)))=true then ((idx c.data.toList (IntKind.i64.wrap (((Utf8.encode b).size:Int) - 1))).bind fun d=>(idx (Utf8.encode b).data.toList (IntKind.i64.wrap (((Utf8.encode b).size:Int) - 1))).bind fun e=>if ((d.toNat:Int) != (e.toNat:Int))=true then ((ck (0 ≤ (IntKind.i64.wrap ((IntKind.i64.wrap (((Utf8.encode b).size:Int) - 1))+1))∧(IntKind.i64.wrap ((IntKind.i64.wrap (((Utf8.encode b).size:Int) - 1))+1)) ≤ c.size)).bind fun i=>(idx (Utf8.encode b).data.toList (IntKind.i64.wrap (((Utf8.encode b).size:Int) - 1))).bind fun f=>(iL (c.extract (IntKind.i64.wrap ((IntKind.i64.wrap (((Utf8.encode b).size:Int) - 1))+1)).toNat c.size) (f.toNat:Int)).bind fun g=>if (decide (g < 0))=true then (some ((-1))) else none) else none) else (some ((-1)))
def mW(b:ByteArray)(c:Int)(e:Bool):Option Int:=
  if e=true then ((iL b (IntKind.u8.wrap c)).bind fun f=>some (f)) else (if (c == 65533)=true then (pY b (b.size+2) 0) else ((lG c).bind fun d=>if (!d)=true then (some ((-1))) else (pZ c b (((b.size:Int) - (IntKind.i64.wrap (((Utf8.encode c).size:Int) - 1)):Int).toNat+1))))
def pI(c:ByteArray)(b:Int):Option Int:=
  if (decide (0 ≤ b))=true then (mW c b (decide (b < 128))) else (mW c b false)
theorem W1{b:ByteArray}{c:Int}(H:Sep w (Fo) rs){r:Int}(hm:pI b c=some r) :
    Calls Tryz.prog 290 [.string b,.int .i32 c].toArray w (Ret fun v w'=>.int .i64 r=v∧Sep w' (Fo) (rs)):=by
 unfold pI at hm
 refine ent Tryz.func290 rfl Tryz.ntmps290 rfl rfl fun a E=>sq<|pr 1 E rfl fun a E=>nt<|wp_block<|aV (fun a w=>∃ p m,Env 187 a [(0,.string b),(1,.int .i32 c),(160,.bool p)]∧Sep w (Fo) m∧(∀ r,r ∈ rs→r ∈ m)∧mW b c p=some r) ?_ ?_
 ·refine wp_region_lit<|pr 3 E rfl fun a E=>cs hm (fun d hm=>?_) fun d hm=>?_
  ·exact pk 4 E (kc 163 rfl d) rfl fun a E=>nt<|⟨_,_,E.to rfl,H,Y0,hm⟩
  ·exact pk 4 E (kc 163 rfl d) rfl fun a E=>nt<|⟨_,_,E.to rfl,H,Y0,hm⟩
 ·clear E H hm
  rintro a w ⟨p,m,E,H,k,hm⟩
  unfold mW at hm
  refine wif E hm rfl (fun hm=>?_) fun hm=>?_
  ·refine sq<|pr 3 E rfl fun a E=>bd hm fun J A hm=>xk E rfl rfl rfl rfl rfl Pd (xO H A) fun w H a E=>pr 1 E rfl fun a E=>nt<|wp_ret<|bW<|aY E rfl rfl<|?_
   cases hm
   exact ⟨rfl,H.reads k⟩
  ·refine sq<|pr 3 E rfl fun a E=>nt<|wif E hm rfl (fun hm=>?_) fun hm=>?_
   ·refine wp_seq<|sq<|pr 1 E rfl fun a E=>Ht E H (wn rfl) rfl rfl rfl rfl U9 fun B w a H E=>nt<|wp_block<|bX (fun l a w=>∃ q e,Env 187 a [(175,pt B 0)]∧Sep w (M7 B (.stringIter b q)::Fo) e∧(∀ r,r ∈ rs→r ∈ e)∧pY b l q=some r) (b.size+2) ?_ ?_
    ·exact ⟨_,_,E.to rfl,H,k,hm⟩
    ·clear E H hm
     rintro l a w ⟨q,e,E,H,f,hm⟩
     cases l with
     | zero=>exact (bU hm rfl).elim
     | succ l=>
      unfold pY at hm
      refine sq<|cs hm (fun g hm=>?_) fun g hm=>?_
      ·refine Hu (i:=0) E H (wn rfl) rfl rfl rfl rfl rfl g fun w a H E=>pr 1 E rfl fun a E=>nt<|wp_seq<|wp_cond_true (E.eval rfl)<|wp_skip<|aC<|wp_block<|sq<|?_
       refine pr 4 E rfl fun a E=>nx<|pr 2 E rfl fun a E=>nt<|wif E hm rfl (fun hm=>?_) fun hm=>?_
       ·refine sq<|pr 2 E rfl fun a E=>nt<|wp_ret<|bW<|aP<|bW<|aP<|bW<|?_
        refine aY E rfl rfl<|have H:=H.drop 0;?_
        cases hm
        exact ⟨rfl,H.reads f⟩
       ·exact wp_skip<|bZ<|aC<|⟨l,Nat.lt_succ_self l,_,_,E.to rfl,H,f,hm⟩
      ·refine Hv (i:=0) E H (wn rfl) rfl rfl rfl rfl rfl g fun a E=>pr 1 E rfl fun a E=>nt<|wp_seq<|wp_cond_false (E.eval rfl)<|wp_exit<|bG<|bG<|dN<|?_
       refine aC<|sq<|pr 1 E rfl fun a E=>nt<|wp_ret<|bW<|aY E rfl rfl<|have H:=H.drop 0;?_
       cases hm
       exact ⟨rfl,H.reads f⟩
   ·refine sq<|pr 1 E rfl fun a E=>bd hm fun C s hm=>xk E rfl rfl rfl rfl rfl GI (J7 H s) fun w H a E=>pr 2 E rfl fun a E=>nt<|wif E hm rfl (fun hm=>?_) fun hm=>?_
    ·refine sq<|pr 1 E rfl fun a E=>nt<|wp_ret<|bW<|aY E rfl rfl<|?_
     cases hm
     exact ⟨rfl,H.reads k⟩
    ·refine wp_scope_straight<|sq<|pr 1 E rfl fun a E=>sv E rfl rfl rfl (P4 E rfl rfl (v:=.string (Utf8.encode c)) (by kernel_rfl)) fun a E=>pr 1 E rfl fun a E=>nx<|pr 4 E rfl fun a E=>nx<|pr 2 E rfl fun a E=>?_
     refine nx<|pr 1 E rfl fun a E=>nt<|wp_seq<|wp_block<|bX (fun o a w=>∃ j,Env 187 a [(0,.string b),(7,.string (Utf8.encode c)),(8,.int .i64 (IntKind.i64.wrap (((Utf8.encode c).size:Int) - 1))),(9,.int .i64 (IntKind.i64.wrap (((Utf8.encode c).size:Int) - 1))),(10,.int .i64 0)]∧Sep w (Fo) j∧(∀ r,r ∈ rs→r ∈ j)∧pZ c b o=some r) (((b.size:Int) - (IntKind.i64.wrap (((Utf8.encode c).size:Int) - 1)):Int).toNat+1) ?_ ?_
     ·exact ⟨_,E.to rfl,H,k,hm⟩
     ·clear E H hm
      rintro o a w ⟨j,E,H,n,hm⟩
      cases o with
      | zero=>exact (bU hm rfl).elim
      | succ o=>
       unfold pZ at hm
       refine wp_seq<|sq<|pr 4 E rfl fun a E=>nt<|wif E hm rfl (fun hm=>?_) fun hm=>?_
       ·refine wp_skip<|aC<|wp_block<|wp_scope_straight<|wp_seq<|wp_seq<|dw [(0,0),(1,0),(2,0),(3,0),(4,0),(5,0),(6,0)] [] [] H (by kernel_rfl) (fun _ _ _ h=>False.elim h.2) fun w W0 hI H=>fn 2 E rfl fun a E=>bd hm fun D t hm=>?_
        refine bT E rfl (wn rfl) rfl rfl (fun w hW=>(Jw E rfl rfl rfl U9 t)) fun a E=>?_
        refine fn 2 E rfl fun a E=>bd hm fun F u hm=>bT E rfl (wn rfl) rfl rfl (fun w hW=>(Jw E rfl rfl rfl U9 u)) fun a E=>?_
        refine fn 1 E rfl fun a E=>bP<|?_
        clear hI
        refine aC<|wif E hm rfl (fun hm=>?_) fun hm=>?_
        ·refine wp_seq<|dw [(0,0),(1,0),(2,0),(3,0),(4,0),(5,0),(6,0),(7,1),(8,2)] [] [] H (by kernel_rfl) (fun _ _ _ h=>False.elim h.2) fun w W0 hI H=>fn 3 E rfl fun a E=>bk hm fun x hm=>bT E rfl (wn rfl) rfl rfl (fun w hW=>(P5 E rfl rfl rfl U9 x)) fun a E=>?_
         refine fn 2 E rfl fun a E=>bd hm fun G y hm=>bT E rfl (wn rfl) rfl rfl (fun w hW=>(Jw E rfl rfl rfl U9 y)) fun a E=>?_
         refine bY rfl<|bd hm fun I z hm=>xk E rfl rfl rfl rfl rfl Pd (xO H z) fun w H a E=>nt<|?_
         refine ⟨⟨_,_,H,(aL),(aM)⟩,?_⟩
         refine bO rfl<|pr 1 E rfl fun a E=>nt<|bP<|?_
         clear hI
         refine aC<|wp_seq<|sq<|pr 2 E rfl fun a E=>nt<|wif E hm rfl (fun hm=>?_) fun hm=>?_
         ·refine sq<|pr 1 E rfl fun a E=>nt<|wp_ret<|aP<|aP<|Up<|bW<|aP<|?_
          refine bW<|aP<|Up<|bW<|aY E rfl rfl<|?_
          cases hm
          exact ⟨rfl,H.reads n⟩
         ·exact (bU hm rfl).elim
        ·exact (bU hm rfl).elim
       ·refine wp_exit<|bG<|bG<|dN<|aC<|wp_seq<|sq<|pr 1 E rfl fun a E=>nt<|?_
        refine wp_ret<|aP<|Up<|bW<|aY E rfl rfl<|?_
        cases hm
        exact ⟨rfl,H.reads n⟩

def mX(b:ByteArray)(c:Int):Option Bool:=
  (pI b c).bind fun d=>some (decide (d ≥ 0))
theorem N5{b:ByteArray}{c:Int}(H:Sep w (Fo) rs){r:Bool}(hm:mX b c=some r) :
    Calls Tryz.prog 241 [.string b,.int .i32 c].toArray w (Ret fun v w'=>.bool r=v∧Sep w' (Fo) (rs)):=by
 unfold mX at hm
 refine ent Tryz.func241 rfl Tryz.ntmps241 rfl rfl fun a E=>sq<|pr 1 E rfl fun a E=>nx<|pr 2 E rfl fun a E=>bd hm fun e d hm=>xk E rfl rfl rfl rfl rfl GH (W1 H d) fun w H a E=>pr 2 E rfl fun a E=>nt<|?_
 refine wp_ret<|aY E rfl rfl<|?_
 cases hm
 exact ⟨rfl,H.reads Y0⟩

def wV(x1:Int):Option Bool:=
  (mX (ByteArray.mk #[97,98,99,100,101,102,103,104,105,106,107,108,109,110,111,112,113,114,115,116,117,118,119,120,121,122,48,49,50,51,52,53,54,55,56,57,45]) x1).bind fun b=>some (!b)
theorem Is{x1:Int}(H:Sep w (Fo) rs){r:Bool}(hm:wV x1=some r) :
    Calls Tryz.prog 240 [.int .i32 x1].toArray w (Ret fun v w'=>.bool r=v∧Sep w' (Fo) (rs)):=by
 unfold wV at hm
 refine ent Tryz.func240 rfl Tryz.ntmps240 rfl rfl fun a E=>sq<|pr 1 E rfl fun a E=>nx<|pr 1 E rfl fun a E=>bd hm fun c b hm=>xk E rfl rfl rfl rfl rfl GG (N5 H b) fun w H a E=>pr 2 E rfl fun a E=>nt<|?_
 refine wp_ret<|aY E rfl rfl<|?_
 cases hm
 exact ⟨rfl,H.reads Y0⟩

def jW(c:ByteArray)(d:Bool):Nat→(Nat)→Option Int
  | 0,_=>none
  | e+1,b=>
    if decide (b < c.size)=true then ((wV ((Utf8.decode c b).1:Int)).bind fun f=>if (f == d)=true then (some ((b:Int))) else (jW c d e (b+(Utf8.decode c b).2))) else (some ((-1)))
def sZ(b:ByteArray)(c:Bool):Option Int:=
  jW b c (b.size+2) 0
theorem W2{c:ByteArray}{d:Bool}(H:Sep w (Fo) rs){r:Int}(hm:sZ c d=some r) :
    Calls Tryz.prog 324 [.string c,.func (.func 240) #[] #[],.bool d].toArray w (Ret fun v w'=>.int .i64 r=v∧Sep w' (Fo) (rs)):=by
 unfold sZ at hm
 refine ent Tryz.func324 rfl Tryz.ntmps324 rfl rfl fun a E=>sq<|pr 1 E rfl fun a E=>nt<|wp_seq<|sq<|pr 1 E rfl fun a E=>Ht E H (wn rfl) rfl rfl rfl rfl U9 fun k w a H E=>nt<|?_
 refine wp_block<|bX (fun b a w=>∃ j e,Env 21 a [(1,.func (.func 240) #[] #[]),(2,.bool d),(10,pt k 0)]∧Sep w (M7 k (.stringIter c j)::Fo) e∧(∀ r,r ∈ rs→r ∈ e)∧jW c d b j=some r) (c.size+2) ?_ ?_
 ·exact ⟨_,_,E.to rfl,H,Y0,hm⟩
 ·clear E H hm
  rintro b a w ⟨j,e,E,H,f,hm⟩
  cases b with
  | zero=>exact (bU hm rfl).elim
  | succ b=>
   unfold jW at hm
   refine sq<|cs hm (fun g hm=>?_) fun g hm=>?_
   ·refine Hu (i:=0) E H (wn rfl) rfl rfl rfl rfl rfl g fun w a H E=>pr 1 E rfl fun a E=>nt<|wp_seq<|wp_cond_true (E.eval rfl)<|wp_skip<|aC<|wp_block<|sq<|?_
    refine pr 4 E rfl fun a E=>nx<|pr 2 E rfl fun a E=>bd hm fun m l hm=>aW E (wn rfl) rfl rfl (bR E rfl rfl rfl (GF _)) (Is H l)<|?_
    rintro _ w ⟨rfl,H⟩ a E
    refine pr 1 E rfl fun a E=>sv E rfl rfl rfl (uX E rfl rfl rfl (v:=.bool (m == d)) (by kernel_rfl)) fun a E=>nt<|wif E hm rfl (fun hm=>?_) fun hm=>?_
    ·refine sq<|pr 2 E rfl fun a E=>nt<|wp_ret<|bW<|aP<|bW<|aP<|aY E rfl rfl<|?_
     refine have H:=H.drop 0;?_
     cases hm
     exact ⟨rfl,H.reads f⟩
    ·exact wp_skip<|bZ<|aC<|⟨b,Nat.lt_succ_self b,_,_,E.to rfl,H,f,hm⟩
   ·refine Hv (i:=0) E H (wn rfl) rfl rfl rfl rfl rfl g fun a E=>pr 1 E rfl fun a E=>nt<|wp_seq<|wp_cond_false (E.eval rfl)<|wp_exit<|bG<|bG<|dN<|?_
    refine aC<|sq<|pr 1 E rfl fun a E=>nt<|wp_ret<|aY E rfl rfl<|have H:=H.drop 0;?_
    cases hm
    exact ⟨rfl,H.reads f⟩

def tA(b:ByteArray):Option Int:=
  (sZ b true).bind fun c=>some (c)
theorem W3{b:ByteArray}(H:Sep w (Fo) rs){r:Int}(hm:tA b=some r) :
    Calls Tryz.prog 289 [.string b,.func (.func 240) #[] #[]].toArray w (Ret fun v w'=>.int .i64 r=v∧Sep w' (Fo) (rs)):=by
 unfold tA at hm
 refine ent Tryz.func289 rfl Tryz.ntmps289 rfl rfl fun a E=>sq<|pr 1 E rfl fun a E=>nx<|pr 2 E rfl fun a E=>bd hm fun d c hm=>xk E rfl rfl rfl rfl rfl GE (W2 H c) fun w H a E=>pr 1 E rfl fun a E=>nt<|?_
 refine wp_ret<|aY E rfl rfl<|?_
 cases hm
 exact ⟨rfl,H.reads Y0⟩

def qA(b:ByteArray):Option Bool:=
  (tA b).bind fun c=>some (decide (c ≥ 0))
theorem N6{b:ByteArray}(H:Sep w (Fo) rs){r:Bool}(hm:qA b=some r) :
    Calls Tryz.prog 239 [.string b,.func (.func 240) #[] #[]].toArray w (Ret fun v w'=>.bool r=v∧Sep w' (Fo) (rs)):=by
 unfold qA at hm
 refine ent Tryz.func239 rfl Tryz.ntmps239 rfl rfl fun a E=>sq<|pr 1 E rfl fun a E=>nx<|pr 2 E rfl fun a E=>bd hm fun d c hm=>xk E rfl rfl rfl rfl rfl GD (W3 H c) fun w H a E=>pr 2 E rfl fun a E=>nt<|?_
 refine wp_ret<|aY E rfl rfl<|?_
 cases hm
 exact ⟨rfl,H.reads Y0⟩

def uI(b:ByteArray):Option Bool:=
  (qA b).bind fun c=>if (!(sEq b (ByteArray.mk #[])))=true then (if (decide ((b.size:Int) ≤ 12))=true then (some (!c)) else (some (false))) else (some (false))
theorem N7{d:ByteArray}(H:Sep w (Fo) rs){r:Bool}(hm:uI d=some r) :
    Calls Tryz.prog 178 [.string d].toArray w (Ret fun v w'=>.bool r=v∧Sep w' (Fo) (rs)):=by
 unfold uI at hm
 refine ent Tryz.func178 rfl Tryz.ntmps178 rfl rfl fun a E=>sq<|pr 1 E rfl fun a E=>nx<|pr 1 E rfl fun a E=>bd hm fun f e hm=>xk E rfl rfl rfl rfl rfl GC (N6 H e) fun w H a E=>pr 1 E rfl fun a E=>nx<|?_
 refine pr 3 E rfl fun a E=>cs hm (fun b hm=>?_) fun b hm=>?_
 ·refine pk 5 E (kc 8 rfl b) rfl fun a E=>cs hm (fun c hm=>?_) fun c hm=>?_
  ·refine pk 4 E (kc 13 rfl c) rfl fun a E=>nt<|wp_ret<|aY E rfl rfl<|?_
   cases hm
   exact ⟨rfl,H.reads Y0⟩
  ·refine pk 4 E (kc 13 rfl c) rfl fun a E=>nt<|wp_ret<|aY E rfl rfl<|?_
   cases hm
   exact ⟨rfl,H.reads Y0⟩
 ·refine pk 9 E (kc 8 rfl b) rfl fun a E=>nt<|wp_ret<|aY E rfl rfl<|?_
  cases hm
  exact ⟨rfl,H.reads Y0⟩

def gH(c:ByteArray)(b:ByteArray):Option Bool:=
  if (decide ((c.size:Int) ≥ (b.size:Int)))=true then ((ck (0 ≤ (b.size:Int)∧(b.size:Int) ≤ c.size)).bind fun d=>some (sEq (c.extract 0 (b.size:Int).toNat) b)) else (some (false))
theorem v8{c e:ByteArray}(H:Sep w (Fo) rs){r:Bool}(hm:gH c e=some r) :
    Calls Tryz.prog 286 [.string c,.string e].toArray w (Ret fun v w'=>.bool r=v∧Sep w' (Fo) (rs)):=by
 unfold gH at hm
 refine ent Tryz.func286 rfl Tryz.ntmps286 rfl rfl fun a E=>sq<|pr 1 E rfl fun a E=>nx<|pr 6 E rfl fun a E=>cs hm (fun b hm=>?_) fun b hm=>?_
 ·refine pk 3 E (kc 10 rfl b) rfl fun a E=>bk hm fun f hm=>aQ E (ws' (d:=10) E rfl rfl rfl rfl b) rfl rfl (X1 E rfl rfl rfl U9 f) fun a E=>pk 4 E (kc 10 rfl b) rfl fun a E=>nt<|wp_ret<|aY E rfl rfl<|?_
  cases hm
  exact ⟨rfl,H.reads Y0⟩
 ·refine pk 8 E (kc 10 rfl b) rfl fun a E=>nt<|wp_ret<|aY E rfl rfl<|?_
  cases hm
  exact ⟨rfl,H.reads Y0⟩

def gI(b:ByteArray)(c:ByteArray):Option (ByteArray×Bool):=
  (gH b c).bind fun d=>if (!d)=true then (some (b,false)) else ((ck (0 ≤ (c.size:Int)∧(c.size:Int) ≤ b.size)).bind fun e=>some (b.extract (c.size:Int).toNat b.size,true))
theorem w3{b c:ByteArray}(H:Sep w (Fo) rs){r:ByteArray×Bool}(hm:gI b c=some r) :
    Calls Tryz.prog 236 [.string b,.string c].toArray w (Ret fun v w'=>.tuple #[.string r.1,.bool r.2]=v∧Sep w' (Fo) (rs)):=by
 unfold gI at hm
 refine ent Tryz.func236 rfl Tryz.ntmps236 rfl rfl fun a E=>sq<|pr 2 E rfl fun a E=>nt<|wp_seq<|sq<|pr 2 E rfl fun a E=>bd hm fun f d hm=>xk E rfl rfl rfl rfl rfl GA (v8 H d) fun w H a E=>?_
 refine pr 1 E rfl fun a E=>nt<|wif E hm rfl (fun hm=>?_) fun hm=>?_
 ·refine sq<|pr 3 E rfl fun a E=>nt<|wp_ret<|aP<|hG E rfl rfl rfl<|?_
  cases hm
  exact ⟨rfl,H.reads Y0⟩
 ·refine wp_skip<|aC<|sq<|pr 3 E rfl fun a E=>bk hm fun e hm=>sv E rfl rfl rfl (P5 E rfl rfl rfl U9 e) fun a E=>pr 2 E rfl fun a E=>nt<|wp_ret<|?_
  refine hG E rfl rfl rfl<|?_
  cases hm
  exact ⟨rfl,H.reads Y0⟩

def iM(c:ByteArray)(d:ByteArray):Option (ByteArray×Bool):=
  (gI c d).bind fun b=>some (b.1,b.2)
theorem A7{b c:ByteArray}(H:Sep w (Fo) rs){r:ByteArray×Bool}(hm:iM b c=some r) :
    Calls Tryz.prog 172 [.string b,.string c].toArray w (Ret fun v w'=>.tuple #[.string r.1,.bool r.2]=v∧Sep w' (Fo) (rs)):=by
 unfold iM at hm
 refine ent Tryz.func172 rfl Tryz.ntmps172 rfl rfl fun a E=>sq<|pr 2 E rfl fun a E=>nx<|pr 2 E rfl fun a E=>bd hm fun e d hm=>xk E rfl rfl rfl rfl rfl FZ (w3 H d) fun w H a E=>pr 4 E rfl fun a E=>nt<|?_
 refine wp_ret<|hG E rfl rfl rfl<|?_
 cases hm
 exact ⟨rfl,H.reads Y0⟩

def oH:Option ((List ByteArray)×Bool):=
  some ([],false)
def qW(rec_1:ByteArray→(List ByteArray)→Option ((List ByteArray)×Bool))(c:ByteArray×Bool)(d:(List ByteArray))(b:Int):Option ((List ByteArray)×Bool):=
  (ck (0 ≤ b∧b ≤ c.1.size)).bind fun f=>(uI (c.1.extract 0 b.toNat)).bind fun e=>if (!e)=true then (oH) else ((ck (0 ≤ b∧b ≤ c.1.size)).bind fun g=>(ck (d.length+([c.1.extract 0 b.toNat]:List ByteArray).length ≤ LIM)).bind fun i=>(ck (0 ≤ b∧b ≤ c.1.size)).bind fun j=>rec_1 (c.1.extract b.toNat c.1.size) (d ++ ([c.1.extract 0 b.toNat]:List ByteArray)))
def mC:Nat→ByteArray→(List ByteArray)→Option ((List ByteArray)×Bool)
  | 0,_,_=>none
  | e+1,f,b=>
    if (!(sEq f (ByteArray.mk #[])))=true then ((iM f (ByteArray.mk #[47])).bind fun c=>if (!c.2)=true then (oH) else (if ((b.length:Int) == 6)=true then (oH) else ((iL c.1 47).bind fun d=>if (decide (d < 0))=true then (qW (mC e) c b (c.1.size:Int)) else (qW (mC e) c b d)))) else (if (decide ((b.length:Int) > 0))=true then (some (b,true)) else (some ([],false)))
def vA(b:ByteArray):Option ((List ByteArray)×Bool):=
  if (sEq b (ByteArray.mk #[47]))=true then (some ([],true)) else (mC (b.size+2) b [])
theorem Z7{q:ByteArray}(H:Sep w (Fo) rs){r:(List ByteArray)×Bool}(hm:vA q=some r) :
    Calls Tryz.prog 107 [.string q].toArray w (Ret fun v w'=>∃ D,.tuple #[D,.bool r.2]=v∧Sep w' (Row 9 kS D r.1::Fo) (rs)):=by
 unfold vA at hm
 refine ent Tryz.func107 rfl Tryz.ntmps107 rfl rfl fun a E=>sq<|pr 2 E rfl fun a E=>nt<|?_
 refine wp_scope_jumps 0 (fun a w=>∃ l,Env 48 a []∧Sep w (Fo) l∧(∀ r,r ∈ rs→r ∈ l)∧oH=some r) (fun _ _=>0) rfl ?_ ?_
 ·refine sq<|pr 1 E rfl fun a E=>nt<|wp_seq<|sq<|pr 2 E rfl fun a E=>nt<|wif E hm rfl (fun hm=>?_) fun hm=>?_
  ·refine sq<|pr 2 E rfl fun a E=>nt<|wp_ret<|aP<|Ay<|hG E rfl rfl rfl<|have H:=H.nilRow 9 kS;?_
   cases hm
   exact ⟨_,rfl,H.reads Y0⟩
  ·refine wp_skip<|aC<|wp_seq<|wp_block<|bX (fun g a w=>∃ m s n o,Env 48 a [(0,.string s),(4,m)]∧Sep w (Row 9 kS m n::Fo) o∧(∀ r,r ∈ rs→r ∈ o)∧mC g s n=some r) (q.size+2) ?_ ?_
   ·exact have H:=H.nilRow 9 kS;X4 ⟨E.to rfl,H,Y0,hm⟩
   ·clear E H hm
    rintro g a w ⟨m,s,n,o,E,H,f,hm⟩
    cases g with
    | zero=>exact (bU hm rfl).elim
    | succ g=>
     unfold mC at hm
     refine wp_seq<|sq<|pr 2 E rfl fun a E=>nt<|wif E hm rfl (fun hm=>?_) fun hm=>?_
     ·refine wp_skip<|aC<|wp_block<|sq<|pr 1 E rfl fun a E=>bd hm fun k t hm=>xk E rfl rfl rfl rfl rfl Wx (A7 H t) fun w H a E=>pr 5 E rfl fun a E=>nt<|?_
      refine wp_seq<|sq<|pr 3 E rfl fun a E=>cs hm (fun b hm=>?_) fun b hm=>?_
      ·refine pk 4 E (kc 19 rfl b) rfl fun a E=>nt<|wp_cond_true (E.eval rfl)<|wp_goto<|zG<|P2<|zG<|P2<|zG<|?_
       exact Ju<|have H:=H.drop 0;⟨_,E.nil,H,f,hm⟩
      ·refine pk 1 E (kc 19 rfl b) rfl fun a E=>aQ E (ws' (d:=19) E rfl rfl rfl rfl b) rfl rfl (kK (i:=0) E H rfl rfl rfl U33) fun a E=>pk 2 E (kc 19 rfl b) rfl fun a E=>nt<|wif E hm rfl (fun hm=>?_) fun hm=>?_
       ·exact wp_goto<|zG<|P2<|zG<|P2<|zG<|Ju<|have H:=H.drop 0;⟨_,E.nil,H,f,hm⟩
       ·refine wp_skip<|aC<|sq<|pr 1 E rfl fun a E=>bd hm fun G u hm=>xk E rfl rfl rfl rfl rfl Pd (xO H u) fun w H a E=>pr 1 E rfl fun a E=>nt<|aV (fun a w=>∃ c j,Env 48 a [(4,m),(5,.string k.1),(7,.int .i64 c)]∧Sep w (Row 9 kS m n::Fo) j∧(∀ r,r ∈ rs→r ∈ j)∧qW (mC g) k n c=some r) ?_ ?_
        ·refine sq<|pr 2 E rfl fun a E=>nt<|wif E hm rfl (fun hm=>?_) fun hm=>?_
         ·exact wp_region_lit<|pr 3 E rfl fun a E=>nt<|⟨_,_,E.to rfl,H,f,hm⟩
         ·exact wp_skip<|aC<|⟨_,_,E.to rfl,H,f,hm⟩
        ·clear E H hm
         rintro a w ⟨c,j,E,H,p,hm⟩
         unfold qW at hm
         refine wp_seq<|sq<|pr 2 E rfl fun a E=>bk hm fun y hm=>sv E rfl rfl rfl (X1 E rfl rfl rfl U9 y) fun a E=>bd hm fun I z hm=>xk E rfl rfl rfl rfl rfl Pe (N7 H z) fun w H a E=>pr 1 E rfl fun a E=>nt<|wif E hm rfl (fun hm=>?_) fun hm=>?_
         ·exact wp_goto<|zG<|P2<|zG<|P2<|zG<|Ju<|have H:=H.drop 0;⟨_,E.nil,H,p,hm⟩
         ·refine wp_skip<|aC<|sq<|pr 3 E rfl fun a E=>bk hm fun A hm=>sv E rfl rfl rfl (X1 E rfl rfl rfl U9 A) fun a E=>sM (e:=9) (d:=kS) (cs:=[.string (k.1.extract 0 c.toNat)]) (xs:=[k.1.extract 0 c.toNat]) E H (wn rfl) rfl rfl rfl (E.evs rfl) (by kernel_rfl) rfl (fun ok hr=>(Rows.single (d:=kS) (cs:=[.string (k.1.extract 0 c.toNat)]) (x:=k.1.extract 0 c.toNat) rfl)) fun J w a H E=>bk hm fun B hm=>eK (i:=0) E H (wn rfl) rfl rfl rfl rfl rfl rfl (lB m0) U33 Pf rfl B rfl fun K w a H E=>?_
          refine pr 1 E rfl fun a E=>nt<|wp_region_lit<|pr 2 E rfl fun a E=>bk hm fun C hm=>sv E rfl rfl rfl (P5 E rfl rfl rfl U9 C) fun a E=>pr 1 E rfl fun a E=>wpList_nil<|bZ<|?_
          exact aC<|⟨g,Nat.lt_succ_self g,X4 ⟨E.to rfl,H,(Y1 p),hm⟩⟩
     ·refine wp_exit<|bG<|bG<|dN<|aC<|wp_seq<|sq<|pr 1 E rfl fun a E=>sv E rfl rfl rfl (kK (i:=0) E H rfl rfl rfl U33) fun a E=>?_
      refine pr 1 E rfl fun a E=>nt<|wif E hm rfl (fun hm=>?_) fun hm=>?_
      ·refine sq<|pr 3 E rfl fun a E=>nt<|wp_ret<|aP<|Ay<|hG E rfl rfl rfl<|?_
       cases hm
       exact ⟨_,rfl,H.reads f⟩
      ·refine wp_skip<|aC<|wp_seq<|wp_label<|aC<|sq<|pr 2 E rfl fun a E=>nt<|wp_ret<|?_
       refine Ay<|hG E rfl rfl rfl<|have H:=H.nilRow 9 kS;have H:=H.drop 1;?_
       cases hm
       exact ⟨_,rfl,H.reads f⟩
 ·clear E H hm
  rintro a w ⟨l,E,H,F,hm⟩
  unfold oH at hm
  refine wp_seq<|wp_skip<|aC<|sq<|pr 2 E rfl fun a E=>nt<|wp_ret<|Ay<|hG E rfl rfl rfl<|?_
  refine have H:=H.nilRow 9 kS;?_
  cases hm
  exact ⟨_,rfl,H.reads F⟩

def eG(b:ByteArray):Option Bool:=
  (vA b).bind fun c=>some (c.2)
theorem hZ{b:ByteArray}(H:Sep w (Fo) rs){r:Bool}(hm:eG b=some r) :
    Calls Tryz.prog 51 [.string b].toArray w (Ret fun v w'=>.bool r=v∧Sep w' (Fo) (rs)):=by
 unfold eG at hm
 refine ent Tryz.func51 rfl Tryz.ntmps51 rfl rfl fun a E=>sq<|pr 1 E rfl fun a E=>nx<|pr 1 E rfl fun a E=>bd hm fun d c hm=>cF E rfl rfl rfl rfl rfl Ww (Z7 H c)<|?_
 rintro _ w ⟨e,rfl,H⟩ a E
 refine pr 5 E rfl fun a E=>nx<|pr 2 E rfl fun a E=>nt<|wp_ret<|aY E rfl rfl<|have H:=H.drop 0;?_
 cases hm
 exact ⟨rfl,H.reads Y0⟩

def vB(x1:dH)(b:Int)(c:Bool):Option Bool:=
  if c=true then (F7.bind fun e=>(idx ([0,13,2,19,18,16,16,20]:List Int) x1.Kind).bind fun d=>if ((P3 .i64 b d) == 0)=true then (if (x1.Kind != 7)=true then (some (true)) else (some (decide (x1.Owner > 0)))) else (some (false))) else (some (false))
def sA(x1:dH)(b:Int):Option Bool:=
  if (decide (x1.Version ≥ (-1)))=true then (vB x1 b (decide (x1.Version ≤ 281474976710656))) else (vB x1 b false)
def sB(x1:dH)(b:Int):Option Bool:=
  if (sEq x1.Path (ByteArray.mk #[47]))=true then (sA x1 (ior .i64 b 16)) else (sA x1 b)
def sC(x1:dH)(b:Int):Option Bool:=
  if x1.Turns=true then (sB x1 (ior .i64 b 8)) else (sB x1 b)
def sD(x1:dH)(b:Int):Option Bool:=
  if (x1.Owner != 0)=true then (sC x1 (ior .i64 b 4)) else (sC x1 b)
def sE(x1:dH)(b:Int):Option Bool:=
  if (x1.Version != 0)=true then (sD x1 (ior .i64 b 2)) else (sD x1 b)
def nM(x1:dH)(b:Bool):Option Bool:=
  if b=true then (some (false)) else (if (!(sEq x1.Data (ByteArray.mk #[])))=true then (sE x1 (ior .i64 0 1)) else (sE x1 0))
def xG(x1:dH):Option Bool:=
  if (decide (x1.Kind < 1))=true then (nM x1 true) else (if (decide (x1.Kind > 7))=true then (nM x1 true) else ((eG x1.Path).bind fun b=>if (!b)=true then (nM x1 true) else (if (decide ((x1.Data.size:Int) > 256))=true then (nM x1 true) else ((uZ x1.Owner 1099511627776).bind fun c=>nM x1 (!c)))))
theorem Cn{x1:dH}(H:Sep w (Fo) rs){r:Bool}(hm:xG x1=some r) :
    Calls Tryz.prog 99 [.agg (pP x1).toArray].toArray w (Ret fun v w'=>.bool r=v∧Sep w' (Fo) (rs)):=by
 unfold xG at hm
 refine ent Tryz.func99 rfl Tryz.ntmps99 rfl rfl fun a E=>sq<|bS E H (wn rfl) rfl rfl rfl rfl rfl fun e w a H E=>pr 1 E rfl fun a E=>nt<|wp_seq<|aV (fun a w=>∃ K x,Env 83 a [(1,pt e 0),(30,.bool K)]∧Sep w (Blk e 60 (pP x1)::Fo) x∧(∀ r,r ∈ rs→r ∈ x)∧nM x1 K=some r) ?_ ?_
 ·refine wp_region_lit<|pr 1 E rfl fun a E=>lb E H 0 rfl rfl rfl rfl rfl rfl rfl U3 rfl fun a E=>pr 2 E rfl fun a E=>cs hm (fun j hm=>?_) fun j hm=>?_
  ·exact pk 22 E (kc 8 rfl j) rfl fun a E=>nt<|⟨_,_,E.to rfl,H,Y0,hm⟩
  ·refine pk 1 E (kc 8 rfl j) rfl fun a E=>aQ E (ws' (d:=8) E rfl rfl rfl rfl j) rfl rfl (cD (i:=0) E H rfl rfl rfl rfl U3 rfl) fun a E=>pk 3 E (kc 8 rfl j) rfl fun a E=>cs hm (fun f hm=>?_) fun f hm=>?_
   ·exact pk 17 E (kc 13 rfl f) rfl fun a E=>nt<|⟨_,_,E.to rfl,H,Y0,hm⟩
   ·refine pk 1 E (kc 13 rfl f) rfl fun a E=>aQ E (ws' (d:=13) E rfl rfl rfl rfl f) rfl rfl (cD (i:=0) E H rfl rfl rfl rfl U9 rfl) fun a E=>bd hm fun R L hm=>aW E (ws' (d:=13) E rfl rfl rfl rfl f) rfl rfl (cB E rfl rfl (y7 _)) (hZ H L)<|?_
    rintro _ w ⟨rfl,H⟩ a E
    refine pk 3 E (kc 13 rfl f) rfl fun a E=>cs hm (fun k hm=>?_) fun k hm=>?_
    ·exact pk 11 E (kc 19 rfl k) rfl fun a E=>nt<|⟨_,_,E.to rfl,H,Y0,hm⟩
    ·refine pk 1 E (kc 19 rfl k) rfl fun a E=>aQ E (ws' (d:=19) E rfl rfl rfl rfl k) rfl rfl (cD (i:=0) E H rfl rfl rfl rfl U9 rfl) fun a E=>pk 4 E (kc 19 rfl k) rfl fun a E=>cs hm (fun g hm=>?_) fun g hm=>?_
     ·exact pk 5 E (kc 25 rfl g) rfl fun a E=>nt<|⟨_,_,E.to rfl,H,Y0,hm⟩
     ·refine pk 1 E (kc 25 rfl g) rfl fun a E=>aQ E (ws' (d:=25) E rfl rfl rfl rfl g) rfl rfl (cD (i:=0) E H rfl rfl rfl rfl U2 rfl) fun a E=>bd hm fun S M hm=>aW E (ws' (d:=25) E rfl rfl rfl rfl g) rfl rfl (cB E rfl rfl (GL _)) (Gs H M)<|?_
      rintro _ w ⟨rfl,H⟩ a E
      exact pk 2 E (kc 25 rfl g) rfl fun a E=>nt<|⟨_,_,E.to rfl,H,Y0,hm⟩
 ·clear E H hm
  rintro a w ⟨K,x,E,H,y,hm⟩
  unfold nM at hm
  refine wif E hm rfl (fun hm=>?_) fun hm=>?_
  ·refine sq<|pr 1 E rfl fun a E=>nt<|wp_ret<|aP<|aY E rfl rfl<|have H:=H.drop 0;?_
   cases hm
   exact ⟨rfl,H.reads y⟩
  ·refine wp_skip<|aC<|sq<|pr 1 E rfl fun a E=>nt<|aV (fun a w=>∃ N z,Env 83 a [(1,pt e 0),(3,.int .i64 N)]∧Sep w (Blk e 60 (pP x1)::Fo) z∧(∀ r,r ∈ rs→r ∈ z)∧sE x1 N=some r) ?_ ?_
   ·refine sq<|pr 1 E rfl fun a E=>lb E H 0 rfl rfl rfl rfl rfl rfl rfl U9 rfl fun a E=>pr 1 E rfl fun a E=>nt<|wif E hm rfl (fun hm=>?_) fun hm=>?_
    ·exact wp_region_lit<|pr 3 E rfl fun a E=>nt<|⟨_,_,E.to rfl,H,y,hm⟩
    ·exact wp_skip<|aC<|⟨_,_,E.to rfl,H,y,hm⟩
   ·clear E H hm
    rintro a w ⟨N,z,E,H,J,hm⟩
    unfold sE at hm
    refine aV (fun a w=>∃ O p,Env 83 a [(1,pt e 0),(3,.int .i64 O)]∧Sep w (Blk e 60 (pP x1)::Fo) p∧(∀ r,r ∈ rs→r ∈ p)∧sD x1 O=some r) ?_ ?_
    ·refine sq<|pr 1 E rfl fun a E=>lb E H 0 rfl rfl rfl rfl rfl rfl rfl U2 rfl fun a E=>pr 1 E rfl fun a E=>nt<|wif E hm rfl (fun hm=>?_) fun hm=>?_
     ·exact wp_region_lit<|pr 3 E rfl fun a E=>nt<|⟨_,_,E.to rfl,H,J,hm⟩
     ·exact wp_skip<|aC<|⟨_,_,E.to rfl,H,J,hm⟩
    ·clear E H hm
     rintro a w ⟨O,p,E,H,A,hm⟩
     unfold sD at hm
     refine aV (fun a w=>∃ B q,Env 83 a [(1,pt e 0),(3,.int .i64 B)]∧Sep w (Blk e 60 (pP x1)::Fo) q∧(∀ r,r ∈ rs→r ∈ q)∧sC x1 B=some r) ?_ ?_
     ·refine sq<|pr 1 E rfl fun a E=>lb E H 0 rfl rfl rfl rfl rfl rfl rfl U2 rfl fun a E=>pr 1 E rfl fun a E=>nt<|wif E hm rfl (fun hm=>?_) fun hm=>?_
      ·exact wp_region_lit<|pr 3 E rfl fun a E=>nt<|⟨_,_,E.to rfl,H,A,hm⟩
      ·exact wp_skip<|aC<|⟨_,_,E.to rfl,H,A,hm⟩
     ·clear E H hm
      rintro a w ⟨B,q,E,H,C,hm⟩
      unfold sC at hm
      refine aV (fun a w=>∃ D s,Env 83 a [(1,pt e 0),(3,.int .i64 D)]∧Sep w (Blk e 60 (pP x1)::Fo) s∧(∀ r,r ∈ rs→r ∈ s)∧sB x1 D=some r) ?_ ?_
      ·refine sq<|pr 1 E rfl fun a E=>lb E H 0 rfl rfl rfl rfl rfl rfl rfl U4 rfl fun a E=>nt<|wif E hm rfl (fun hm=>?_) fun hm=>?_
       ·exact wp_region_lit<|pr 3 E rfl fun a E=>nt<|⟨_,_,E.to rfl,H,C,hm⟩
       ·exact wp_skip<|aC<|⟨_,_,E.to rfl,H,C,hm⟩
      ·clear E H hm
       rintro a w ⟨D,s,E,H,F,hm⟩
       unfold sB at hm
       refine aV (fun a w=>∃ o t,Env 83 a [(1,pt e 0),(3,.int .i64 o)]∧Sep w (Blk e 60 (pP x1)::Fo) t∧(∀ r,r ∈ rs→r ∈ t)∧sA x1 o=some r) ?_ ?_
       ·refine sq<|pr 1 E rfl fun a E=>lb E H 0 rfl rfl rfl rfl rfl rfl rfl U9 rfl fun a E=>pr 1 E rfl fun a E=>nt<|wif E hm rfl (fun hm=>?_) fun hm=>?_
        ·exact wp_region_lit<|pr 3 E rfl fun a E=>nt<|⟨_,_,E.to rfl,H,F,hm⟩
        ·exact wp_skip<|aC<|⟨_,_,E.to rfl,H,F,hm⟩
       ·clear E H hm
        rintro a w ⟨o,t,E,H,G,hm⟩
        unfold sA at hm
        refine aV (fun a w=>∃ I u,Env 83 a [(1,pt e 0),(3,.int .i64 o),(4,.bool I)]∧Sep w (Blk e 60 (pP x1)::Fo) u∧(∀ r,r ∈ rs→r ∈ u)∧vB x1 o I=some r) ?_ ?_
        ·refine wp_region_lit<|pr 1 E rfl fun a E=>lb E H 0 rfl rfl rfl rfl rfl rfl rfl U2 rfl fun a E=>pr 2 E rfl fun a E=>cs hm (fun l hm=>?_) fun l hm=>?_
         ·exact pk 1 E (kc 58 rfl l) rfl fun a E=>aQ E (ws' (d:=58) E rfl rfl rfl rfl l) rfl rfl (cD (i:=0) E H rfl rfl rfl rfl U2 rfl) fun a E=>pk 3 E (kc 58 rfl l) rfl fun a E=>nt<|⟨_,_,E.to rfl,H,G,hm⟩
         ·exact pk 5 E (kc 58 rfl l) rfl fun a E=>nt<|⟨_,_,E.to rfl,H,G,hm⟩
        ·clear E H hm
         rintro a w ⟨I,u,E,H,n,hm⟩
         unfold vB at hm
         refine wp_seq<|dw [(0,0),(1,0),(2,0),(4,0),(5,0),(3,1),(6,0),(7,0),(8,0),(9,0),(10,0),(11,0),(12,0),(13,0),(14,0),(15,0),(16,0),(17,0),(18,0),(19,0),(20,2)] [0] [] H (by kernel_rfl) (fun _ _ _ h=>False.elim h.2) fun w W0 hI H=>fn 2 E rfl fun a E=>cs hm (fun b hm=>?_) fun b hm=>?_
         ·refine fk 2 E (kc 64 rfl b) rfl fun a E=>fb E rfl (ws' (d:=64) E rfl rfl rfl rfl b) rfl rfl rfl rfl m0 rfl U3 rfl fun a E=>bY rfl<|bd hm fun T P hm=>aW E (ws' (d:=64) E rfl rfl rfl rfl b) rfl rfl (cB E rfl rfl (GM _)) (Ir H P)<|?_
          rintro _ w ⟨rfl,H⟩ a E
          refine nt<|?_
          refine ⟨⟨_,_,H,(aB m0 (aL)),(aM)⟩,?_⟩
          refine bd hm fun U Q hm=>bT E rfl (ws' (d:=64) E rfl rfl rfl rfl b) rfl rfl (fun w hW=>(Yg (vs:=[.int .i64 0,.int .i64 13,.int .i64 2,.int .i64 19,.int .i64 18,.int .i64 16,.int .i64 16,.int .i64 20]) E rfl rfl rfl CC rfl sz3 U3 rfl (Yh (Value.int .i64) (xs:=([0,13,2,19,18,16,16,20]:List Int)) Q))) fun a E=>?_
          refine fk 4 E (kc 64 rfl b) rfl fun a E=>cs hm (fun c hm=>?_) fun c hm=>?_
          ·refine fk 1 E (kc 73 rfl c) rfl fun a E=>fb E rfl (ws' (d:=73) E rfl rfl rfl rfl c) rfl rfl rfl rfl m0 rfl U3 rfl fun a E=>fk 2 E (kc 73 rfl c) rfl fun a E=>cs hm (fun m hm=>?_) fun m hm=>?_
           ·refine fk 5 E (kc' (kc 77 rfl m) 73 rfl c) rfl fun a E=>bO rfl<|pr 1 E rfl fun a E=>nt<|bP<|?_
            clear hI
            refine aC<|wp_ret<|aY E rfl rfl<|have H:=H.drop 0;?_
            cases hm
            exact ⟨rfl,H.reads n⟩
           ·refine fk 1 E (kc 77 rfl m) rfl fun a E=>fb E rfl (ws' (d:=77) E rfl rfl rfl rfl m) rfl rfl rfl rfl m0 rfl U2 rfl fun a E=>fk 3 E (kc' (kc 77 rfl m) 73 rfl c) rfl fun a E=>bO rfl<|pr 1 E rfl fun a E=>nt<|bP<|?_
            clear hI
            refine aC<|wp_ret<|aY E rfl rfl<|have H:=H.drop 0;?_
            cases hm
            exact ⟨rfl,H.reads n⟩
          ·refine fk 9 E (kc 73 rfl c) rfl fun a E=>bO rfl<|pr 1 E rfl fun a E=>nt<|bP<|?_
           clear hI
           refine aC<|wp_ret<|aY E rfl rfl<|have H:=H.drop 0;?_
           cases hm
           exact ⟨rfl,H.reads n⟩
         ·refine fk 3 E (kc 64 rfl b) rfl fun a E=>bY rfl<|pk 1 E (kc 64 rfl b) rfl fun a E=>nt<|?_
          refine ⟨⟨_,_,H,(aB m0 (aL)),(aM)⟩,?_⟩
          refine fk 14 E (kc 64 rfl b) rfl fun a E=>bO rfl<|pr 1 E rfl fun a E=>nt<|bP<|?_
          clear hI
          refine aC<|wp_ret<|aY E rfl rfl<|have H:=H.drop 0;?_
          cases hm
          exact ⟨rfl,H.reads n⟩

def r8(x1:dH):Option Bool:=
  (xG x1).bind fun b=>some (!b)
theorem It{x1:dH}(H:Sep w (Fo) rs){r:Bool}(hm:r8 x1=some r) :
    Calls Tryz.prog 98 [.agg (pP x1).toArray].toArray w (Ret fun v w'=>.bool r=v∧Sep w' (Fo) (rs)):=by
 unfold r8 at hm
 refine ent Tryz.func98 rfl Tryz.ntmps98 rfl rfl fun a E=>sq<|bS E H (wn rfl) rfl rfl rfl rfl rfl fun c w a H E=>pr 1 E rfl fun a E=>nx<|sv E rfl rfl rfl (cC (i:=0) (us:=(pP x1)) E H rfl rfl rfl rfl U60 rfl J4) fun a E=>bd hm fun d b hm=>xk E rfl rfl rfl rfl rfl BU (Cn H b) fun w H a E=>pr 2 E rfl fun a E=>?_
 refine nt<|wp_ret<|aY E rfl rfl<|have H:=H.drop 0;?_
 cases hm
 exact ⟨rfl,H.reads Y0⟩

def eF(c:List dH):Nat→Int→Option Int
  | 0,_=>none
  | e+1,b=>
    if (decide (b < (c.length:Int)))=true then ((idx c b).bind fun f=>(r8 f).bind fun d=>if d=true then (some (b)) else (eF c e (IntKind.i64.wrap (b+1)))) else (some ((-1)))
def jK(b:List dH):Option Int:=
  eF b (((b.length:Int) - 0:Int).toNat+1) 0
theorem w4{g:Value}{d:List dH}(H:Sep w (Fo) rs)(f:rSl rE g d ∈ rs){r:Int}(hm:jK d=some r) :
    Calls Tryz.prog 174 [g,.func (.func 98) #[] #[]].toArray w (Ret fun v w'=>.int .i64 r=v∧Sep w' (Fo) (rs)):=by
 unfold jK at hm
 refine ent Tryz.func174 rfl Tryz.ntmps174 rfl rfl fun a E=>sq<|pr 1 E rfl fun a E=>nt<|wp_seq<|sq<|pr 1 E rfl fun a E=>sv E rfl rfl rfl (cV E H rfl rfl f U58) fun a E=>pr 1 E rfl fun a E=>?_
 refine nt<|wp_block<|bX (fun c a w=>∃ i e,Env 19 a [(0,g),(1,.func (.func 98) #[] #[]),(7,.int .i64 (d.length:Int)),(8,.int .i64 i)]∧Sep w (Fo) e∧(∀ r,r ∈ rs→r ∈ e)∧eF d c i=some r) (((d.length:Int) - 0:Int).toNat+1) ?_ ?_
 ·exact ⟨_,_,E.to rfl,H,Y0,hm⟩
 ·clear E H hm
  rintro c a w ⟨i,e,E,H,b,hm⟩
  cases c with
  | zero=>exact (bU hm rfl).elim
  | succ c=>
   unfold eF at hm
   refine sq<|pr 1 E rfl fun a E=>nt<|wp_seq<|wif E hm rfl (fun hm=>?_) fun hm=>?_
   ·refine wp_skip<|aC<|wp_seq<|wp_block<|sq<|pr 2 E rfl fun a E=>nx<|pr 3 E rfl fun a E=>bd hm fun m k hm=>?_
    refine dR E H (wn rfl) rfl rfl rfl rfl rfl (b _ f) U58 J4 k fun q9 a H E=>ldf V5 E H rfl rfl rfl rfl rfl m0 U60 rfl J4 fun a E=>bd hm fun l j hm=>aW E (wn rfl) rfl rfl (bR E rfl rfl rfl (KP _)) (It H j)<|?_
    rintro _ w ⟨rfl,H⟩ a E
    refine nt<|wif E hm rfl (fun hm=>?_) fun hm=>?_
    ·refine sq<|pr 2 E rfl fun a E=>nt<|wp_ret<|bW<|aP<|aP<|bW<|aP<|?_
     refine aY E rfl rfl<|?_
     cases hm
     exact ⟨rfl,H.reads (Y1 b)⟩
    ·exact wp_skip<|bZ<|aC<|wp_region_lit<|pr 2 E rfl fun a E=>nt<|⟨c,Nat.lt_succ_self c,_,_,E.to rfl,H,(Y1 b),hm⟩
   ·refine wp_exit<|bG<|bG<|dN<|aC<|sq<|pr 1 E rfl fun a E=>nt<|wp_ret<|?_
    refine aY E rfl rfl<|?_
    cases hm
    exact ⟨rfl,H.reads b⟩

def iI(b:List dH):Option Bool:=
  (jK b).bind fun c=>some (decide (c ≥ 0))
theorem zI{b:Value}{c:List dH}(H:Sep w (Fo) rs)(d:rSl rE b c ∈ rs){r:Bool}(hm:iI c=some r) :
    Calls Tryz.prog 97 [b,.func (.func 98) #[] #[]].toArray w (Ret fun v w'=>.bool r=v∧Sep w' (Fo) (rs)):=by
 unfold iI at hm
 refine ent Tryz.func97 rfl Tryz.ntmps97 rfl rfl fun a E=>sq<|pr 1 E rfl fun a E=>nx<|pr 2 E rfl fun a E=>bd hm fun f e hm=>xk E rfl rfl rfl rfl rfl GK (w4 H d e) fun w H a E=>pr 2 E rfl fun a E=>nt<|?_
 refine wp_ret<|aY E rfl rfl<|?_
 cases hm
 exact ⟨rfl,H.reads Y0⟩

def q7(b:List dH):Option Bool:=
  (iI b).bind fun c=>if (decide ((b.length:Int) > 0))=true then (if (decide ((b.length:Int) ≤ 8))=true then (some (!c)) else (some (false))) else (some (false))
theorem Mp{f:Value}{g:List dH}(H:Sep w (Fo) rs)(c:rSl rE f g ∈ rs){r:Bool}(hm:q7 g=some r) :
    Calls Tryz.prog 42 [f].toArray w (Ret fun v w'=>.bool r=v∧Sep w' (Fo) (rs)):=by
 unfold q7 at hm
 refine ent Tryz.func42 rfl Tryz.ntmps42 rfl rfl fun a E=>sq<|pr 1 E rfl fun a E=>nx<|pr 1 E rfl fun a E=>bd hm fun j i hm=>xk E rfl rfl rfl rfl rfl KO (zI H c i) fun w H a E=>pr 1 E rfl fun a E=>nx<|?_
 refine pr 1 E rfl fun a E=>sv E rfl rfl rfl (cV E H rfl rfl c U58) fun a E=>pr 2 E rfl fun a E=>cs hm (fun b hm=>?_) fun b hm=>?_
 ·refine pk 1 E (kc 9 rfl b) rfl fun a E=>aQ E (ws' (d:=9) E rfl rfl rfl rfl b) rfl rfl (cV E H rfl rfl c U58) fun a E=>pk 3 E (kc 9 rfl b) rfl fun a E=>cs hm (fun e hm=>?_) fun e hm=>?_
  ·refine pk 4 E (kc 14 rfl e) rfl fun a E=>nt<|wp_ret<|aY E rfl rfl<|?_
   cases hm
   exact ⟨rfl,H.reads Y0⟩
  ·refine pk 4 E (kc 14 rfl e) rfl fun a E=>nt<|wp_ret<|aY E rfl rfl<|?_
   cases hm
   exact ⟨rfl,H.reads Y0⟩
 ·refine pk 9 E (kc 9 rfl b) rfl fun a E=>nt<|wp_ret<|aY E rfl rfl<|?_
  cases hm
  exact ⟨rfl,H.reads Y0⟩

def mY(b:List bI)(c:List bI):Option (List bI):=
  (ck (c.length+b.length ≤ LIM)).bind fun d=>some (c ++ b)
theorem uJ{c d:Value}{e f:List bI}{b:Nat}(H:Sep w (Blk b 99 [d]::Row 85 cW d f::Fo) rs)(g:rSl cW c e ∈ rs){r:(List bI)}(hm:mY e f=some r) :
    Calls Tryz.prog 100 [c,pt b 0].toArray w (Ret fun v w'=>∃ j,.tuple #[]=v∧Sep w' (Blk b 99 [j]::Row 85 cW j r::Fo) (rs)):=by
 unfold mY at hm
 refine ent Tryz.func100 rfl Tryz.ntmps100 rfl rfl fun a E=>wp_region_lit<|lb E H 0 rfl rfl rfl rfl rfl rfl rfl U99 rfl fun a E=>pr 1 E rfl fun a E=>bk hm fun k hm=>eK (i:=1) E H (wn rfl) rfl rfl rfl rfl rfl rfl (lB g) U99 GS rfl k rfl fun m w a H E=>?_
 obtain ⟨q10,l,rfl⟩:=H.rowform (i:=1) rfl
 refine bA (i:=0) E H (wn rfl) rfl rfl rfl rfl rfl rfl KT rfl rfl fun w H=>wpList_nil<|rC E rfl<|?_
 cases hm
 exact ⟨_,rfl,H.reads Y0⟩

def rZ(x1:Int)(b:ByteArray)(c:ByteArray):Option bI:=
  some ((⟨x1,b,c,(ByteArray.mk #[]),0,0,false⟩:bI))
theorem q8{x1:Int}{k l:Nat}{b c:ByteArray}{d e f g j:Value}(H:Sep w (Blk k 9 [.string b]::Blk l 60 [d,.string c,e,f,g,j]::Fo) rs){r:bI}(hm:rZ x1 b c=some r) :
    Calls Tryz.prog 102 [.int .i64 x1,pt k 0,pt l 0].toArray w (Ret fun v w'=>.agg (cK r).toArray=v∧Sep w' (Blk k 9 [.string b]::Blk l 60 [d,.string c,e,f,g,j]::Fo) (rs)):=by
 unfold rZ at hm
 refine ent Tryz.func102 rfl Tryz.ntmps102 rfl rfl fun a E=>sq<|al E H rfl rfl rfl rfl Dq fun m w a H E=>nx<|pr 1 E rfl fun a E=>lb E H 1 rfl rfl rfl rfl rfl rfl rfl U9 rfl fun a E=>pr 1 E rfl fun a E=>lb E H 2 rfl rfl rfl rfl rfl rfl rfl U9 rfl fun a E=>sv E rfl rfl rfl (cL E rfl (E.evs rfl) (v:=.agg #[.int .i64 x1,.string b,.string c,.string (ByteArray.mk #[]),.int .i64 0,.int .i64 0,.bool false]) (by kernel_rfl)) fun a E=>?_
 refine bA (i:=0) E H (wn rfl) rfl rfl rfl rfl rfl rfl jR rfl rfl fun w H=>nt<|wp_ret<|dT E rfl (dD (i:=0) (us:=[.int .i64 x1,.string b,.string c,.string (ByteArray.mk #[]),.int .i64 0,.int .i64 0,.bool false]) H rfl rfl rfl U85 rfl jR)<|have H:=H.drop 0;?_
 cases hm
 exact ⟨rfl,H.reads Y0⟩

def xH(x1:Int)(b:ByteArray)(c:Int):Option bI:=
  some ((⟨x1,b,b,(ByteArray.mk #[]),0,c,false⟩:bI))
theorem N8{x1 c:Int}{g:Nat}{b:ByteArray}{j d e f:Value}(H:Sep w (Blk g 60 [j,.string b,d,e,.int .i64 c,f]::Fo) rs){r:bI}(hm:xH x1 b c=some r) :
    Calls Tryz.prog 103 [.int .i64 x1,pt g 0].toArray w (Ret fun v w'=>.agg (cK r).toArray=v∧Sep w' (Blk g 60 [j,.string b,d,e,.int .i64 c,f]::Fo) (rs)):=by
 unfold xH at hm
 refine ent Tryz.func103 rfl Tryz.ntmps103 rfl rfl fun a E=>sq<|al E H rfl rfl rfl rfl Dq fun k w a H E=>nx<|pr 2 E rfl fun a E=>lb E H 1 rfl rfl rfl rfl rfl rfl rfl U9 rfl fun a E=>pr 1 E rfl fun a E=>lb E H 1 rfl rfl rfl rfl rfl rfl rfl U9 rfl fun a E=>pr 1 E rfl fun a E=>?_
 refine lb E H 1 rfl rfl rfl rfl rfl rfl rfl U2 rfl fun a E=>sv E rfl rfl rfl (cL E rfl (E.evs rfl) (v:=.agg #[.int .i64 x1,.string b,.string b,.string (ByteArray.mk #[]),.int .i64 0,.int .i64 c,.bool false]) (by kernel_rfl)) fun a E=>bA (i:=0) E H (wn rfl) rfl rfl rfl rfl rfl rfl jR rfl rfl fun w H=>nt<|wp_ret<|dT E rfl (dD (i:=0) (us:=[.int .i64 x1,.string b,.string b,.string (ByteArray.mk #[]),.int .i64 0,.int .i64 c,.bool false]) H rfl rfl rfl U85 rfl jR)<|have H:=H.drop 0;?_
 cases hm
 exact ⟨rfl,H.reads Y0⟩

def xI(x1:Int)(c:ByteArray)(d:ByteArray)(e:Int):Option bI:=
  (rZ x1 c d).bind fun b=>some ((⟨b.Kind,b.Dir,b.Path,b.Data,e,b.Owner,b.Turns⟩:bI))
theorem N9{x1 c:Int}{l e d:Nat}{m n:ByteArray}{f g j k:Value}(H:Sep w (Blk l 162 [.func (.func 102) #[] #[pt e 0,pt d 0]]::Blk e 9 [.string m]::Blk d 60 [f,.string n,g,.int .i64 c,j,k]::Fo) rs){r:bI}(hm:xI x1 m n c=some r) :
    Calls Tryz.prog 104 [.int .i64 x1,pt l 0,pt d 0].toArray w (Ret fun v w'=>.agg (cK r).toArray=v∧Sep w' (Blk l 162 [.func (.func 102) #[] #[pt e 0,pt d 0]]::Blk e 9 [.string m]::Blk d 60 [f,.string n,g,.int .i64 c,j,k]::Fo) (rs)):=by
 unfold xI at hm
 refine ent Tryz.func104 rfl Tryz.ntmps104 rfl rfl fun a E=>sq<|al E H rfl rfl rfl rfl Dq fun p w a H E=>nx<|lb E H 1 rfl rfl rfl rfl rfl rfl rfl Kw rfl fun a E=>pr 1 E rfl fun a E=>have H:=H.frs [1,1,3,3] rfl;bd hm fun b o hm=>aW E (wn rfl) rfl rfl (bR E rfl rfl rfl (Fc _)) (q8 H o)<|?_
 rintro _ w ⟨rfl,H⟩ a E
 refine al E H rfl rfl rfl rfl Dq fun q w a H E=>bA (i:=0) E H (wn rfl) rfl rfl rfl rfl rfl rfl jR rfl rfl fun w H=>nx<|pr 1 E rfl fun a E=>lb E H 2 rfl rfl rfl rfl rfl rfl rfl U2 rfl fun a E=>pr 1 E rfl fun a E=>bA (i:=0) E H (wn rfl) rfl rfl rfl rfl rfl rfl sz2 rfl rfl fun w H=>nx<|sv E rfl rfl rfl (cC (i:=0) (us:=[.int .i64 b.Kind,.string b.Dir,.string b.Path,.string b.Data,.int .i64 c,.int .i64 b.Owner,.bool b.Turns]) E H rfl rfl rfl rfl U85 rfl jR) fun a E=>?_
 refine bA (i:=3) E H (wn rfl) rfl rfl rfl rfl rfl rfl jR rfl rfl fun w H=>nt<|wp_ret<|dT E rfl (dD (i:=3) (us:=[.int .i64 b.Kind,.string b.Dir,.string b.Path,.string b.Data,.int .i64 c,.int .i64 b.Owner,.bool b.Turns]) H rfl rfl rfl U85 rfl jR)<|have H:=H.drs [0,2];have H:=H.frs [1,1,2] rfl;?_
 cases hm
 exact ⟨rfl,H.reads Y0⟩

def eE(c:ByteArray):Nat→Int→Int→Option Int
  | 0,_,_=>none
  | d+1,x3,b=>
    if (decide (b ≥ 0))=true then ((idx c.data.toList b).bind fun e=>if ((e.toNat:Int) == x3)=true then (some (b)) else (eE c d x3 (IntKind.i64.wrap (b - 1)))) else (some ((-1)))
def gK(b:ByteArray)(c:Int):Option Int:=
  eE b (((IntKind.i64.wrap ((b.size:Int) - 1)) - 0:Int).toNat+2) c (IntKind.i64.wrap ((b.size:Int) - 1))
theorem xP{c:ByteArray}{g:Int}(H:Sep w (Fo) rs){r:Int}(hm:gK c g=some r) :
    Calls Tryz.prog 318 [.string c,.int .u8 g].toArray w (Ret fun v w'=>.int .i64 r=v∧Sep w' (Fo) (rs)):=by
 unfold gK at hm
 refine ent Tryz.func318 rfl Tryz.ntmps318 rfl rfl fun a E=>sq<|pr 1 E rfl fun a E=>nt<|wp_seq<|sq<|pr 4 E rfl fun a E=>nt<|wp_block<|bX (fun b a w=>∃ x3 f d,Env 19 a [(0,.string c),(1,.int .u8 x3),(5,.int .i64 f)]∧Sep w (Fo) d∧(∀ r,r ∈ rs→r ∈ d)∧eE c b x3 f=some r) (((IntKind.i64.wrap ((c.size:Int) - 1)) - 0:Int).toNat+2) ?_ ?_
 ·exact X3 ⟨E.to rfl,H,Y0,hm⟩
 ·clear E H hm
  rintro b a w ⟨x3,f,d,E,H,e,hm⟩
  cases b with
  | zero=>exact (bU hm rfl).elim
  | succ b=>
   unfold eE at hm
   refine wp_seq<|sq<|pr 2 E rfl fun a E=>nt<|wif E hm rfl (fun hm=>?_) fun hm=>?_
   ·refine wp_skip<|aC<|wp_seq<|wp_block<|sq<|pr 2 E rfl fun a E=>bd hm fun j i hm=>sv E rfl rfl rfl (Jw E rfl rfl rfl U9 i) fun a E=>pr 2 E rfl fun a E=>?_
    refine nt<|wif E hm rfl (fun hm=>?_) fun hm=>?_
    ·refine sq<|pr 2 E rfl fun a E=>nt<|wp_ret<|bW<|aP<|aP<|bW<|aP<|?_
     refine aY E rfl rfl<|?_
     cases hm
     exact ⟨rfl,H.reads e⟩
    ·exact wp_skip<|bZ<|aC<|wp_region_lit<|pr 3 E rfl fun a E=>nt<|⟨b,Nat.lt_succ_self b,X3 ⟨E.to rfl,H,e,hm⟩⟩
   ·refine wp_exit<|bG<|bG<|dN<|aC<|sq<|pr 1 E rfl fun a E=>nt<|wp_ret<|?_
    refine aY E rfl rfl<|?_
    cases hm
    exact ⟨rfl,H.reads e⟩

def oW(b:ByteArray)(c:Int):Option Int:=
  (gK b c).bind fun d=>some (d)
theorem K6{b:ByteArray}{c:Int}(H:Sep w (Fo) rs){r:Int}(hm:oW b c=some r) :
    Calls Tryz.prog 270 [.string b,.int .u8 c].toArray w (Ret fun v w'=>.int .i64 r=v∧Sep w' (Fo) (rs)):=by
 unfold oW at hm
 refine ent Tryz.func270 rfl Tryz.ntmps270 rfl rfl fun a E=>sq<|pr 1 E rfl fun a E=>nx<|pr 2 E rfl fun a E=>bd hm fun e d hm=>xk E rfl rfl rfl rfl rfl GP (xP H d) fun w H a E=>pr 1 E rfl fun a E=>nt<|?_
 refine wp_ret<|aY E rfl rfl<|?_
 cases hm
 exact ⟨rfl,H.reads Y0⟩

def wW(b:ByteArray)(d:Bool):Option (ByteArray×ByteArray×Bool):=
  if d=true then (some ((ByteArray.mk #[]),(ByteArray.mk #[]),false)) else ((oW b 47).bind fun c=>(ck (0 ≤ (max c 1)∧(max c 1) ≤ b.size)).bind fun e=>(ck (0 ≤ (IntKind.i64.wrap (c+1))∧(IntKind.i64.wrap (c+1)) ≤ b.size)).bind fun f=>some (b.extract 0 (max c 1).toNat,b.extract (IntKind.i64.wrap (c+1)).toNat b.size,true))
def zJ(b:ByteArray):Option (ByteArray×ByteArray×Bool):=
  (eG b).bind fun c=>if (!c)=true then (wW b true) else (wW b (sEq b (ByteArray.mk #[47])))
theorem Fr{d:ByteArray}(H:Sep w (Fo) rs){r:ByteArray×ByteArray×Bool}(hm:zJ d=some r) :
    Calls Tryz.prog 203 [.string d].toArray w (Ret fun v w'=>.tuple #[.string r.1,.string r.2.1,.bool r.2.2]=v∧Sep w' (Fo) (rs)):=by
 unfold zJ at hm
 refine ent Tryz.func203 rfl Tryz.ntmps203 rfl rfl fun a E=>sq<|pr 3 E rfl fun a E=>nt<|wp_seq<|aV (fun a w=>∃ f c,Env 23 a [(0,.string d),(12,.bool f)]∧Sep w (Fo) c∧(∀ r,r ∈ rs→r ∈ c)∧wW d f=some r) ?_ ?_
 ·refine wp_region_lit<|pr 1 E rfl fun a E=>bd hm fun l g hm=>xk E rfl rfl rfl rfl rfl y7 (hZ H g) fun w H a E=>pr 2 E rfl fun a E=>cs hm (fun b hm=>?_) fun b hm=>?_
  ·exact pk 3 E (kc 9 rfl b) rfl fun a E=>nt<|⟨_,_,E.to rfl,H,Y0,hm⟩
  ·exact pk 3 E (kc 9 rfl b) rfl fun a E=>nt<|⟨_,_,E.to rfl,H,Y0,hm⟩
 ·clear E H hm
  rintro a w ⟨f,c,E,H,e,hm⟩
  unfold wW at hm
  refine wif E hm rfl (fun hm=>?_) fun hm=>?_
  ·refine sq<|pr 3 E rfl fun a E=>nt<|wp_ret<|aP<|Jv E rfl rfl rfl rfl<|?_
   cases hm
   exact ⟨rfl,H.reads e⟩
  ·refine wp_skip<|aC<|sq<|pr 1 E rfl fun a E=>bd hm fun m j hm=>xk E rfl rfl rfl rfl rfl GO (K6 H j) fun w H a E=>pr 1 E rfl fun a E=>nt<|wp_seq<|?_
   refine dw [(0,0),(1,0),(2,0),(3,0),(4,0),(5,0),(6,0),(7,0),(8,1),(9,2),(10,2)] [] [] H (by kernel_rfl) (fun _ _ _ h=>False.elim h.2) fun w W0 hI H=>fn 2 E rfl fun a E=>bT E rfl (wn rfl) rfl rfl (fun w hW=>(FQ (t:=0) E rfl rfl rfl)) fun a E=>?_
   refine bk hm fun k hm=>bT E rfl (wn rfl) rfl rfl (fun w hW=>(X1 E rfl rfl rfl U9 k)) fun a E=>?_
   refine fn 3 E rfl fun a E=>bk hm fun i hm=>bT E rfl (wn rfl) rfl rfl (fun w hW=>(P5 E rfl rfl rfl U9 i)) fun a E=>?_
   refine bY rfl<|pr 1 E rfl fun a E=>nt<|?_
   refine ⟨⟨_,_,H,(aL),(aM)⟩,?_⟩
   refine bO rfl<|pr 1 E rfl fun a E=>nt<|bO rfl<|pr 1 E rfl fun a E=>nt<|bP<|?_
   clear hI
   refine aC<|wp_ret<|Jv E rfl rfl rfl rfl<|?_
   cases hm
   exact ⟨rfl,H.reads e⟩

def oU(c:ByteArray):Option (ByteArray×Bool):=
  (zJ c).bind fun b=>some (b.1,b.2.2)
theorem r9{b:ByteArray}(H:Sep w (Fo) rs){r:ByteArray×Bool}(hm:oU b=some r) :
    Calls Tryz.prog 148 [.string b].toArray w (Ret fun v w'=>.tuple #[.string r.1,.bool r.2]=v∧Sep w' (Fo) (rs)):=by
 unfold oU at hm
 refine ent Tryz.func148 rfl Tryz.ntmps148 rfl rfl fun a E=>sq<|pr 2 E rfl fun a E=>nx<|pr 1 E rfl fun a E=>bd hm fun d c hm=>xk E rfl rfl rfl rfl rfl Wz (Fr H c) fun w H a E=>pr 7 E rfl fun a E=>nx<|?_
 refine pr 4 E rfl fun a E=>nt<|wp_ret<|hG E rfl rfl rfl<|?_
 cases hm
 exact ⟨rfl,H.reads Y0⟩

def tV(c:ByteArray):Option ByteArray:=
  (oU c).bind fun b=>if b.2=true then (some (b.1)) else (some ((ByteArray.mk #[47])))
theorem Z8{b:ByteArray}(H:Sep w (Fo) rs){r:ByteArray}(hm:tV b=some r) :
    Calls Tryz.prog 101 [.string b].toArray w (Ret fun v w'=>.string r=v∧Sep w' (Fo) (rs)):=by
 unfold tV at hm
 refine ent Tryz.func101 rfl Tryz.ntmps101 rfl rfl fun a E=>sq<|pr 1 E rfl fun a E=>nt<|wp_seq<|sq<|pr 1 E rfl fun a E=>bd hm fun d c hm=>xk E rfl rfl rfl rfl rfl Jc (r9 H c) fun w H a E=>?_
 refine pr 5 E rfl fun a E=>nx<|pr 1 E rfl fun a E=>nt<|wif E hm rfl (fun hm=>?_) fun hm=>?_
 ·refine sq<|pr 2 E rfl fun a E=>nt<|wp_ret<|aP<|aY E rfl rfl<|?_
  cases hm
  exact ⟨rfl,H.reads Y0⟩
 ·refine wp_skip<|aC<|sq<|pr 1 E rfl fun a E=>nt<|wp_ret<|aY E rfl rfl<|?_
  cases hm
  exact ⟨rfl,H.reads Y0⟩

def lH(b:(List bI)):Option (List bI):=
  some (b)
def E5(x1:dH):Option (List bI):=
  (xG x1).bind fun x=>if (!x)=true then (some ([])) else ((tV x1.Path).bind fun c=>if (x1.Kind == 1)=true then ((rZ 2 c x1.Path).bind fun d=>(tV c).bind fun e=>(mY ([(⟨1,e,c,(ByteArray.mk #[]),0,0,false⟩:bI),(⟨d.Kind,d.Dir,d.Path,x1.Data,d.Version,x1.Owner,x1.Turns⟩:bI)]:List bI) []).bind fun f=>lH f) else (if (x1.Kind == 2)=true then ((xI 3 c x1.Path x1.Version).bind fun g=>(xH 4 x1.Path x1.Owner).bind fun i=>(mY ([g,i]:List bI) []).bind fun j=>lH j) else (if (x1.Kind == 3)=true then ((xI 5 c x1.Path x1.Version).bind fun b=>(mY ([(⟨b.Kind,b.Dir,b.Path,x1.Data,b.Version,b.Owner,b.Turns⟩:bI)]:List bI) []).bind fun k=>lH k) else (if (x1.Kind == 4)=true then ((xI 6 c x1.Path x1.Version).bind fun l=>(mY ([l]:List bI) []).bind fun m=>lH m) else (if (x1.Kind == 5)=true then ((rZ 7 c x1.Path).bind fun n=>(mY ([n]:List bI) []).bind fun o=>lH o) else (if (x1.Kind == 6)=true then ((rZ 8 c x1.Path).bind fun p=>(xH 9 x1.Path x1.Owner).bind fun q=>(mY ([p,q]:List bI) []).bind fun s=>lH s) else (if (x1.Kind == 7)=true then ((rZ 8 c x1.Path).bind fun t=>(xH 10 x1.Path x1.Owner).bind fun u=>(mY ([t,u]:List bI) []).bind fun v=>lH v) else (lH []))))))))
theorem Sk{x1:dH}(H:Sep w (Fo) rs){r:(List bI)}(hm:E5 x1=some r) :
    Calls Tryz.prog 43 [.agg (pP x1).toArray].toArray w (Ret fun v w'=>∃ T,T=v∧Sep w' (Row 85 cW T r::Fo) (rs)):=by
 unfold E5 at hm
 refine ent Tryz.func43 rfl Tryz.ntmps43 rfl rfl fun a E=>sq<|bS E H (wn rfl) rfl rfl rfl rfl rfl fun d0 w a H E=>pr 1 E rfl fun a E=>nt<|wp_seq<|sq<|sv E rfl rfl rfl (cC (i:=0) (us:=(pP x1)) E H rfl rfl rfl rfl U60 rfl J4) fun a E=>bd hm fun d1 U hm=>?_
 refine xk E rfl rfl rfl rfl rfl BU (Cn H U) fun w H a E=>pr 1 E rfl fun a E=>nt<|wif E hm rfl (fun hm=>?_) fun hm=>?_
 ·refine sq<|pr 1 E rfl fun a E=>nt<|wp_ret<|aP<|aY E rfl rfl<|have H:=H.nilRow 85 cW;have H:=H.drop 1;?_
  cases hm
  exact ⟨_,rfl,H.reads Y0⟩
 ·refine wp_skip<|aC<|sq<|al1 E H rfl rfl rfl rfl KS rfl fun V w a H E=>nx<|sv E rfl rfl rfl (kJ E rfl rfl rfl) fun a E=>pr 1 E rfl fun a E=>nx<|pr 1 E rfl fun a E=>?_
  refine lb E H 1 rfl rfl rfl rfl rfl rfl rfl U9 rfl fun a E=>bd hm fun s W hm=>xk E rfl rfl rfl rfl rfl Pg (Z8 H W) fun w H a E=>al1 E H rfl rfl rfl rfl zr9 rfl fun d2 w a H E=>bA (i:=0) E H (wn rfl) rfl rfl rfl rfl rfl rfl sz9 rfl rfl fun w H=>nx<|sv E rfl rfl rfl (kJ E rfl rfl rfl) fun a E=>al1 E H rfl rfl rfl rfl GQ rfl fun d3 w a H E=>bA (i:=0) E H (wn rfl) rfl rfl rfl rfl rfl rfl GR rfl rfl fun w H=>?_
  refine nx<|sv E rfl rfl rfl (kJ E rfl rfl rfl) fun a E=>pr 1 E rfl fun a E=>nx<|sv E rfl rfl rfl (kJ E rfl rfl rfl) fun a E=>pr 1 E rfl fun a E=>nt<|aV (fun a w=>∃ t u q,Env 97 a [(3,pt V 0)]∧Sep w (Blk V 99 [t]::Row 85 cW t u::Fo) q∧(∀ r,r ∈ rs→r ∈ q)∧lH u=some r) ?_ ?_
  ·refine sq<|pr 1 E rfl fun a E=>lb E H 3 rfl rfl rfl rfl rfl rfl rfl U3 rfl fun a E=>nt<|wp_block<|sq<|pr 2 E rfl fun a E=>nt<|wif E hm rfl (fun hm=>?_) fun hm=>?_
   ·refine sq<|lb E H 0 rfl rfl rfl rfl rfl rfl rfl Kw rfl fun a E=>have H:=H.frs [2,1,3,3] rfl;bd hm fun c y hm=>aW E (wn rfl) rfl rfl (bR E rfl rfl rfl (Fc _)) (q8 H y)<|?_
    rintro _ w ⟨rfl,H⟩ a E
    refine al E H rfl rfl rfl rfl Dq fun X w a H E=>bA (i:=0) E H (wn rfl) rfl rfl rfl rfl rfl rfl jR rfl rfl fun w H=>nt<|wp_seq<|dw [(0,0),(1,0),(2,0),(3,0),(4,0),(5,0),(6,0),(7,1),(8,0),(9,1),(10,2),(11,2)] [2] [] H (by kernel_rfl) (fun _ _ _ h=>False.elim h.2) fun w W0 hI H=>fn 1 E rfl fun a E=>fb E rfl (wn rfl) rfl rfl rfl rfl m0 rfl U9 rfl fun a E=>fn 1 E rfl fun a E=>fb E rfl (wn rfl) rfl rfl rfl rfl m0 rfl U2 rfl fun a E=>?_
    refine fn 1 E rfl fun a E=>fb E rfl (wn rfl) rfl rfl rfl rfl m0 rfl U4 rfl fun a E=>fn 1 E rfl fun a E=>bY rfl<|bA (i:=0) E H (wn rfl) rfl rfl rfl rfl rfl rfl sz9 rfl rfl fun w H=>nt<|?_
    refine ⟨⟨_,_,H,(aB mm2 (aL)),(aM)⟩,?_⟩
    refine fn 1 E rfl fun a E=>bY rfl<|bA (i:=0) E H (wn rfl) rfl rfl rfl rfl rfl rfl sz2 rfl rfl fun w H=>nt<|?_
    refine ⟨⟨_,_,H,(aB mm2 (aL)),(aM)⟩,?_⟩
    refine bO rfl<|pr 1 E rfl fun a E=>nt<|bO rfl<|bA (i:=0) E H (wn rfl) rfl rfl rfl rfl rfl rfl sz4 rfl rfl fun w H=>nt<|bP<|?_
    clear hI
    refine aC<|dw [(0,0),(1,0),(3,0),(5,0),(2,1),(4,0),(6,1),(7,1)] [0,1] [] H (by kernel_rfl) (fun _ _ _ h=>False.elim h.2) fun w W0 hI H=>fn 1 E rfl fun a E=>fb E rfl (wn rfl) rfl rfl rfl rfl mm1 rfl U9 rfl fun a E=>fb E rfl (wn rfl) rfl rfl rfl rfl mm1 rfl U9 rfl fun a E=>fbn E [.int .i64 c.Kind,.string c.Dir,.string c.Path,.string x1.Data,.int .i64 c.Version,.int .i64 x1.Owner,.bool x1.Turns] rfl (wn rfl) rfl rfl rfl rfl m0 rfl U85 rfl jR fun a E=>bY rfl<|bd hm fun p z hm=>xk E rfl rfl rfl rfl rfl Pg (Z8 H z) fun w H a E=>?_
    refine nt<|?_
    refine ⟨⟨_,_,H,(aB m0 (aB mm1 (aL))),(aM)⟩,?_⟩
    refine bT E rfl (wn rfl) rfl rfl (fun w hW=>(cL E rfl (E.evs rfl) (v:=.agg #[.int .i64 1,.string p,.string s,.string (ByteArray.mk #[]),.int .i64 0,.int .i64 0,.bool false]) (by kernel_rfl))) fun a E=>?_
    refine bY rfl<|hJ (e:=85) (d:=cW) (cs:=[.int .i64 1,.string p,.string s,.string (ByteArray.mk #[]),.int .i64 0,.int .i64 0,.bool false,.int .i64 c.Kind,.string c.Dir,.string c.Path,.string x1.Data,.int .i64 c.Version,.int .i64 x1.Owner,.bool x1.Turns]) (xs:=[(⟨1,p,s,(ByteArray.mk #[]),0,0,false⟩:bI),(⟨c.Kind,c.Dir,c.Path,x1.Data,c.Version,x1.Owner,x1.Turns⟩:bI)]) E H (wn rfl) rfl rfl rfl (E.evs rfl) (by kernel_rfl) rfl rfl (fun ok hr=>(Rows.append (Rows.single (d:=cW) (cs:=[.int .i64 1,.string p,.string s,.string (ByteArray.mk #[]),.int .i64 0,.int .i64 0,.bool false]) (x:=(⟨1,p,s,(ByteArray.mk #[]),0,0,false⟩:bI)) gX) (Rows.single (d:=cW) (cs:=[.int .i64 c.Kind,.string c.Dir,.string c.Path,.string x1.Data,.int .i64 c.Version,.int .i64 x1.Owner,.bool x1.Turns]) (x:=(⟨c.Kind,c.Dir,c.Path,x1.Data,c.Version,x1.Owner,x1.Turns⟩:bI)) gX))) fun Y w a H E=>nt<|?_
    refine ⟨⟨_,_,H,(aB mm1 (aB mm2 (aL))),(aM)⟩,?_⟩
    refine bY rfl<|have H:=H.thaw (i:=0) rfl;have H:=H.nilRow 85 cW;have H:=H.frs [4,4,4,4,4,5] rfl;bd hm fun Z A hm=>aW E (wn rfl) rfl rfl (bR E rfl rfl rfl (S7 _)) (uJ H m0 A)<|?_
    rintro _ w ⟨b0,rfl,H⟩ a E
    refine nt<|?_
    refine ⟨⟨_,_,H,(aB mm2 (aB mm3 (aL))),(aM)⟩,?_⟩
    refine bP<|?_
    clear hI
    exact bZ<|aC<|have H:=H.drs [2,2,2,2];X3 ⟨E.to rfl,H,(Y1 Y0),hm⟩
   ·refine sq<|pr 2 E rfl fun a E=>nt<|wif E hm rfl (fun hm=>?_) fun hm=>?_
    ·refine wp_region_lit<|pr 2 E rfl fun a E=>have H:=H.frs [2,3,3,3] rfl;bd hm fun f B hm=>aW E (wn rfl) rfl rfl (bR E rfl rfl rfl (Ph _)) (N9 H B)<|?_
     rintro _ w ⟨rfl,H⟩ a E
     refine pr 1 E rfl fun a E=>have H:=H.frs [3,2,2,3] rfl;bd hm fun g C hm=>aW E (wn rfl) rfl rfl (bR E rfl rfl rfl (Pi _)) (N8 H C)<|?_
     rintro _ w ⟨rfl,H⟩ a E
     refine hJ (e:=85) (d:=cW) (cs:=[.int .i64 f.Kind,.string f.Dir,.string f.Path,.string f.Data,.int .i64 f.Version,.int .i64 f.Owner,.bool f.Turns,.int .i64 g.Kind,.string g.Dir,.string g.Path,.string g.Data,.int .i64 g.Version,.int .i64 g.Owner,.bool g.Turns]) (xs:=[f,g]) E H (wn rfl) rfl rfl rfl (E.evs rfl) (by kernel_rfl) rfl rfl (fun ok hr=>(Rows.append (Rows.single (d:=cW) (cs:=[.int .i64 f.Kind,.string f.Dir,.string f.Path,.string f.Data,.int .i64 f.Version,.int .i64 f.Owner,.bool f.Turns]) (x:=f) gX) (Rows.single (d:=cW) (cs:=[.int .i64 g.Kind,.string g.Dir,.string g.Path,.string g.Data,.int .i64 g.Version,.int .i64 g.Owner,.bool g.Turns]) (x:=g) gX))) fun b1 w a H E=>have H:=H.thaw (i:=0) rfl;have H:=H.nilRow 85 cW;have H:=H.frs [3,3,3,3,4] rfl;bd hm fun b2 D hm=>aW E (wn rfl) rfl rfl (bR E rfl rfl rfl (S7 _)) (uJ H m0 D)<|?_
     rintro _ w ⟨b3,rfl,H⟩ a E
     exact wpList_nil<|bZ<|aC<|have H:=H.drs [2,2,2];X3 ⟨E.to rfl,H,(Y1 Y0),hm⟩
    ·refine sq<|pr 2 E rfl fun a E=>nt<|wif E hm rfl (fun hm=>?_) fun hm=>?_
     ·refine sq<|pr 1 E rfl fun a E=>have H:=H.frs [2,3,3,3] rfl;bd hm fun b F hm=>aW E (wn rfl) rfl rfl (bR E rfl rfl rfl (Ph _)) (N9 H F)<|?_
      rintro _ w ⟨rfl,H⟩ a E
      refine al E H rfl rfl rfl rfl Dq fun b4 w a H E=>bA (i:=0) E H (wn rfl) rfl rfl rfl rfl rfl rfl jR rfl rfl fun w H=>nx<|pr 1 E rfl fun a E=>lb E H 3 rfl rfl rfl rfl rfl rfl rfl U9 rfl fun a E=>pr 1 E rfl fun a E=>bA (i:=0) E H (wn rfl) rfl rfl rfl rfl rfl rfl sz9 rfl rfl fun w H=>nt<|wp_region_lit<|?_
      refine pr 1 E rfl fun a E=>sv E rfl rfl rfl (cC (i:=0) (us:=[.int .i64 b.Kind,.string b.Dir,.string b.Path,.string x1.Data,.int .i64 b.Version,.int .i64 b.Owner,.bool b.Turns]) E H rfl rfl rfl rfl U85 rfl jR) fun a E=>hJ (e:=85) (d:=cW) (cs:=[.int .i64 b.Kind,.string b.Dir,.string b.Path,.string x1.Data,.int .i64 b.Version,.int .i64 b.Owner,.bool b.Turns]) (xs:=[(⟨b.Kind,b.Dir,b.Path,x1.Data,b.Version,b.Owner,b.Turns⟩:bI)]) E H (wn rfl) rfl rfl rfl (E.evs rfl) (by kernel_rfl) rfl rfl (fun ok hr=>(Rows.single (d:=cW) (cs:=[.int .i64 b.Kind,.string b.Dir,.string b.Path,.string x1.Data,.int .i64 b.Version,.int .i64 b.Owner,.bool b.Turns]) (x:=(⟨b.Kind,b.Dir,b.Path,x1.Data,b.Version,b.Owner,b.Turns⟩:bI)) gX)) fun b5 w a H E=>have H:=H.thaw (i:=0) rfl;have H:=H.nilRow 85 cW;have H:=H.frs [4,4,4,4,4,5] rfl;bd hm fun b6 G hm=>aW E (wn rfl) rfl rfl (bR E rfl rfl rfl (S7 _)) (uJ H m0 G)<|?_
      rintro _ w ⟨b7,rfl,H⟩ a E
      exact wpList_nil<|bZ<|aC<|have H:=H.drs [2,2,2,2];X3 ⟨E.to rfl,H,(Y1 Y0),hm⟩
     ·refine sq<|pr 2 E rfl fun a E=>nt<|wif E hm rfl (fun hm=>?_) fun hm=>?_
      ·refine wp_region_lit<|pr 2 E rfl fun a E=>have H:=H.frs [2,3,3,3] rfl;bd hm fun j I hm=>aW E (wn rfl) rfl rfl (bR E rfl rfl rfl (Ph _)) (N9 H I)<|?_
       rintro _ w ⟨rfl,H⟩ a E
       refine hJ (e:=85) (d:=cW) (cs:=[.int .i64 j.Kind,.string j.Dir,.string j.Path,.string j.Data,.int .i64 j.Version,.int .i64 j.Owner,.bool j.Turns]) (xs:=[j]) E H (wn rfl) rfl rfl rfl (E.evs rfl) (by kernel_rfl) rfl rfl (fun ok hr=>(Rows.single (d:=cW) (cs:=[.int .i64 j.Kind,.string j.Dir,.string j.Path,.string j.Data,.int .i64 j.Version,.int .i64 j.Owner,.bool j.Turns]) (x:=j) gX)) fun b8 w a H E=>have H:=H.thaw (i:=0) rfl;have H:=H.nilRow 85 cW;have H:=H.frs [3,3,3,3,4] rfl;bd hm fun b9 J hm=>aW E (wn rfl) rfl rfl (bR E rfl rfl rfl (S7 _)) (uJ H m0 J)<|?_
       rintro _ w ⟨c0,rfl,H⟩ a E
       exact wpList_nil<|bZ<|aC<|have H:=H.drs [2,2,2];X3 ⟨E.to rfl,H,(Y1 Y0),hm⟩
      ·refine sq<|pr 2 E rfl fun a E=>nt<|wif E hm rfl (fun hm=>?_) fun hm=>?_
       ·refine wp_region_lit<|pr 1 E rfl fun a E=>lb E H 0 rfl rfl rfl rfl rfl rfl rfl Kw rfl fun a E=>have H:=H.frs [2,1,3,3] rfl;bd hm fun k K hm=>aW E (wn rfl) rfl rfl (bR E rfl rfl rfl (Fc _)) (q8 H K)<|?_
        rintro _ w ⟨rfl,H⟩ a E
        refine hJ (e:=85) (d:=cW) (cs:=[.int .i64 k.Kind,.string k.Dir,.string k.Path,.string k.Data,.int .i64 k.Version,.int .i64 k.Owner,.bool k.Turns]) (xs:=[k]) E H (wn rfl) rfl rfl rfl (E.evs rfl) (by kernel_rfl) rfl rfl (fun ok hr=>(Rows.single (d:=cW) (cs:=[.int .i64 k.Kind,.string k.Dir,.string k.Path,.string k.Data,.int .i64 k.Version,.int .i64 k.Owner,.bool k.Turns]) (x:=k) gX)) fun c1 w a H E=>have H:=H.thaw (i:=0) rfl;have H:=H.nilRow 85 cW;have H:=H.frs [3,3,3,3,4] rfl;bd hm fun c2 L hm=>aW E (wn rfl) rfl rfl (bR E rfl rfl rfl (S7 _)) (uJ H m0 L)<|?_
        rintro _ w ⟨c3,rfl,H⟩ a E
        exact wpList_nil<|bZ<|aC<|have H:=H.drs [2,2,2];X3 ⟨E.to rfl,H,(Y1 Y0),hm⟩
       ·refine sq<|pr 2 E rfl fun a E=>nt<|wif E hm rfl (fun hm=>?_) fun hm=>?_
        ·refine wp_region_lit<|pr 1 E rfl fun a E=>lb E H 0 rfl rfl rfl rfl rfl rfl rfl Kw rfl fun a E=>have H:=H.frs [2,1,3,3] rfl;bd hm fun l M hm=>aW E (wn rfl) rfl rfl (bR E rfl rfl rfl (Fc _)) (q8 H M)<|?_
         rintro _ w ⟨rfl,H⟩ a E
         refine pr 1 E rfl fun a E=>have H:=H.frs [3,3,2,3] rfl;bd hm fun m N hm=>aW E (wn rfl) rfl rfl (bR E rfl rfl rfl (Pi _)) (N8 H N)<|?_
         rintro _ w ⟨rfl,H⟩ a E
         refine hJ (e:=85) (d:=cW) (cs:=[.int .i64 l.Kind,.string l.Dir,.string l.Path,.string l.Data,.int .i64 l.Version,.int .i64 l.Owner,.bool l.Turns,.int .i64 m.Kind,.string m.Dir,.string m.Path,.string m.Data,.int .i64 m.Version,.int .i64 m.Owner,.bool m.Turns]) (xs:=[l,m]) E H (wn rfl) rfl rfl rfl (E.evs rfl) (by kernel_rfl) rfl rfl (fun ok hr=>(Rows.append (Rows.single (d:=cW) (cs:=[.int .i64 l.Kind,.string l.Dir,.string l.Path,.string l.Data,.int .i64 l.Version,.int .i64 l.Owner,.bool l.Turns]) (x:=l) gX) (Rows.single (d:=cW) (cs:=[.int .i64 m.Kind,.string m.Dir,.string m.Path,.string m.Data,.int .i64 m.Version,.int .i64 m.Owner,.bool m.Turns]) (x:=m) gX))) fun c4 w a H E=>have H:=H.thaw (i:=0) rfl;have H:=H.nilRow 85 cW;have H:=H.frs [3,3,3,3,4] rfl;bd hm fun c5 O hm=>aW E (wn rfl) rfl rfl (bR E rfl rfl rfl (S7 _)) (uJ H m0 O)<|?_
         rintro _ w ⟨c6,rfl,H⟩ a E
         exact wpList_nil<|bZ<|aC<|have H:=H.drs [2,2,2];X3 ⟨E.to rfl,H,(Y1 Y0),hm⟩
        ·refine sq<|pr 2 E rfl fun a E=>nt<|wif E hm rfl (fun hm=>?_) fun hm=>?_
         ·refine wp_region_lit<|pr 1 E rfl fun a E=>lb E H 0 rfl rfl rfl rfl rfl rfl rfl Kw rfl fun a E=>have H:=H.frs [2,1,3,3] rfl;bd hm fun n P hm=>aW E (wn rfl) rfl rfl (bR E rfl rfl rfl (Fc _)) (q8 H P)<|?_
          rintro _ w ⟨rfl,H⟩ a E
          refine pr 1 E rfl fun a E=>have H:=H.frs [3,3,2,3] rfl;bd hm fun o Q hm=>aW E (wn rfl) rfl rfl (bR E rfl rfl rfl (Pi _)) (N8 H Q)<|?_
          rintro _ w ⟨rfl,H⟩ a E
          refine hJ (e:=85) (d:=cW) (cs:=[.int .i64 n.Kind,.string n.Dir,.string n.Path,.string n.Data,.int .i64 n.Version,.int .i64 n.Owner,.bool n.Turns,.int .i64 o.Kind,.string o.Dir,.string o.Path,.string o.Data,.int .i64 o.Version,.int .i64 o.Owner,.bool o.Turns]) (xs:=[n,o]) E H (wn rfl) rfl rfl rfl (E.evs rfl) (by kernel_rfl) rfl rfl (fun ok hr=>(Rows.append (Rows.single (d:=cW) (cs:=[.int .i64 n.Kind,.string n.Dir,.string n.Path,.string n.Data,.int .i64 n.Version,.int .i64 n.Owner,.bool n.Turns]) (x:=n) gX) (Rows.single (d:=cW) (cs:=[.int .i64 o.Kind,.string o.Dir,.string o.Path,.string o.Data,.int .i64 o.Version,.int .i64 o.Owner,.bool o.Turns]) (x:=o) gX))) fun c7 w a H E=>have H:=H.thaw (i:=0) rfl;have H:=H.nilRow 85 cW;have H:=H.frs [3,3,3,3,4] rfl;bd hm fun c8 R hm=>aW E (wn rfl) rfl rfl (bR E rfl rfl rfl (S7 _)) (uJ H m0 R)<|?_
          rintro _ w ⟨c9,rfl,H⟩ a E
          exact wpList_nil<|bZ<|aC<|have H:=H.drs [2,2,2];X3 ⟨E.to rfl,H,(Y1 Y0),hm⟩
         ·exact wp_skip<|bZ<|aC<|have H:=H.nilRow 85 cW;have H:=H.drs [1,1,2];have H:=H.frs [0,1] rfl;X3 ⟨E.to rfl,H,Y0,hm⟩
  ·clear E H hm
   rintro a w ⟨t,u,q,E,H,S,hm⟩
   unfold lH at hm
   refine sq<|lb E H 0 rfl rfl rfl rfl rfl rfl rfl U99 rfl fun a E=>pr 1 E rfl fun a E=>nt<|wp_ret<|aY E rfl rfl<|have H:=H.drop 0;?_
   cases hm
   exact ⟨_,rfl,H.reads S⟩

def tO(rec_1:(List cE)→Int→Option (List cE))(b:(List bI))(d:Int):Nat→(List cE)→Int→Option (List cE)
  | 0,_,_=>none
  | f+1,c,x20=>
    if (decide (x20 < (b.length:Int)))=true then ((idx b x20).bind fun e=>(ck (c.length+([(⟨d,e⟩:cE)]:List cE).length ≤ LIM)).bind fun g=>tO rec_1 b d f (c ++ ([(⟨d,e⟩:cE)]:List cE)) (IntKind.i64.wrap (x20+1))) else (rec_1 c (IntKind.i64.wrap (d+1)))
def rF(c:List dH):Nat→(List cE)→Int→Option (List cE)
  | 0,_,_=>none
  | g+1,e,d=>
    if (decide (d < (c.length:Int)))=true then ((idx c d).bind fun f=>(E5 f).bind fun b=>tO (rF c g) b d (((b.length:Int) - 0:Int).toNat+1) e 0) else (some (e))
def zK(b:List dH):Option (List cE):=
  (q7 b).bind fun c=>if (!c)=true then (some ([])) else (rF b (((b.length:Int) - 0:Int).toNat+1) [] 0)
theorem Fs{y:Value}{f:List dH}(H:Sep w (Fo) rs)(o:rSl rE y f ∈ rs){r:(List cE)}(hm:zK f=some r) :
    Calls Tryz.prog 16 [y].toArray w (Ret fun v w'=>∃ G,G=v∧Sep w' (Row 87 cA G r::Fo) (rs)):=by
 unfold zK at hm
 refine ent Tryz.func16 rfl Tryz.ntmps16 rfl rfl fun a E=>sq<|pr 1 E rfl fun a E=>nt<|wp_seq<|sq<|pr 1 E rfl fun a E=>bd hm fun Q I hm=>xk E rfl rfl rfl rfl rfl KN (Mp H o I) fun w H a E=>?_
 refine pr 1 E rfl fun a E=>nt<|wif E hm rfl (fun hm=>?_) fun hm=>?_
 ·refine sq<|pr 1 E rfl fun a E=>nt<|wp_ret<|aP<|aY E rfl rfl<|have H:=H.nilRow 87 cA;?_
  cases hm
  exact ⟨_,rfl,H.reads Y0⟩
 ·refine wp_skip<|aC<|sq<|pr 1 E rfl fun a E=>nt<|wp_seq<|sq<|pr 1 E rfl fun a E=>sv E rfl rfl rfl (cV E H rfl rfl o U58) fun a E=>?_
  refine pr 1 E rfl fun a E=>nt<|wp_block<|bX (fun g a w=>∃ A B c p,Env 34 a [(3,A),(11,y),(12,.int .i64 (f.length:Int)),(13,.int .i64 c)]∧Sep w (Row 87 cA A B::Fo) p∧(∀ r,r ∈ rs→r ∈ p)∧rF f g B c=some r) (((f.length:Int) - 0:Int).toNat+1) ?_ ?_
  ·exact have H:=H.nilRow 87 cA;X4 ⟨E.to rfl,H,Y0,hm⟩
  ·clear E H hm
   rintro g a w ⟨A,B,c,p,E,H,j,hm⟩
   cases g with
   | zero=>exact (bU hm rfl).elim
   | succ g=>
    unfold rF at hm
    refine sq<|pr 1 E rfl fun a E=>nt<|wp_seq<|wif E hm rfl (fun hm=>?_) fun hm=>?_
    ·refine wp_skip<|aC<|wp_seq<|wp_block<|sq<|pr 1 E rfl fun a E=>bd hm fun J C hm=>dR E H (wn rfl) rfl rfl rfl rfl rfl (j _ o) U58 J4 C fun q13 a H E=>ldf V5 E H rfl rfl rfl rfl rfl m0 U60 rfl J4 fun a E=>?_
     refine al E H rfl rfl rfl rfl KQ fun K w a H E=>pr 1 E rfl fun a E=>bA (i:=0) E H (wn rfl) rfl rfl rfl rfl rfl rfl J4 rfl rfl fun w H=>nx<|sv E rfl rfl rfl (cC (i:=0) (us:=(pP J)) E H rfl rfl rfl rfl U60 rfl J4) fun a E=>bd hm fun m D hm=>cF E rfl rfl rfl rfl rfl KR (Sk H D)<|?_
     rintro _ w ⟨z,rfl,H⟩ a E
     refine sv E rfl rfl rfl (kK (i:=0) E H rfl rfl rfl U99) fun a E=>pr 1 E rfl fun a E=>nt<|wp_block<|bX (fun n a w=>∃ q s x20 k,Env 34 a [(3,q),(4,.int .i64 c),(11,y),(12,.int .i64 (f.length:Int)),(13,.int .i64 c),(19,z),(20,.int .i64 (m.length:Int)),(21,.int .i64 x20)]∧Sep w (Row 87 cA q s::Row 85 cW z m::Fo) k∧(∀ r,r ∈ rs→r ∈ k)∧tO (rF f g) m c n s x20=some r) (((m.length:Int) - 0:Int).toNat+1) ?_ ?_
     ·exact have H:=H.drop 1;have H:=H.frs [0,1] rfl;X4 ⟨E.to rfl,H,(Y1 j),hm⟩
     ·clear E H hm
      rintro n a w ⟨q,s,x20,k,E,H,t,hm⟩
      cases n with
      | zero=>exact (bU hm rfl).elim
      | succ n=>
       unfold tO at hm
       refine sq<|pr 1 E rfl fun a E=>nt<|wp_seq<|wif E hm rfl (fun hm=>?_) fun hm=>?_
       ·refine wp_skip<|aC<|wp_seq<|wp_block<|sq<|bd hm fun b l hm=>?_
        obtain ⟨L,M,u⟩:=H.rowformNE (i:=1) rfl l
        refine sv E rfl rfl rfl (dG (d:=cW) E u rfl rfl rfl rfl U99 jR l) fun a E=>sv E rfl rfl rfl (hP (i:=1) E H Fb u rfl rfl rfl l (us:=[.int .i64 b.Kind,.string b.Dir,.string b.Path,.string b.Data,.int .i64 b.Version,.int .i64 b.Owner,.bool b.Turns]) rfl U85 rfl jR) fun a E=>al E H rfl rfl rfl rfl Dq fun N w a H E=>bA (i:=0) E H (wn rfl) rfl rfl rfl rfl rfl rfl jR rfl rfl fun w H=>nt<|wp_region_lit<|pr 2 E rfl fun a E=>sv E rfl rfl rfl (cC (i:=0) (us:=(cK b)) E H rfl rfl rfl rfl U85 rfl jR) fun a E=>sv E rfl rfl rfl (cL E rfl (E.evs rfl) (v:=.agg #[.int .i64 c,.int .i64 b.Kind,.string b.Dir,.string b.Path,.string b.Data,.int .i64 b.Version,.int .i64 b.Owner,.bool b.Turns]) (by kernel_rfl)) fun a E=>?_
        refine sM (e:=87) (d:=cA) (cs:=[.int .i64 c,.int .i64 b.Kind,.string b.Dir,.string b.Path,.string b.Data,.int .i64 b.Version,.int .i64 b.Owner,.bool b.Turns]) (xs:=[(⟨c,b⟩:cE)]) E H (wn rfl) rfl rfl rfl (E.evs rfl) (by kernel_rfl) rfl (fun ok hr=>(Rows.single (d:=cA) (cs:=[.int .i64 c,.int .i64 b.Kind,.string b.Dir,.string b.Path,.string b.Data,.int .i64 b.Version,.int .i64 b.Owner,.bool b.Turns]) (x:=(⟨c,b⟩:cE)) Q1)) fun O w a H E=>bk hm fun F hm=>eK (i:=1) E H (wn rfl) rfl rfl rfl rfl rfl rfl (lB m0) U26 GT rfl F rfl fun P w a H E=>pr 1 E rfl fun a E=>wpList_nil<|bZ<|aC<|wp_region_lit<|pr 2 E rfl fun a E=>?_
        exact nt<|have H:=H.drop 0;⟨n,Nat.lt_succ_self n,X4 ⟨E.to rfl,H,(Y1 t),hm⟩⟩
       ·refine wp_exit<|bG<|bG<|dN<|bZ<|aC<|wp_region_lit<|pr 2 E rfl fun a E=>nt<|?_
        exact have H:=H.drop 1;⟨g,Nat.lt_succ_self g,X4 ⟨E.to rfl,H,t,hm⟩⟩
    ·refine wp_exit<|bG<|bG<|dN<|aC<|sq<|pr 2 E rfl fun a E=>nt<|wp_ret<|?_
     refine aY E rfl rfl<|?_
     cases hm
     exact ⟨_,rfl,H.reads j⟩

def jL(b:ByteArray):Option (List cE):=
  (zK ([(⟨1,b,(ByteArray.mk #[]),0,0,false⟩:dH)]:List dH)).bind fun c=>some (c)
theorem oI{b:ByteArray}(H:Sep w (Fo) rs){r:(List cE)}(hm:jL b=some r) :
    Calls Tryz.prog 18 [.string b].toArray w (Ret fun v w'=>∃ c,c=v∧Sep w' (Row 87 cA c r::Fo) (rs)):=by
 unfold jL at hm
 refine ent Tryz.func18 rfl Tryz.ntmps18 rfl rfl fun a E=>sq<|pr 1 E rfl fun a E=>nx<|pr 1 E rfl fun a E=>sv E rfl rfl rfl (cL E rfl (E.evs rfl) (v:=.agg #[.int .i64 1,.string b,.string (ByteArray.mk #[]),.int .i64 0,.int .i64 0,.bool false]) (by kernel_rfl)) fun a E=>hJ (e:=60) (d:=rE) (cs:=[.int .i64 1,.string b,.string (ByteArray.mk #[]),.int .i64 0,.int .i64 0,.bool false]) (xs:=[(⟨1,b,(ByteArray.mk #[]),0,0,false⟩:dH)]) E H (wn rfl) rfl rfl rfl (E.evs rfl) (by kernel_rfl) rfl rfl (fun ok hr=>(Rows.single (d:=rE) (cs:=[.int .i64 1,.string b,.string (ByteArray.mk #[]),.int .i64 0,.int .i64 0,.bool false]) (x:=(⟨1,b,(ByteArray.mk #[]),0,0,false⟩:dH)) Cm)) fun g w a H E=>have H:=H.thaw (i:=0) rfl;bd hm fun j f hm=>?_
 refine cF E rfl rfl rfl rfl rfl BT (Fs H m0 f)<|?_
 rintro _ w ⟨k,rfl,H⟩ a E
 refine pr 1 E rfl fun a E=>nt<|wp_ret<|aY E rfl rfl<|?_
 cases hm
 exact ⟨_,rfl,H.reads (Y1 Y0)⟩

def iG(rec_1:Int→Option Bool)(c:Int)(b:Bool):Option Bool:=
  if b=true then (some (false)) else (rec_1 (IntKind.i64.wrap (c+1)))
def eZ(b:List aG):Nat→Int→Option Bool
  | 0,_=>none
  | d+1,c=>
    if (decide (c < (b.length:Int)))=true then ((idx b c).bind fun e=>(eG e.Prefix).bind fun f=>if (!f)=true then (iG (eZ b d) c true) else (if (decide (e.Epoch < 0))=true then (iG (eZ b d) c true) else (if (decide (e.Epoch > 281474976710656))=true then (iG (eZ b d) c true) else (if (decide (e.State < 1))=true then (iG (eZ b d) c true) else (if (decide (e.State > 3))=true then (iG (eZ b d) c true) else (if (decide (c > 0))=true then ((idx b (IntKind.i64.wrap (c - 1))).bind fun g=>iG (eZ b d) c (!(sLt g.Prefix e.Prefix))) else (iG (eZ b d) c false))))))) else (some (decide ((b.length:Int) ≤ 32)))
def nE(b:List aG):Option Bool:=
  eZ b (((b.length:Int) - 0:Int).toNat+1) 0
theorem wX{q:Value}{m:List aG}(H:Sep w (Fo) rs)(p:rSl aT q m ∈ rs){r:Bool}(hm:nE m=some r) :
    Calls Tryz.prog 21 [q].toArray w (Ret fun v w'=>.bool r=v∧Sep w' (Fo) (rs)):=by
 unfold nE at hm
 refine ent Tryz.func21 rfl Tryz.ntmps21 rfl rfl fun a E=>sq<|pr 1 E rfl fun a E=>nt<|wp_seq<|sq<|pr 1 E rfl fun a E=>sv E rfl rfl rfl (cV E H rfl rfl p U32) fun a E=>pr 1 E rfl fun a E=>?_
 refine nt<|wp_block<|bX (fun n a w=>∃ s t,Env 55 a [(0,q),(5,q),(6,.int .i64 (m.length:Int)),(7,.int .i64 s)]∧Sep w (Fo) t∧(∀ r,r ∈ rs→r ∈ t)∧eZ m n s=some r) (((m.length:Int) - 0:Int).toNat+1) ?_ ?_
 ·exact ⟨_,_,E.to rfl,H,Y0,hm⟩
 ·clear E H hm
  rintro n a w ⟨s,t,E,H,c,hm⟩
  cases n with
  | zero=>exact (bU hm rfl).elim
  | succ n=>
   unfold eZ at hm
   refine sq<|pr 1 E rfl fun a E=>nt<|wp_seq<|wif E hm rfl (fun hm=>?_) fun hm=>?_
   ·refine wp_skip<|aC<|wp_seq<|wp_block<|sq<|pr 1 E rfl fun a E=>bd hm fun L D hm=>dR E H (wn rfl) rfl rfl rfl rfl rfl (c _ p) U32 iK D fun q9 a H E=>ldf jI E H rfl rfl rfl rfl rfl m0 U31 rfl iK fun a E=>?_
    refine al E H rfl rfl rfl rfl Gl fun F w a H E=>pr 1 E rfl fun a E=>bA (i:=0) E H (wn rfl) rfl rfl rfl rfl rfl rfl iK rfl rfl fun w H=>nt<|aV (fun a w=>∃ u o,Env 55 a [(0,q),(5,q),(6,.int .i64 (m.length:Int)),(7,.int .i64 s),(50,.bool u)]∧Sep w (Fo) o∧(∀ r,r ∈ rs→r ∈ o)∧iG (eZ m n) s u=some r) ?_ ?_
    ·obtain ⟨G,H⟩:=H.raw (t1 (c _ p))
     refine dw [(0,0),(1,0),(2,1),(3,0),(4,0),(5,0),(6,0),(7,0),(8,0),(9,0),(10,0),(11,0),(12,0),(13,0),(14,0),(15,0),(16,0),(17,0),(18,0),(19,0),(20,0),(21,0),(22,0),(23,0),(24,0),(25,0),(26,0),(27,0),(28,0),(29,0),(30,0),(31,0),(32,0),(33,0),(34,0),(35,0),(36,0),(37,0),(38,0)] [0] [0] H (by kernel_rfl) (fun _ _ _ h=>False.elim h.2) fun w W0 hI H=>fn 1 E rfl fun a E=>fb E rfl (wn rfl) rfl rfl rfl rfl m0 rfl U9 rfl fun a E=>bY rfl<|bd hm fun I y hm=>xk E rfl rfl rfl rfl rfl y7 (hZ H y) fun w H a E=>nt<|?_
     refine ⟨⟨_,_,H,(aB m0 (aL)),(aA m0 (aM))⟩,?_⟩
     refine fn 2 E rfl fun a E=>cs hm (fun e hm=>?_) fun e hm=>?_
     ·refine fk 34 E (kc 16 rfl e) rfl fun a E=>bP<|?_
      clear hI
      exact aC<|have H:=H.drop 0;⟨_,_,E.to rfl,H,(Y2 c),hm⟩
     ·refine fk 1 E (kc 16 rfl e) rfl fun a E=>fb E rfl (ws' (d:=16) E rfl rfl rfl rfl e) rfl rfl rfl rfl m0 rfl U2 rfl fun a E=>fk 3 E (kc 16 rfl e) rfl fun a E=>cs hm (fun f hm=>?_) fun f hm=>?_
      ·refine fk 29 E (kc 21 rfl f) rfl fun a E=>bP<|?_
       clear hI
       exact aC<|have H:=H.drop 0;⟨_,_,E.to rfl,H,(Y2 c),hm⟩
      ·refine fk 1 E (kc 21 rfl f) rfl fun a E=>fb E rfl (ws' (d:=21) E rfl rfl rfl rfl f) rfl rfl rfl rfl m0 rfl U2 rfl fun a E=>fk 3 E (kc 21 rfl f) rfl fun a E=>cs hm (fun g hm=>?_) fun g hm=>?_
       ·refine fk 24 E (kc 26 rfl g) rfl fun a E=>bP<|?_
        clear hI
        exact aC<|have H:=H.drop 0;⟨_,_,E.to rfl,H,(Y2 c),hm⟩
       ·refine fk 1 E (kc 26 rfl g) rfl fun a E=>fb E rfl (ws' (d:=26) E rfl rfl rfl rfl g) rfl rfl rfl rfl m0 rfl U3 rfl fun a E=>fk 3 E (kc 26 rfl g) rfl fun a E=>cs hm (fun j hm=>?_) fun j hm=>?_
        ·refine fk 19 E (kc 31 rfl j) rfl fun a E=>bP<|?_
         clear hI
         exact aC<|have H:=H.drop 0;⟨_,_,E.to rfl,H,(Y2 c),hm⟩
        ·refine fk 1 E (kc 31 rfl j) rfl fun a E=>fb E rfl (ws' (d:=31) E rfl rfl rfl rfl j) rfl rfl rfl rfl m0 rfl U3 rfl fun a E=>fk 3 E (kc 31 rfl j) rfl fun a E=>cs hm (fun l hm=>?_) fun l hm=>?_
         ·refine fk 14 E (kc 36 rfl l) rfl fun a E=>bP<|?_
          clear hI
          exact aC<|have H:=H.drop 0;⟨_,_,E.to rfl,H,(Y2 c),hm⟩
         ·refine fk 3 E (kc 36 rfl l) rfl fun a E=>cs hm (fun b hm=>?_) fun b hm=>?_
          ·refine fk 3 E (kc 39 rfl b) rfl fun a E=>bd hm fun J z hm=>?_
           obtain ⟨q25,K,A,B⟩:=oD (P:=Tryz.prog) (k:=.i64) hI (mT (.head _)) U32 iK z
           refine bT E rfl (ws' (d:=39) E rfl rfl rfl rfl b) rfl rfl (fun w hW=>rR E rfl rfl rfl (A w)) fun a E=>?_
           have C:=yP B (fun _ _ _ h=>qV h)
           refine fk 1 E (kc 39 rfl b) rfl fun a E=>fa E rfl (ws' (d:=39) E rfl rfl rfl rfl b) rfl rfl rfl rfl C U9 rfl fun a E=>fk 1 E (kc 39 rfl b) rfl fun a E=>fb E rfl (ws' (d:=39) E rfl rfl rfl rfl b) rfl rfl rfl rfl m0 rfl U9 rfl fun a E=>fk 3 E (kc' (kc 39 rfl b) 36 rfl l) rfl fun a E=>bP<|?_
           clear hI
           exact aC<|have H:=H.drop 0;⟨_,_,E.to rfl,H,(Y2 c),hm⟩
          ·refine fk 11 E (kc' (kc 39 rfl b) 36 rfl l) rfl fun a E=>bP<|?_
           clear hI
           exact aC<|have H:=H.drop 0;⟨_,_,E.to rfl,H,(Y2 c),hm⟩
    ·clear E H hm
     rintro a w ⟨u,o,E,H,x,hm⟩
     unfold iG at hm
     refine wif E hm rfl (fun hm=>?_) fun hm=>?_
     ·refine sq<|pr 1 E rfl fun a E=>nt<|wp_ret<|bW<|aP<|aP<|bW<|aP<|?_
      refine aY E rfl rfl<|?_
      cases hm
      exact ⟨rfl,H.reads x⟩
     ·exact wp_skip<|bZ<|aC<|wp_region_lit<|pr 2 E rfl fun a E=>nt<|⟨n,Nat.lt_succ_self n,_,_,E.to rfl,H,x,hm⟩
   ·refine wp_exit<|bG<|bG<|dN<|aC<|sq<|pr 1 E rfl fun a E=>sv E rfl rfl rfl (cV E H rfl rfl (c _ p) U32) fun a E=>pr 2 E rfl fun a E=>?_
    refine nt<|wp_ret<|aY E rfl rfl<|?_
    cases hm
    exact ⟨rfl,H.reads c⟩

def vC(x1:aF):Option ByteArray:=
  some (x1.Path)
theorem Q4{x1:aF}(H:Sep w (Fo) rs){r:ByteArray}(hm:vC x1=some r) :
    Calls Tryz.prog 54 [.agg (kM x1).toArray].toArray w (Ret fun v w'=>.string r=v∧Sep w' (Fo) (rs)):=by
 unfold vC at hm
 refine ent Tryz.func54 rfl Tryz.ntmps54 rfl rfl fun a E=>sq<|bS E H (wn rfl) rfl rfl rfl rfl rfl fun b w a H E=>pr 1 E rfl fun a E=>nx<|pr 1 E rfl fun a E=>lb E H 0 rfl rfl rfl rfl rfl rfl rfl U9 rfl fun a E=>pr 1 E rfl fun a E=>nt<|?_
 refine wp_ret<|aY E rfl rfl<|have H:=H.drop 0;?_
 cases hm
 exact ⟨rfl,H.reads Y0⟩

def kN(rec_1:Int→Option Bool)(b:Int)(c:Bool):Option Bool:=
  if c=true then (some (false)) else (rec_1 (IntKind.i64.wrap (b+1)))
def eN(c:List aF):Nat→Int→Option Bool
  | 0,_=>none
  | d+1,b=>
    if (decide (b < (c.length:Int)))=true then (if (decide (b > 0))=true then ((idx c (IntKind.i64.wrap (b - 1))).bind fun e=>(idx c b).bind fun f=>(vC e).bind fun g=>(vC f).bind fun i=>kN (eN c d) b (!(sLt g i))) else (kN (eN c d) b false)) else (some (true))
def qB(b:List aF):Option Bool:=
  eN b (((b.length:Int) - 0:Int).toNat+1) 0
theorem O1{n:Value}{f:List aF}(H:Sep w (Fo) rs)(o:rSl aE n f ∈ rs){r:Bool}(hm:qB f=some r) :
    Calls Tryz.prog 53 [n,.func (.func 54) #[] #[]].toArray w (Ret fun v w'=>.bool r=v∧Sep w' (Fo) (rs)):=by
 unfold qB at hm
 refine ent Tryz.func53 rfl Tryz.ntmps53 rfl rfl fun a E=>sq<|pr 1 E rfl fun a E=>nt<|wp_seq<|sq<|pr 1 E rfl fun a E=>sv E rfl rfl rfl (cV E H rfl rfl o U22) fun a E=>pr 1 E rfl fun a E=>?_
 refine nt<|wp_block<|bX (fun g a w=>∃ j l,Env 30 a [(0,n),(1,.func (.func 54) #[] #[]),(7,.int .i64 (f.length:Int)),(8,.int .i64 j)]∧Sep w (Fo) l∧(∀ r,r ∈ rs→r ∈ l)∧eN f g j=some r) (((f.length:Int) - 0:Int).toNat+1) ?_ ?_
 ·exact ⟨_,_,E.to rfl,H,Y0,hm⟩
 ·clear E H hm
  rintro g a w ⟨j,l,E,H,i,hm⟩
  cases g with
  | zero=>exact (bU hm rfl).elim
  | succ g=>
   unfold eN at hm
   refine sq<|pr 1 E rfl fun a E=>nt<|wp_seq<|wif E hm rfl (fun hm=>?_) fun hm=>?_
   ·refine wp_skip<|aC<|wp_seq<|wp_block<|sq<|pr 2 E rfl fun a E=>nt<|aV (fun a w=>∃ q m,Env 30 a [(0,n),(1,.func (.func 54) #[] #[]),(7,.int .i64 (f.length:Int)),(8,.int .i64 j),(28,.bool q)]∧Sep w (Fo) m∧(∀ r,r ∈ rs→r ∈ m)∧kN (eN f g) j q=some r) ?_ ?_
    ·obtain ⟨C,H⟩:=H.raw (i _ o)
     refine dw [(0,0),(1,0),(2,0),(3,0),(4,0),(5,0),(6,0),(7,0),(8,0),(10,0),(11,0),(12,0),(13,0),(14,0),(9,1),(15,1),(16,0),(17,0)] [] [0] H (by kernel_rfl) (fun _ _ _ h=>False.elim h.2) fun w W0 hI H=>fn 3 E rfl fun a E=>cs hm (fun b hm=>?_) fun b hm=>?_
     ·refine fk 4 E (kc 13 rfl b) rfl fun a E=>bd hm fun c s hm=>?_
      obtain ⟨q14,D,t,u⟩:=oD (P:=Tryz.prog) (k:=.i64) hI (mT (.head _)) U22 iZ s
      refine bT E rfl (ws' (d:=13) E rfl rfl rfl rfl b) rfl rfl (fun w hW=>rR E rfl rfl rfl (t w)) fun a E=>?_
      refine bT E rfl (ws' (d:=13) E rfl rfl rfl rfl b) rfl rfl (fun w hW=>fC E rfl rfl (E2 (cs:=[.string c.Path,.string c.Data,.int .i64 c.Version,.int .i64 c.Turn,.int .i64 c.Owner]) (DR.ir (G8 u)) (fun _ _ _ h=>tT h) U95 rfl iZ w hW)) fun a E=>?_
      refine fk 3 E (kc 13 rfl b) rfl fun a E=>bd hm fun e x hm=>?_
      obtain ⟨q20,F,y,z⟩:=oD (P:=Tryz.prog) (k:=.i64) hI (mT (.head _)) U22 iZ x
      refine bT E rfl (ws' (d:=13) E rfl rfl rfl rfl b) rfl rfl (fun w hW=>rR E rfl rfl rfl (y w)) fun a E=>?_
      refine bT E rfl (ws' (d:=13) E rfl rfl rfl rfl b) rfl rfl (fun w hW=>fC E rfl rfl (E2 (cs:=[.string e.Path,.string e.Data,.int .i64 e.Version,.int .i64 e.Turn,.int .i64 e.Owner]) (DR.ir (G8 z)) (fun _ _ _ h=>tT h) U95 rfl iZ w hW)) fun a E=>?_
      refine bY rfl<|bd hm fun G A hm=>aW E (ws' (d:=13) E rfl rfl rfl rfl b) rfl rfl (bR E rfl rfl rfl (BO _)) (Q4 H A)<|?_
      rintro _ w ⟨rfl,H⟩ a E
      refine nt<|?_
      refine ⟨⟨_,_,H,(aL),(aA m0 (aM))⟩,?_⟩
      refine bY rfl<|bd hm fun I B hm=>aW E (ws' (d:=13) E rfl rfl rfl rfl b) rfl rfl (bR E rfl rfl rfl (BO _)) (Q4 H B)<|?_
      rintro _ w ⟨rfl,H⟩ a E
      refine nt<|?_
      refine ⟨⟨_,_,H,(aL),(aA m0 (aM))⟩,?_⟩
      refine fk 2 E (kc 13 rfl b) rfl fun a E=>bP<|?_
      clear hI
      exact aC<|⟨_,_,E.to rfl,H,(Y1 i),hm⟩
     ·refine fk 11 E (kc 13 rfl b) rfl fun a E=>bY rfl<|pk 1 E (kc 13 rfl b) rfl fun a E=>nt<|?_
      refine ⟨⟨_,_,H,(aL),(aA m0 (aM))⟩,?_⟩
      refine bY rfl<|pk 1 E (kc 13 rfl b) rfl fun a E=>nt<|?_
      refine ⟨⟨_,_,H,(aL),(aA m0 (aM))⟩,?_⟩
      refine fk 2 E (kc 13 rfl b) rfl fun a E=>bP<|?_
      clear hI
      exact aC<|⟨_,_,E.to rfl,H,(Y1 i),hm⟩
    ·clear E H hm
     rintro a w ⟨q,m,E,H,p,hm⟩
     unfold kN at hm
     refine wif E hm rfl (fun hm=>?_) fun hm=>?_
     ·refine sq<|pr 1 E rfl fun a E=>nt<|wp_ret<|bW<|aP<|aP<|bW<|aP<|?_
      refine aY E rfl rfl<|?_
      cases hm
      exact ⟨rfl,H.reads p⟩
     ·exact wp_skip<|bZ<|aC<|wp_region_lit<|pr 2 E rfl fun a E=>nt<|⟨g,Nat.lt_succ_self g,_,_,E.to rfl,H,p,hm⟩
   ·refine wp_exit<|bG<|bG<|dN<|aC<|sq<|pr 1 E rfl fun a E=>nt<|wp_ret<|?_
    refine aY E rfl rfl<|?_
    cases hm
    exact ⟨rfl,H.reads i⟩

def vD(x1:aJ):Option ByteArray:=
  some (x1.Dir)
theorem Q5{x1:aJ}(H:Sep w (Fo) rs){r:ByteArray}(hm:vD x1=some r) :
    Calls Tryz.prog 56 [.agg #[.string x1.Dir,.int .i64 x1.Next]].toArray w (Ret fun v w'=>.string r=v∧Sep w' (Fo) (rs)):=by
 unfold vD at hm
 refine ent Tryz.func56 rfl Tryz.ntmps56 rfl rfl fun a E=>sq<|bS E H (wn rfl) rfl rfl rfl rfl rfl fun b w a H E=>pr 1 E rfl fun a E=>nx<|pr 1 E rfl fun a E=>lb E H 0 rfl rfl rfl rfl rfl rfl rfl U9 rfl fun a E=>pr 1 E rfl fun a E=>nt<|?_
 refine wp_ret<|aY E rfl rfl<|have H:=H.drop 0;?_
 cases hm
 exact ⟨rfl,H.reads Y0⟩

def kO(rec_1:Int→Option Bool)(b:Int)(c:Bool):Option Bool:=
  if c=true then (some (false)) else (rec_1 (IntKind.i64.wrap (b+1)))
def eO(c:List aJ):Nat→Int→Option Bool
  | 0,_=>none
  | d+1,b=>
    if (decide (b < (c.length:Int)))=true then (if (decide (b > 0))=true then ((idx c (IntKind.i64.wrap (b - 1))).bind fun e=>(idx c b).bind fun f=>(vD e).bind fun g=>(vD f).bind fun i=>kO (eO c d) b (!(sLt g i))) else (kO (eO c d) b false)) else (some (true))
def qC(b:List aJ):Option Bool:=
  eO b (((b.length:Int) - 0:Int).toNat+1) 0
theorem O2{l:Value}{c:List aJ}(H:Sep w (Fo) rs)(m:rSl aI l c ∈ rs){r:Bool}(hm:qC c=some r) :
    Calls Tryz.prog 55 [l,.func (.func 56) #[] #[]].toArray w (Ret fun v w'=>.bool r=v∧Sep w' (Fo) (rs)):=by
 unfold qC at hm
 refine ent Tryz.func55 rfl Tryz.ntmps55 rfl rfl fun a E=>sq<|pr 1 E rfl fun a E=>nt<|wp_seq<|sq<|pr 1 E rfl fun a E=>sv E rfl rfl rfl (cV E H rfl rfl m U23) fun a E=>pr 1 E rfl fun a E=>?_
 refine nt<|wp_block<|bX (fun e a w=>∃ g i,Env 30 a [(0,l),(1,.func (.func 56) #[] #[]),(7,.int .i64 (c.length:Int)),(8,.int .i64 g)]∧Sep w (Fo) i∧(∀ r,r ∈ rs→r ∈ i)∧eO c e g=some r) (((c.length:Int) - 0:Int).toNat+1) ?_ ?_
 ·exact ⟨_,_,E.to rfl,H,Y0,hm⟩
 ·clear E H hm
  rintro e a w ⟨g,i,E,H,f,hm⟩
  cases e with
  | zero=>exact (bU hm rfl).elim
  | succ e=>
   unfold eO at hm
   refine sq<|pr 1 E rfl fun a E=>nt<|wp_seq<|wif E hm rfl (fun hm=>?_) fun hm=>?_
   ·refine wp_skip<|aC<|wp_seq<|wp_block<|sq<|pr 2 E rfl fun a E=>nt<|aV (fun a w=>∃ q j,Env 30 a [(0,l),(1,.func (.func 56) #[] #[]),(7,.int .i64 (c.length:Int)),(8,.int .i64 g),(28,.bool q)]∧Sep w (Fo) j∧(∀ r,r ∈ rs→r ∈ j)∧kO (eO c e) g q=some r) ?_ ?_
    ·obtain ⟨C,H⟩:=H.raw (f _ m)
     refine dw [(0,0),(1,0),(2,0),(3,0),(4,0),(5,0),(6,0),(7,0),(8,0),(10,0),(11,0),(12,0),(13,0),(14,0),(9,1),(15,1),(16,0),(17,0)] [] [0] H (by kernel_rfl) (fun _ _ _ h=>False.elim h.2) fun w W0 hI H=>fn 3 E rfl fun a E=>cs hm (fun b hm=>?_) fun b hm=>?_
     ·refine fk 4 E (kc 13 rfl b) rfl fun a E=>bd hm fun n s hm=>?_
      obtain ⟨q14,D,t,u⟩:=oD (P:=Tryz.prog) (k:=.i64) hI (mT (.head _)) U23 oG s
      refine bT E rfl (ws' (d:=13) E rfl rfl rfl rfl b) rfl rfl (fun w hW=>rR E rfl rfl rfl (t w)) fun a E=>?_
      refine bT E rfl (ws' (d:=13) E rfl rfl rfl rfl b) rfl rfl (fun w hW=>fC E rfl rfl (E2 (cs:=[.string n.Dir,.int .i64 n.Next]) (DR.ir (G8 u)) (fun _ _ _ h=>tU h) U77 rfl oG w hW)) fun a E=>?_
      refine fk 3 E (kc 13 rfl b) rfl fun a E=>bd hm fun o x hm=>?_
      obtain ⟨q20,F,y,z⟩:=oD (P:=Tryz.prog) (k:=.i64) hI (mT (.head _)) U23 oG x
      refine bT E rfl (ws' (d:=13) E rfl rfl rfl rfl b) rfl rfl (fun w hW=>rR E rfl rfl rfl (y w)) fun a E=>?_
      refine bT E rfl (ws' (d:=13) E rfl rfl rfl rfl b) rfl rfl (fun w hW=>fC E rfl rfl (E2 (cs:=[.string o.Dir,.int .i64 o.Next]) (DR.ir (G8 z)) (fun _ _ _ h=>tU h) U77 rfl oG w hW)) fun a E=>?_
      refine bY rfl<|bd hm fun G A hm=>aW E (ws' (d:=13) E rfl rfl rfl rfl b) rfl rfl (bR E rfl rfl rfl (BP _)) (Q5 H A)<|?_
      rintro _ w ⟨rfl,H⟩ a E
      refine nt<|?_
      refine ⟨⟨_,_,H,(aL),(aA m0 (aM))⟩,?_⟩
      refine bY rfl<|bd hm fun I B hm=>aW E (ws' (d:=13) E rfl rfl rfl rfl b) rfl rfl (bR E rfl rfl rfl (BP _)) (Q5 H B)<|?_
      rintro _ w ⟨rfl,H⟩ a E
      refine nt<|?_
      refine ⟨⟨_,_,H,(aL),(aA m0 (aM))⟩,?_⟩
      refine fk 2 E (kc 13 rfl b) rfl fun a E=>bP<|?_
      clear hI
      exact aC<|⟨_,_,E.to rfl,H,(Y1 f),hm⟩
     ·refine fk 11 E (kc 13 rfl b) rfl fun a E=>bY rfl<|pk 1 E (kc 13 rfl b) rfl fun a E=>nt<|?_
      refine ⟨⟨_,_,H,(aL),(aA m0 (aM))⟩,?_⟩
      refine bY rfl<|pk 1 E (kc 13 rfl b) rfl fun a E=>nt<|?_
      refine ⟨⟨_,_,H,(aL),(aA m0 (aM))⟩,?_⟩
      refine fk 2 E (kc 13 rfl b) rfl fun a E=>bP<|?_
      clear hI
      exact aC<|⟨_,_,E.to rfl,H,(Y1 f),hm⟩
    ·clear E H hm
     rintro a w ⟨q,j,E,H,p,hm⟩
     unfold kO at hm
     refine wif E hm rfl (fun hm=>?_) fun hm=>?_
     ·refine sq<|pr 1 E rfl fun a E=>nt<|wp_ret<|bW<|aP<|aP<|bW<|aP<|?_
      refine aY E rfl rfl<|?_
      cases hm
      exact ⟨rfl,H.reads p⟩
     ·exact wp_skip<|bZ<|aC<|wp_region_lit<|pr 2 E rfl fun a E=>nt<|⟨e,Nat.lt_succ_self e,_,_,E.to rfl,H,p,hm⟩
   ·refine wp_exit<|bG<|bG<|dN<|aC<|sq<|pr 1 E rfl fun a E=>nt<|wp_ret<|?_
    refine aY E rfl rfl<|?_
    cases hm
    exact ⟨rfl,H.reads f⟩

def rG(x1:Int)(b:Int)(x3:Int):Option Bool:=
  if (decide (x1 ≥ b))=true then (some (decide (x1 ≤ x3))) else (some (false))
theorem F8{x1 c x3:Int}(H:Sep w (Fo) rs){r:Bool}(hm:rG x1 c x3=some r) :
    Calls Tryz.prog 52 [.int .i64 x1,.int .i64 c,.int .i64 x3].toArray w (Ret fun v w'=>.bool r=v∧Sep w' (Fo) (rs)):=by
 unfold rG at hm
 refine ent Tryz.func52 rfl Tryz.ntmps52 rfl rfl fun a E=>sq<|pr 1 E rfl fun a E=>nx<|pr 4 E rfl fun a E=>cs hm (fun b hm=>?_) fun b hm=>?_
 ·refine pk 5 E (kc 10 rfl b) rfl fun a E=>nt<|wp_ret<|aY E rfl rfl<|?_
  cases hm
  exact ⟨rfl,H.reads Y0⟩
 ·refine pk 5 E (kc 10 rfl b) rfl fun a E=>nt<|wp_ret<|aY E rfl rfl<|?_
  cases hm
  exact ⟨rfl,H.reads Y0⟩

def tP(d:ByteArray)(e:ByteArray)(x3:Int)(f:Int)(g:Int):Option Bool:=
  (eG d).bind fun i=>if i=true then (if (decide ((e.size:Int) ≤ 256))=true then ((rG x3 f 281474976710656).bind fun b=>if b=true then ((rG g 0 1099511627776).bind fun c=>some (c)) else (some (false))) else (some (false))) else (some (false))
theorem V6{i j:ByteArray}{x3 k l:Int}(H:Sep w (Fo) rs){r:Bool}(hm:tP i j x3 k l=some r) :
    Calls Tryz.prog 48 [.string i,.string j,.int .i64 x3,.int .i64 k,.int .i64 l].toArray w (Ret fun v w'=>.bool r=v∧Sep w' (Fo) (rs)):=by
 unfold tP at hm
 refine ent Tryz.func48 rfl Tryz.ntmps48 rfl rfl fun a E=>sq<|pr 1 E rfl fun a E=>nx<|pr 1 E rfl fun a E=>bd hm fun p m hm=>xk E rfl rfl rfl rfl rfl y7 (hZ H m) fun w H a E=>pr 1 E rfl fun a E=>cs hm (fun e hm=>?_) fun e hm=>?_
 ·refine pk 5 E (kc 13 rfl e) rfl fun a E=>cs hm (fun c hm=>?_) fun c hm=>?_
  ·refine pk 2 E (kc 18 rfl c) rfl fun a E=>bd hm fun n f hm=>aW E (ws' (d:=18) E rfl rfl rfl rfl c) rfl rfl (cB E rfl rfl (Va _)) (F8 H f)<|?_
   rintro _ w ⟨rfl,H⟩ a E
   refine pk 2 E (kc 18 rfl c) rfl fun a E=>cs hm (fun b hm=>?_) fun b hm=>?_
   ·refine pk 1 E (kc 23 rfl b) rfl fun a E=>bd hm fun o g hm=>aW E (ws' (d:=23) E rfl rfl rfl rfl b) rfl rfl (cB E rfl rfl (Va _)) (F8 H g)<|?_
    rintro _ w ⟨rfl,H⟩ a E
    refine pk 2 E (kc 23 rfl b) rfl fun a E=>nt<|wp_ret<|aY E rfl rfl<|?_
    cases hm
    exact ⟨rfl,H.reads Y0⟩
   ·refine pk 4 E (kc 23 rfl b) rfl fun a E=>nt<|wp_ret<|aY E rfl rfl<|?_
    cases hm
    exact ⟨rfl,H.reads Y0⟩
  ·refine pk 9 E (kc 18 rfl c) rfl fun a E=>nt<|wp_ret<|aY E rfl rfl<|?_
   cases hm
   exact ⟨rfl,H.reads Y0⟩
 ·refine pk 14 E (kc 13 rfl e) rfl fun a E=>nt<|wp_ret<|aY E rfl rfl<|?_
  cases hm
  exact ⟨rfl,H.reads Y0⟩

def vE(x1:aF):Option Bool:=
  if (x1.Turn != 0)=true then (some (true)) else ((tP x1.Path x1.Data x1.Version 0 x1.Owner).bind fun b=>some (!b))
theorem Gt{x1:aF}(H:Sep w (Fo) rs){r:Bool}(hm:vE x1=some r) :
    Calls Tryz.prog 47 [.agg (kM x1).toArray].toArray w (Ret fun v w'=>.bool r=v∧Sep w' (Fo) (rs)):=by
 unfold vE at hm
 refine ent Tryz.func47 rfl Tryz.ntmps47 rfl rfl fun a E=>sq<|bS E H (wn rfl) rfl rfl rfl rfl rfl fun e w a H E=>pr 1 E rfl fun a E=>nx<|pr 1 E rfl fun a E=>lb E H 0 rfl rfl rfl rfl rfl rfl rfl U2 rfl fun a E=>pr 2 E rfl fun a E=>cs hm (fun b hm=>?_) fun b hm=>?_
 ·refine pk 12 E (kc 6 rfl b) rfl fun a E=>nt<|wp_ret<|aY E rfl rfl<|have H:=H.drop 0;?_
  cases hm
  exact ⟨rfl,H.reads Y0⟩
 ·refine pk 1 E (kc 6 rfl b) rfl fun a E=>aQ E (ws' (d:=6) E rfl rfl rfl rfl b) rfl rfl (cD (i:=0) E H rfl rfl rfl rfl U9 rfl) fun a E=>pk 1 E (kc 6 rfl b) rfl fun a E=>aQ E (ws' (d:=6) E rfl rfl rfl rfl b) rfl rfl (cD (i:=0) E H rfl rfl rfl rfl U9 rfl) fun a E=>pk 1 E (kc 6 rfl b) rfl fun a E=>aQ E (ws' (d:=6) E rfl rfl rfl rfl b) rfl rfl (cD (i:=0) E H rfl rfl rfl rfl U2 rfl) fun a E=>pk 1 E (kc 6 rfl b) rfl fun a E=>aQ E (ws' (d:=6) E rfl rfl rfl rfl b) rfl rfl (cD (i:=0) E H rfl rfl rfl rfl U2 rfl) fun a E=>bd hm fun f c hm=>?_
  refine aW E (ws' (d:=6) E rfl rfl rfl rfl b) rfl rfl (cB E rfl rfl (BJ _)) (V6 H c)<|?_
  rintro _ w ⟨rfl,H⟩ a E
  refine pk 3 E (kc 6 rfl b) rfl fun a E=>nt<|wp_ret<|aY E rfl rfl<|have H:=H.drop 0;?_
  cases hm
  exact ⟨rfl,H.reads Y0⟩

def dO(c:List aF):Nat→Int→Option Int
  | 0,_=>none
  | e+1,b=>
    if (decide (b < (c.length:Int)))=true then ((idx c b).bind fun f=>(vE f).bind fun d=>if d=true then (some (b)) else (dO c e (IntKind.i64.wrap (b+1)))) else (some ((-1)))
def iA(b:List aF):Option Int:=
  dO b (((b.length:Int) - 0:Int).toNat+1) 0
theorem yQ{g:Value}{d:List aF}(H:Sep w (Fo) rs)(f:rSl aE g d ∈ rs){r:Int}(hm:iA d=some r) :
    Calls Tryz.prog 105 [g,.func (.func 47) #[] #[]].toArray w (Ret fun v w'=>.int .i64 r=v∧Sep w' (Fo) (rs)):=by
 unfold iA at hm
 refine ent Tryz.func105 rfl Tryz.ntmps105 rfl rfl fun a E=>sq<|pr 1 E rfl fun a E=>nt<|wp_seq<|sq<|pr 1 E rfl fun a E=>sv E rfl rfl rfl (cV E H rfl rfl f U22) fun a E=>pr 1 E rfl fun a E=>?_
 refine nt<|wp_block<|bX (fun c a w=>∃ i e,Env 19 a [(0,g),(1,.func (.func 47) #[] #[]),(7,.int .i64 (d.length:Int)),(8,.int .i64 i)]∧Sep w (Fo) e∧(∀ r,r ∈ rs→r ∈ e)∧dO d c i=some r) (((d.length:Int) - 0:Int).toNat+1) ?_ ?_
 ·exact ⟨_,_,E.to rfl,H,Y0,hm⟩
 ·clear E H hm
  rintro c a w ⟨i,e,E,H,b,hm⟩
  cases c with
  | zero=>exact (bU hm rfl).elim
  | succ c=>
   unfold dO at hm
   refine sq<|pr 1 E rfl fun a E=>nt<|wp_seq<|wif E hm rfl (fun hm=>?_) fun hm=>?_
   ·refine wp_skip<|aC<|wp_seq<|wp_block<|sq<|pr 2 E rfl fun a E=>nx<|pr 3 E rfl fun a E=>bd hm fun m k hm=>?_
    refine dR E H (wn rfl) rfl rfl rfl rfl rfl (b _ f) U22 iZ k fun q9 a H E=>ldf cO E H rfl rfl rfl rfl rfl m0 U95 rfl iZ fun a E=>bd hm fun l j hm=>aW E (wn rfl) rfl rfl (bR E rfl rfl rfl (KI _)) (Gt H j)<|?_
    rintro _ w ⟨rfl,H⟩ a E
    refine nt<|wif E hm rfl (fun hm=>?_) fun hm=>?_
    ·refine sq<|pr 2 E rfl fun a E=>nt<|wp_ret<|bW<|aP<|aP<|bW<|aP<|?_
     refine aY E rfl rfl<|?_
     cases hm
     exact ⟨rfl,H.reads (Y1 b)⟩
    ·exact wp_skip<|bZ<|aC<|wp_region_lit<|pr 2 E rfl fun a E=>nt<|⟨c,Nat.lt_succ_self c,_,_,E.to rfl,H,(Y1 b),hm⟩
   ·refine wp_exit<|bG<|bG<|dN<|aC<|sq<|pr 1 E rfl fun a E=>nt<|wp_ret<|?_
    refine aY E rfl rfl<|?_
    cases hm
    exact ⟨rfl,H.reads b⟩

def gE(b:List aF):Option Bool:=
  (iA b).bind fun c=>some (decide (c ≥ 0))
theorem wY{b:Value}{c:List aF}(H:Sep w (Fo) rs)(d:rSl aE b c ∈ rs){r:Bool}(hm:gE c=some r) :
    Calls Tryz.prog 46 [b,.func (.func 47) #[] #[]].toArray w (Ret fun v w'=>.bool r=v∧Sep w' (Fo) (rs)):=by
 unfold gE at hm
 refine ent Tryz.func46 rfl Tryz.ntmps46 rfl rfl fun a E=>sq<|pr 1 E rfl fun a E=>nx<|pr 2 E rfl fun a E=>bd hm fun f e hm=>xk E rfl rfl rfl rfl rfl Pc (yQ H d e) fun w H a E=>pr 2 E rfl fun a E=>nt<|?_
 refine wp_ret<|aY E rfl rfl<|?_
 cases hm
 exact ⟨rfl,H.reads Y0⟩

def vF(x1:aJ):Option Bool:=
  (eG x1.Dir).bind fun b=>if (!b)=true then (some (true)) else ((rG x1.Next 1 10000).bind fun c=>some (!c))
theorem Gu{x1:aJ}(H:Sep w (Fo) rs){r:Bool}(hm:vF x1=some r) :
    Calls Tryz.prog 50 [.agg #[.string x1.Dir,.int .i64 x1.Next]].toArray w (Ret fun v w'=>.bool r=v∧Sep w' (Fo) (rs)):=by
 unfold vF at hm
 refine ent Tryz.func50 rfl Tryz.ntmps50 rfl rfl fun a E=>sq<|bS E H (wn rfl) rfl rfl rfl rfl rfl fun f w a H E=>pr 1 E rfl fun a E=>nx<|pr 1 E rfl fun a E=>lb E H 0 rfl rfl rfl rfl rfl rfl rfl U9 rfl fun a E=>bd hm fun g c hm=>xk E rfl rfl rfl rfl rfl y7 (hZ H c) fun w H a E=>?_
 refine pr 2 E rfl fun a E=>cs hm (fun b hm=>?_) fun b hm=>?_
 ·refine pk 6 E (kc 7 rfl b) rfl fun a E=>nt<|wp_ret<|aY E rfl rfl<|have H:=H.drop 0;?_
  cases hm
  exact ⟨rfl,H.reads Y0⟩
 ·refine pk 1 E (kc 7 rfl b) rfl fun a E=>aQ E (ws' (d:=7) E rfl rfl rfl rfl b) rfl rfl (cD (i:=0) E H rfl rfl rfl rfl U2 rfl) fun a E=>bd hm fun j e hm=>aW E (ws' (d:=7) E rfl rfl rfl rfl b) rfl rfl (cB E rfl rfl (Va _)) (F8 H e)<|?_
  rintro _ w ⟨rfl,H⟩ a E
  refine pk 3 E (kc 7 rfl b) rfl fun a E=>nt<|wp_ret<|aY E rfl rfl<|have H:=H.drop 0;?_
  cases hm
  exact ⟨rfl,H.reads Y0⟩

def dP(c:List aJ):Nat→Int→Option Int
  | 0,_=>none
  | e+1,b=>
    if (decide (b < (c.length:Int)))=true then ((idx c b).bind fun f=>(vF f).bind fun d=>if d=true then (some (b)) else (dP c e (IntKind.i64.wrap (b+1)))) else (some ((-1)))
def iB(b:List aJ):Option Int:=
  dP b (((b.length:Int) - 0:Int).toNat+1) 0
theorem yR{g:Value}{d:List aJ}(H:Sep w (Fo) rs)(f:rSl aI g d ∈ rs){r:Int}(hm:iB d=some r) :
    Calls Tryz.prog 106 [g,.func (.func 50) #[] #[]].toArray w (Ret fun v w'=>.int .i64 r=v∧Sep w' (Fo) (rs)):=by
 unfold iB at hm
 refine ent Tryz.func106 rfl Tryz.ntmps106 rfl rfl fun a E=>sq<|pr 1 E rfl fun a E=>nt<|wp_seq<|sq<|pr 1 E rfl fun a E=>sv E rfl rfl rfl (cV E H rfl rfl f U23) fun a E=>pr 1 E rfl fun a E=>?_
 refine nt<|wp_block<|bX (fun c a w=>∃ i e,Env 19 a [(0,g),(1,.func (.func 50) #[] #[]),(7,.int .i64 (d.length:Int)),(8,.int .i64 i)]∧Sep w (Fo) e∧(∀ r,r ∈ rs→r ∈ e)∧dP d c i=some r) (((d.length:Int) - 0:Int).toNat+1) ?_ ?_
 ·exact ⟨_,_,E.to rfl,H,Y0,hm⟩
 ·clear E H hm
  rintro c a w ⟨i,e,E,H,b,hm⟩
  cases c with
  | zero=>exact (bU hm rfl).elim
  | succ c=>
   unfold dP at hm
   refine sq<|pr 1 E rfl fun a E=>nt<|wp_seq<|wif E hm rfl (fun hm=>?_) fun hm=>?_
   ·refine wp_skip<|aC<|wp_seq<|wp_block<|sq<|pr 2 E rfl fun a E=>nx<|pr 3 E rfl fun a E=>bd hm fun m k hm=>?_
    refine dR E H (wn rfl) rfl rfl rfl rfl rfl (b _ f) U23 oG k fun q9 a H E=>ldf dU E H rfl rfl rfl rfl rfl m0 U77 rfl oG fun a E=>bd hm fun l j hm=>aW E (wn rfl) rfl rfl (bR E rfl rfl rfl (KK _)) (Gu H j)<|?_
    rintro _ w ⟨rfl,H⟩ a E
    refine nt<|wif E hm rfl (fun hm=>?_) fun hm=>?_
    ·refine sq<|pr 2 E rfl fun a E=>nt<|wp_ret<|bW<|aP<|aP<|bW<|aP<|?_
     refine aY E rfl rfl<|?_
     cases hm
     exact ⟨rfl,H.reads (Y1 b)⟩
    ·exact wp_skip<|bZ<|aC<|wp_region_lit<|pr 2 E rfl fun a E=>nt<|⟨c,Nat.lt_succ_self c,_,_,E.to rfl,H,(Y1 b),hm⟩
   ·refine wp_exit<|bG<|bG<|dN<|aC<|sq<|pr 1 E rfl fun a E=>nt<|wp_ret<|?_
    refine aY E rfl rfl<|?_
    cases hm
    exact ⟨rfl,H.reads b⟩

def gF(b:List aJ):Option Bool:=
  (iB b).bind fun c=>some (decide (c ≥ 0))
theorem wZ{b:Value}{c:List aJ}(H:Sep w (Fo) rs)(d:rSl aI b c ∈ rs){r:Bool}(hm:gF c=some r) :
    Calls Tryz.prog 49 [b,.func (.func 50) #[] #[]].toArray w (Ret fun v w'=>.bool r=v∧Sep w' (Fo) (rs)):=by
 unfold gF at hm
 refine ent Tryz.func49 rfl Tryz.ntmps49 rfl rfl fun a E=>sq<|pr 1 E rfl fun a E=>nx<|pr 2 E rfl fun a E=>bd hm fun f e hm=>xk E rfl rfl rfl rfl rfl GJ (yR H d e) fun w H a E=>pr 2 E rfl fun a E=>nt<|?_
 refine wp_ret<|aY E rfl rfl<|?_
 cases hm
 exact ⟨rfl,H.reads Y0⟩

def mZ(x1:aR):Option Bool:=
  (gE x1.Nodes).bind fun d=>(gF x1.Turns).bind fun e=>if (!d)=true then (if (!e)=true then ((qB x1.Nodes).bind fun b=>if b=true then ((qC x1.Turns).bind fun c=>some (c)) else (some (false))) else (some (false))) else (some (false))
theorem y9{x1:aR}{m n:Value}(H:Sep w (Fo) rs)(f:rSl aE m x1.Nodes ∈ rs)(g:rSl aI n x1.Turns ∈ rs){r:Bool}(hm:mZ x1=some r) :
    Calls Tryz.prog 20 [.agg #[m,n]].toArray w (Ret fun v w'=>.bool r=v∧Sep w' (Fo) (rs)):=by
 unfold mZ at hm
 refine ent Tryz.func20 rfl Tryz.ntmps20 rfl rfl fun a E=>sq<|bS E H (wn rfl) rfl rfl rfl rfl rfl fun s w a H E=>pr 1 E rfl fun a E=>nx<|pr 1 E rfl fun a E=>lb E H 0 rfl rfl rfl rfl rfl rfl rfl U22 rfl fun a E=>bd hm fun t o hm=>xk E rfl rfl rfl rfl rfl BD (wY H f o) fun w H a E=>?_
 refine pr 1 E rfl fun a E=>nx<|pr 1 E rfl fun a E=>lb E H 0 rfl rfl rfl rfl rfl rfl rfl U23 rfl fun a E=>bd hm fun u j hm=>xk E rfl rfl rfl rfl rfl KJ (wZ H g j) fun w H a E=>pr 1 E rfl fun a E=>nx<|pr 3 E rfl fun a E=>cs hm (fun e hm=>?_) fun e hm=>?_
 ·refine pk 4 E (kc 13 rfl e) rfl fun a E=>cs hm (fun b hm=>?_) fun b hm=>?_
  ·refine pk 1 E (kc 17 rfl b) rfl fun a E=>aQ E (ws' (d:=17) E rfl rfl rfl rfl b) rfl rfl (cD (i:=0) E H rfl rfl rfl rfl U22 rfl) fun a E=>bd hm fun p k hm=>aW E (ws' (d:=17) E rfl rfl rfl rfl b) rfl rfl (cB E rfl rfl (KL _)) (O1 H f k)<|?_
   rintro _ w ⟨rfl,H⟩ a E
   refine pk 2 E (kc 17 rfl b) rfl fun a E=>cs hm (fun c hm=>?_) fun c hm=>?_
   ·refine pk 1 E (kc 22 rfl c) rfl fun a E=>aQ E (ws' (d:=22) E rfl rfl rfl rfl c) rfl rfl (cD (i:=0) E H rfl rfl rfl rfl U23 rfl) fun a E=>bd hm fun q l hm=>aW E (ws' (d:=22) E rfl rfl rfl rfl c) rfl rfl (cB E rfl rfl (KM _)) (O2 H g l)<|?_
    rintro _ w ⟨rfl,H⟩ a E
    refine pk 2 E (kc 22 rfl c) rfl fun a E=>nt<|wp_ret<|aY E rfl rfl<|have H:=H.drop 0;?_
    cases hm
    exact ⟨rfl,H.reads Y0⟩
   ·refine pk 5 E (kc 22 rfl c) rfl fun a E=>nt<|wp_ret<|aY E rfl rfl<|have H:=H.drop 0;?_
    cases hm
    exact ⟨rfl,H.reads Y0⟩
  ·refine pk 10 E (kc 17 rfl b) rfl fun a E=>nt<|wp_ret<|aY E rfl rfl<|have H:=H.drop 0;?_
   cases hm
   exact ⟨rfl,H.reads Y0⟩
 ·refine pk 14 E (kc 13 rfl e) rfl fun a E=>nt<|wp_ret<|aY E rfl rfl<|have H:=H.drop 0;?_
  cases hm
  exact ⟨rfl,H.reads Y0⟩

def zL(x1:aR)(c:List aG)(b:Bool):Option (Option ((List aF)×(List aJ)×(List aG))):=
  if b=true then (some none) else (some (some (x1.Nodes,x1.Turns,c)))
def D7(x1:aR)(b:List aG):Option (Option ((List aF)×(List aJ)×(List aG))):=
  (mZ x1).bind fun c=>if (!c)=true then (zL x1 b true) else ((nE b).bind fun d=>zL x1 b (!d))
theorem Co{x1:aR}{n o x:Value}{u:List aG}(H:Sep w (Fo) rs)(p:rSl aE n x1.Nodes ∈ rs)(q:rSl aI o x1.Turns ∈ rs)(s:rSl aT x u ∈ rs){r:Option ((List aF)×(List aJ)×(List aG))}(hm:D7 x1 u=some r) :
    Calls Tryz.prog 7 [.agg #[n,o],x].toArray w (Ret fun v w'=>(r=none∧.pointer none=v∧Sep w' (Fo) rs)∨∃ y,r=some y∧∃ f B C D j l m,pt f 0=v∧Sep w' (Blk f 75 [B,C,D,.slice none 0 0,.slice none 0 0,.slice none 0 0,.map (some j),.map (some l),.map (some m)]::cG Tryz.prog 2 (kyI .i64) bJ true j []::cG Tryz.prog 2 (kyI .i64) dB true l []::cG Tryz.prog 2 (kyI .i64) bJ true m []::Fo) (rSl aE B y.1::rSl aI C y.2.1::rSl aT D y.2.2::rs)):=by
 unfold D7 at hm
 refine ent Tryz.func7 rfl Tryz.ntmps7 rfl rfl fun a E=>sq<|bS E H (wn rfl) rfl rfl rfl rfl rfl fun F w a H E=>pr 1 E rfl fun a E=>nt<|wp_seq<|aV (fun a w=>∃ t e,Env 20 a [(1,x),(2,pt F 0),(12,.bool t)]∧Sep w (Blk F 25 [n,o]::Fo) e∧(∀ r,r ∈ rs→r ∈ e)∧zL x1 u t=some r) ?_ ?_
 ·refine wp_region_lit<|sv E rfl rfl rfl (cC (i:=0) (us:=[n,o]) E H rfl rfl rfl rfl U25 rfl dJ) fun a E=>bd hm fun O z hm=>xk E rfl rfl rfl rfl rfl Pb (y9 H p q z) fun w H a E=>pr 2 E rfl fun a E=>cs hm (fun c hm=>?_) fun c hm=>?_
  ·exact pk 4 E (kc 8 rfl c) rfl fun a E=>nt<|⟨_,_,E.to rfl,H,Y0,hm⟩
  ·refine pk 1 E (kc 8 rfl c) rfl fun a E=>bd hm fun P A hm=>aW E (ws' (d:=8) E rfl rfl rfl rfl c) rfl rfl (cB E rfl rfl (Ku _)) (wX H s A)<|?_
   rintro _ w ⟨rfl,H⟩ a E
   exact pk 2 E (kc 8 rfl c) rfl fun a E=>nt<|⟨_,_,E.to rfl,H,Y0,hm⟩
 ·clear E H hm
  rintro a w ⟨t,e,E,H,b,hm⟩
  unfold zL at hm
  refine wif E hm rfl (fun hm=>?_) fun hm=>?_
  ·refine sq<|pr 1 E rfl fun a E=>nt<|wp_ret<|aP<|aY E rfl rfl<|have H:=H.drop 0;?_
   cases hm
   exact .inl ⟨rfl,rfl,H.reads (b)⟩
  ·refine wp_skip<|aC<|sq<|sv E rfl rfl rfl (cC (i:=0) (us:=[n,o]) E H rfl rfl rfl rfl U25 rfl dJ) fun a E=>pr 1 E rfl fun a E=>xF (k:=2) (K:=(kyI .i64)) (d:=bJ) (g:=true) E H (wn rfl) rfl rfl rfl fun G w a H E=>xF (k:=2) (K:=(kyI .i64)) (d:=dB) (g:=true) E H (wn rfl) rfl rfl rfl fun I w a H E=>xF (k:=2) (K:=(kyI .i64)) (d:=bJ) (g:=true) E H (wn rfl) rfl rfl rfl fun J w a H E=>?_
   obtain ⟨q16,L,rfl⟩:=H.slform (b _ p)
   obtain ⟨q18,M,rfl⟩:=H.slform (b _ q)
   obtain ⟨q20,N,rfl⟩:=H.slform (b _ s)
   refine sv E rfl rfl rfl (cL E rfl (E.evs rfl) (v:=.agg #[(.slice q16 x1.Nodes.length L),(.slice q18 x1.Turns.length M),(.slice q20 u.length N),.slice none 0 0,.slice none 0 0,.slice none 0 0,.map (some G),.map (some I),.map (some J)]) (by kernel_rfl)) fun a E=>bS E H (wn rfl) rfl rfl rfl rfl rfl fun Q w a H E=>pr 1 E rfl fun a E=>nt<|wp_ret<|aY E rfl rfl<|have H:=H.drop 4;have H:=H.frs [1,2,3,3] rfl;?_
   cases hm
   exact .inr ⟨_,rfl,X7 ⟨rfl,H.reads (aA (b _ p) (aA (b _ q) (aA (b _ s) (b))))⟩⟩

def yS:Option (Option ((List aF)×(List aJ)×(List aG))):=
  (D7 (⟨([(⟨(ByteArray.mk #[47]),(ByteArray.mk #[]),0,0,0⟩:aF)]:List aF),[]⟩:aR) ([(⟨(ByteArray.mk #[47]),1,1⟩:aG)]:List aG)).bind fun c=>Db c (some none) fun b=>some (some (b.1,b.2.1,b.2.2))
theorem E6(H:Sep w (Fo) rs){r:Option ((List aF)×(List aJ)×(List aG))}(hm:yS=some r) :
    Calls Tryz.prog 15 [].toArray w (Ret fun v w'=>(r=none∧.pointer none=v∧Sep w' (Fo) rs)∨∃ y,r=some y∧∃ b j k l c f g,pt b 0=v∧Sep w' (Blk b 75 [j,k,l,.slice none 0 0,.slice none 0 0,.slice none 0 0,.map (some c),.map (some f),.map (some g)]::cG Tryz.prog 2 (kyI .i64) bJ true c []::cG Tryz.prog 2 (kyI .i64) dB true f []::cG Tryz.prog 2 (kyI .i64) bJ true g []::Fo) (rSl aE j y.1::rSl aI k y.2.1::rSl aT l y.2.2::rs)):=by
 unfold yS at hm
 refine ent Tryz.func15 rfl Tryz.ntmps15 rfl rfl fun a E=>sq<|pr 1 E rfl fun a E=>nx<|sv E rfl rfl rfl (cL E rfl (E.evs rfl) (v:=.agg #[.string (ByteArray.mk #[47]),.string (ByteArray.mk #[]),.int .i64 0,.int .i64 0,.int .i64 0]) (by kernel_rfl)) fun a E=>hJ (e:=95) (d:=aE) (cs:=[.string (ByteArray.mk #[47]),.string (ByteArray.mk #[]),.int .i64 0,.int .i64 0,.int .i64 0]) (xs:=[(⟨(ByteArray.mk #[47]),(ByteArray.mk #[]),0,0,0⟩:aF)]) E H (wn rfl) rfl rfl rfl (E.evs rfl) (by kernel_rfl) rfl rfl (fun ok hr=>(Rows.single (d:=aE) (cs:=[.string (ByteArray.mk #[47]),.string (ByteArray.mk #[]),.int .i64 0,.int .i64 0,.int .i64 0]) (x:=(⟨(ByteArray.mk #[47]),(ByteArray.mk #[]),0,0,0⟩:aF)) wU)) fun t w a H E=>?_
 obtain ⟨q2,x3,rfl⟩:=H.rowform (i:=0) rfl
 refine sv E rfl rfl rfl (cL E rfl (E.evs rfl) (v:=.agg #[(.slice q2 ([(⟨(ByteArray.mk #[47]),(ByteArray.mk #[]),0,0,0⟩:aF)]:List aF).length x3),.slice none 0 0]) (by kernel_rfl)) fun a E=>sv E rfl rfl rfl (cL E rfl (E.evs rfl) (v:=.agg #[.string (ByteArray.mk #[47]),.int .i64 1,.int .i64 1]) (by kernel_rfl)) fun a E=>hJ (e:=31) (d:=aT) (cs:=[.string (ByteArray.mk #[47]),.int .i64 1,.int .i64 1]) (xs:=[(⟨(ByteArray.mk #[47]),1,1⟩:aG)]) E H (wn rfl) rfl rfl rfl (E.evs rfl) (by kernel_rfl) rfl rfl (fun ok hr=>(Rows.single (d:=aT) (cs:=[.string (ByteArray.mk #[47]),.int .i64 1,.int .i64 1]) (x:=(⟨(ByteArray.mk #[47]),1,1⟩:aG)) uY)) fun u w a H E=>have H:=H.thaw (i:=1) rfl;have H:=H.nilSl aI;have H:=H.thaw (i:=0) rfl;bd hm fun z m hm=>cF E rfl rfl rfl rfl rfl cf7 (Co (x1:=(⟨([(⟨(ByteArray.mk #[47]),(ByteArray.mk #[]),0,0,0⟩:aF)]:List aF),[]⟩:aR)) H mm2 mm1 m0 m)<|?_
 rintro _ w (⟨rfl,rfl,H⟩ | ⟨n,rfl,A,B,C,o,p,q,s,rfl,H⟩) a E
 ·replace hm:=Et hm
  refine pr 1 E rfl fun a E=>nt<|wp_ret<|aY E rfl rfl<|?_
  cases hm
  exact .inl ⟨rfl,rfl,H.reads (fun r hr=>(t3 hr))⟩
 ·replace hm:=Eu hm
  refine pr 1 E rfl fun a E=>nt<|wp_ret<|aY E rfl rfl<|?_
  cases hm
  exact .inr ⟨_,rfl,X7 ⟨rfl,H.reads (aA m0 (aA mm1 (aA mm2 (fun r hr=>(t6 hr)))))⟩⟩

def tW(b:ByteArray):Option Bool:=
  if (sEq b (ByteArray.mk #[]))=true then (some (true)) else ((eG b).bind fun c=>some (c))
theorem M2{c:ByteArray}(H:Sep w (Fo) rs){r:Bool}(hm:tW c=some r) :
    Calls Tryz.prog 95 [.string c].toArray w (Ret fun v w'=>.bool r=v∧Sep w' (Fo) (rs)):=by
 unfold tW at hm
 refine ent Tryz.func95 rfl Tryz.ntmps95 rfl rfl fun a E=>sq<|pr 1 E rfl fun a E=>nx<|pr 3 E rfl fun a E=>cs hm (fun b hm=>?_) fun b hm=>?_
 ·refine pk 4 E (kc 5 rfl b) rfl fun a E=>nt<|wp_ret<|aY E rfl rfl<|?_
  cases hm
  exact ⟨rfl,H.reads Y0⟩
 ·refine pk 1 E (kc 5 rfl b) rfl fun a E=>bd hm fun f e hm=>aW E (ws' (d:=5) E rfl rfl rfl rfl b) rfl rfl (cB E rfl rfl (y7 _)) (hZ H e)<|?_
  rintro _ w ⟨rfl,H⟩ a E
  refine pk 2 E (kc 5 rfl b) rfl fun a E=>nt<|wp_ret<|aY E rfl rfl<|?_
  cases hm
  exact ⟨rfl,H.reads Y0⟩

def mI(rec_1:Int→Option Bool)(c:Int)(b:Bool):Option Bool:=
  if b=true then (some (false)) else (rec_1 (IntKind.i64.wrap (c+1)))
def iN(b:List Int):Nat→Int→Option Bool
  | 0,_=>none
  | d+1,c=>
    if (decide (c < (b.length:Int)))=true then ((idx b c).bind fun e=>if (decide (e < 0))=true then (mI (iN b d) c true) else (mI (iN b d) c (decide (e > 281474976710656)))) else (some (true))
def sP(b:List Int):Option Bool:=
  iN b (((b.length:Int) - 0:Int).toNat+1) 0
theorem Dw{l:Value}{b:List Int}(H:Sep w (Fo) rs)(m:rSl (kI .i64) l b ∈ rs){r:Bool}(hm:sP b=some r) :
    Calls Tryz.prog 94 [l].toArray w (Ret fun v w'=>.bool r=v∧Sep w' (Fo) (rs)):=by
 unfold sP at hm
 refine ent Tryz.func94 rfl Tryz.ntmps94 rfl rfl fun a E=>sq<|pr 1 E rfl fun a E=>nt<|wp_seq<|sq<|pr 1 E rfl fun a E=>sv E rfl rfl rfl (cV E H rfl rfl m U46) fun a E=>pr 1 E rfl fun a E=>?_
 refine nt<|wp_block<|bX (fun c a w=>∃ g i,Env 18 a [(5,l),(6,.int .i64 (b.length:Int)),(7,.int .i64 g)]∧Sep w (Fo) i∧(∀ r,r ∈ rs→r ∈ i)∧iN b c g=some r) (((b.length:Int) - 0:Int).toNat+1) ?_ ?_
 ·exact ⟨_,_,E.to rfl,H,Y0,hm⟩
 ·clear E H hm
  rintro c a w ⟨g,i,E,H,f,hm⟩
  cases c with
  | zero=>exact (bU hm rfl).elim
  | succ c=>
   unfold iN at hm
   refine sq<|pr 1 E rfl fun a E=>nt<|wp_seq<|wif E hm rfl (fun hm=>?_) fun hm=>?_
   ·refine wp_skip<|aC<|wp_seq<|wp_block<|sq<|bd hm fun o n hm=>dR E H (wn rfl) rfl rfl rfl rfl rfl (f _ m) U46 sz2 n fun q9 a H E=>sv E rfl rfl rfl (qT E H rfl rfl m0 U2 rfl) fun a E=>pr 1 E rfl fun a E=>?_
    refine nt<|aV (fun a w=>∃ j d,Env 18 a [(5,l),(6,.int .i64 (b.length:Int)),(7,.int .i64 g),(16,.bool j)]∧Sep w (Fo) d∧(∀ r,r ∈ rs→r ∈ d)∧mI (iN b c) g j=some r) ?_ ?_
    ·refine wp_region_lit<|pr 3 E rfl fun a E=>cs hm (fun e hm=>?_) fun e hm=>?_
     ·exact pk 3 E (kc 13 rfl e) rfl fun a E=>nt<|⟨_,_,E.to rfl,H,(Y1 f),hm⟩
     ·exact pk 3 E (kc 13 rfl e) rfl fun a E=>nt<|⟨_,_,E.to rfl,H,(Y1 f),hm⟩
    ·clear E H hm
     rintro a w ⟨j,d,E,H,k,hm⟩
     unfold mI at hm
     refine wif E hm rfl (fun hm=>?_) fun hm=>?_
     ·refine sq<|pr 1 E rfl fun a E=>nt<|wp_ret<|bW<|aP<|aP<|bW<|aP<|?_
      refine aY E rfl rfl<|?_
      cases hm
      exact ⟨rfl,H.reads k⟩
     ·exact wp_skip<|bZ<|aC<|wp_region_lit<|pr 2 E rfl fun a E=>nt<|⟨c,Nat.lt_succ_self c,_,_,E.to rfl,H,k,hm⟩
   ·refine wp_exit<|bG<|bG<|dN<|aC<|sq<|pr 1 E rfl fun a E=>nt<|wp_ret<|?_
    refine aY E rfl rfl<|?_
    cases hm
    exact ⟨rfl,H.reads f⟩

def tQ(x1:bI)(b:ByteArray):Option Bool:=
  (tP x1.Path x1.Data x1.Version (-1) x1.Owner).bind fun c=>if c=true then (if (sEq x1.Dir b)=true then (if (decide (x1.Kind ≥ 1))=true then (if (decide (x1.Kind ≤ 10))=true then (if (x1.Kind != 2)=true then (some (true)) else (some (!(sEq x1.Path (ByteArray.mk #[47]))))) else (some (false))) else (some (false))) else (some (false))) else (some (false))
def tR(x1:bI)(c:ByteArray)(b:Bool):Option Bool:=
  if b=true then (tQ x1 x1.Path) else (tQ x1 c)
def zM(x1:bI):Option Bool:=
  (tV x1.Path).bind fun b=>if (x1.Kind == 4)=true then (tR x1 b true) else (if (x1.Kind == 9)=true then (tR x1 b true) else (tR x1 b (x1.Kind == 10)))
theorem Ft{x1:bI}(H:Sep w (Fo) rs){r:Bool}(hm:zM x1=some r) :
    Calls Tryz.prog 92 [.agg (cK x1).toArray].toArray w (Ret fun v w'=>.bool r=v∧Sep w' (Fo) (rs)):=by
 unfold zM at hm
 refine ent Tryz.func92 rfl Tryz.ntmps92 rfl rfl fun a E=>sq<|bS E H (wn rfl) rfl rfl rfl rfl rfl fun q w a H E=>pr 1 E rfl fun a E=>nx<|pr 1 E rfl fun a E=>lb E H 0 rfl rfl rfl rfl rfl rfl rfl U9 rfl fun a E=>bd hm fun t u hm=>xk E rfl rfl rfl rfl rfl Pg (Z8 H u) fun w H a E=>?_
 refine pr 1 E rfl fun a E=>nt<|aV (fun a w=>∃ s n,Env 57 a [(1,pt q 0),(3,.string s)]∧Sep w (Blk q 85 (cK x1)::Fo) n∧(∀ r,r ∈ rs→r ∈ n)∧tQ x1 s=some r) ?_ ?_
 ·refine aV (fun a w=>∃ o m,Env 57 a [(1,pt q 0),(3,.string t),(19,.bool o)]∧Sep w (Blk q 85 (cK x1)::Fo) m∧(∀ r,r ∈ rs→r ∈ m)∧tR x1 t o=some r) ?_ ?_
  ·refine wp_region_lit<|pr 1 E rfl fun a E=>lb E H 0 rfl rfl rfl rfl rfl rfl rfl U3 rfl fun a E=>pr 2 E rfl fun a E=>cs hm (fun c hm=>?_) fun c hm=>?_
   ·exact pk 9 E (kc 10 rfl c) rfl fun a E=>nt<|⟨_,_,E.to rfl,H,Y0,hm⟩
   ·refine pk 1 E (kc 10 rfl c) rfl fun a E=>aQ E (ws' (d:=10) E rfl rfl rfl rfl c) rfl rfl (cD (i:=0) E H rfl rfl rfl rfl U3 rfl) fun a E=>pk 3 E (kc 10 rfl c) rfl fun a E=>cs hm (fun e hm=>?_) fun e hm=>?_
    ·exact pk 4 E (kc 15 rfl e) rfl fun a E=>nt<|⟨_,_,E.to rfl,H,Y0,hm⟩
    ·exact pk 1 E (kc 15 rfl e) rfl fun a E=>aQ E (ws' (d:=15) E rfl rfl rfl rfl e) rfl rfl (cD (i:=0) E H rfl rfl rfl rfl U3 rfl) fun a E=>pk 2 E (kc 15 rfl e) rfl fun a E=>nt<|⟨_,_,E.to rfl,H,Y0,hm⟩
  ·clear E H hm
   rintro a w ⟨o,m,E,H,p,hm⟩
   unfold tR at hm
   refine wif E hm rfl (fun hm=>?_) fun hm=>?_
   ·exact wp_region_lit<|pr 1 E rfl fun a E=>lb E H 0 rfl rfl rfl rfl rfl rfl rfl U9 rfl fun a E=>pr 1 E rfl fun a E=>nt<|⟨_,_,E.to rfl,H,p,hm⟩
   ·exact wp_skip<|aC<|⟨_,_,E.to rfl,H,p,hm⟩
 ·clear E H hm
  rintro a w ⟨s,n,E,H,l,hm⟩
  unfold tQ at hm
  refine sq<|pr 1 E rfl fun a E=>lb E H 0 rfl rfl rfl rfl rfl rfl rfl U9 rfl fun a E=>pr 1 E rfl fun a E=>lb E H 0 rfl rfl rfl rfl rfl rfl rfl U9 rfl fun a E=>pr 1 E rfl fun a E=>lb E H 0 rfl rfl rfl rfl rfl rfl rfl U2 rfl fun a E=>pr 1 E rfl fun a E=>lb E H 0 rfl rfl rfl rfl rfl rfl rfl U2 rfl fun a E=>?_
  refine bd hm fun y x hm=>xk E rfl rfl rfl rfl rfl BJ (V6 H x) fun w H a E=>pr 1 E rfl fun a E=>cs hm (fun f hm=>?_) fun f hm=>?_
  ·refine pk 1 E (kc 31 rfl f) rfl fun a E=>aQ E (ws' (d:=31) E rfl rfl rfl rfl f) rfl rfl (cD (i:=0) E H rfl rfl rfl rfl U9 rfl) fun a E=>pk 4 E (kc 31 rfl f) rfl fun a E=>cs hm (fun g hm=>?_) fun g hm=>?_
   ·refine pk 1 E (kc 37 rfl g) rfl fun a E=>aQ E (ws' (d:=37) E rfl rfl rfl rfl g) rfl rfl (cD (i:=0) E H rfl rfl rfl rfl U3 rfl) fun a E=>pk 3 E (kc 37 rfl g) rfl fun a E=>cs hm (fun j hm=>?_) fun j hm=>?_
    ·refine pk 1 E (kc 42 rfl j) rfl fun a E=>aQ E (ws' (d:=42) E rfl rfl rfl rfl j) rfl rfl (cD (i:=0) E H rfl rfl rfl rfl U3 rfl) fun a E=>pk 3 E (kc 42 rfl j) rfl fun a E=>cs hm (fun b hm=>?_) fun b hm=>?_
     ·refine pk 1 E (kc 47 rfl b) rfl fun a E=>aQ E (ws' (d:=47) E rfl rfl rfl rfl b) rfl rfl (cD (i:=0) E H rfl rfl rfl rfl U3 rfl) fun a E=>pk 2 E (kc 47 rfl b) rfl fun a E=>cs hm (fun k hm=>?_) fun k hm=>?_
      ·refine pk 6 E (kc' (kc 51 rfl k) 47 rfl b) rfl fun a E=>nt<|wp_ret<|aY E rfl rfl<|have H:=H.drop 0;?_
       cases hm
       exact ⟨rfl,H.reads l⟩
      ·refine pk 1 E (kc 51 rfl k) rfl fun a E=>aQ E (ws' (d:=51) E rfl rfl rfl rfl k) rfl rfl (cD (i:=0) E H rfl rfl rfl rfl U9 rfl) fun a E=>pk 4 E (kc' (kc 51 rfl k) 47 rfl b) rfl fun a E=>nt<|wp_ret<|aY E rfl rfl<|have H:=H.drop 0;?_
       cases hm
       exact ⟨rfl,H.reads l⟩
     ·refine pk 10 E (kc 47 rfl b) rfl fun a E=>nt<|wp_ret<|aY E rfl rfl<|have H:=H.drop 0;?_
      cases hm
      exact ⟨rfl,H.reads l⟩
    ·refine pk 15 E (kc 42 rfl j) rfl fun a E=>nt<|wp_ret<|aY E rfl rfl<|have H:=H.drop 0;?_
     cases hm
     exact ⟨rfl,H.reads l⟩
   ·refine pk 20 E (kc 37 rfl g) rfl fun a E=>nt<|wp_ret<|aY E rfl rfl<|have H:=H.drop 0;?_
    cases hm
    exact ⟨rfl,H.reads l⟩
  ·refine pk 26 E (kc 31 rfl f) rfl fun a E=>nt<|wp_ret<|aY E rfl rfl<|have H:=H.drop 0;?_
   cases hm
   exact ⟨rfl,H.reads l⟩

def jM(b:ByteArray)(c:ByteArray):Option Bool:=
  if (decide ((b.size:Int) ≥ (c.size:Int)))=true then ((ck (0 ≤ (IntKind.i64.wrap ((b.size:Int) - (c.size:Int)))∧(IntKind.i64.wrap ((b.size:Int) - (c.size:Int))) ≤ b.size)).bind fun d=>some (sEq (b.extract (IntKind.i64.wrap ((b.size:Int) - (c.size:Int))).toNat b.size) c)) else (some (false))
theorem w5{c e:ByteArray}(H:Sep w (Fo) rs){r:Bool}(hm:jM c e=some r) :
    Calls Tryz.prog 287 [.string c,.string e].toArray w (Ret fun v w'=>.bool r=v∧Sep w' (Fo) (rs)):=by
 unfold jM at hm
 refine ent Tryz.func287 rfl Tryz.ntmps287 rfl rfl fun a E=>sq<|pr 1 E rfl fun a E=>nx<|pr 6 E rfl fun a E=>cs hm (fun b hm=>?_) fun b hm=>?_
 ·refine pk 6 E (kc 10 rfl b) rfl fun a E=>bk hm fun f hm=>aQ E (ws' (d:=10) E rfl rfl rfl rfl b) rfl rfl (P5 E rfl rfl rfl U9 f) fun a E=>pk 4 E (kc 10 rfl b) rfl fun a E=>nt<|wp_ret<|aY E rfl rfl<|?_
  cases hm
  exact ⟨rfl,H.reads Y0⟩
 ·refine pk 11 E (kc 10 rfl b) rfl fun a E=>nt<|wp_ret<|aY E rfl rfl<|?_
  cases hm
  exact ⟨rfl,H.reads Y0⟩

def iX(b:ByteArray)(c:ByteArray):Option ByteArray:=
  (jM b c).bind fun d=>if d=true then ((ck (0 ≤ (IntKind.i64.wrap ((b.size:Int) - (c.size:Int)))∧(IntKind.i64.wrap ((b.size:Int) - (c.size:Int))) ≤ b.size)).bind fun e=>some (b.extract 0 (IntKind.i64.wrap ((b.size:Int) - (c.size:Int))).toNat)) else (some (b))
theorem r4{b c:ByteArray}(H:Sep w (Fo) rs){r:ByteArray}(hm:iX b c=some r) :
    Calls Tryz.prog 237 [.string b,.string c].toArray w (Ret fun v w'=>.string r=v∧Sep w' (Fo) (rs)):=by
 unfold iX at hm
 refine ent Tryz.func237 rfl Tryz.ntmps237 rfl rfl fun a E=>sq<|pr 1 E rfl fun a E=>nt<|wp_seq<|sq<|pr 2 E rfl fun a E=>bd hm fun f d hm=>xk E rfl rfl rfl rfl rfl GV (w5 H d) fun w H a E=>?_
 refine nt<|wif E hm rfl (fun hm=>?_) fun hm=>?_
 ·refine sq<|pr 6 E rfl fun a E=>bk hm fun e hm=>sv E rfl rfl rfl (X1 E rfl rfl rfl U9 e) fun a E=>pr 1 E rfl fun a E=>nt<|wp_ret<|aP<|aY E rfl rfl<|?_
  cases hm
  exact ⟨rfl,H.reads Y0⟩
 ·refine wp_skip<|aC<|sq<|pr 2 E rfl fun a E=>nt<|wp_ret<|aY E rfl rfl<|?_
  cases hm
  exact ⟨rfl,H.reads Y0⟩

def fD(b:ByteArray)(c:ByteArray):Option ByteArray:=
  (iX b c).bind fun d=>some (d)
theorem z7{b c:ByteArray}(H:Sep w (Fo) rs){r:ByteArray}(hm:fD b c=some r) :
    Calls Tryz.prog 173 [.string b,.string c].toArray w (Ret fun v w'=>.string r=v∧Sep w' (Fo) (rs)):=by
 unfold fD at hm
 refine ent Tryz.func173 rfl Tryz.ntmps173 rfl rfl fun a E=>sq<|pr 1 E rfl fun a E=>nx<|pr 2 E rfl fun a E=>bd hm fun e d hm=>xk E rfl rfl rfl rfl rfl GU (r4 H d) fun w H a E=>pr 1 E rfl fun a E=>nt<|?_
 refine wp_ret<|aY E rfl rfl<|?_
 cases hm
 exact ⟨rfl,H.reads Y0⟩

def yT(d:ByteArray)(e:ByteArray)(f:Bool):Option Bool:=
  if f=true then (some (false)) else ((fD d (ByteArray.mk #[47])).bind fun g=>(iM e g).bind fun b=>if b.2=true then (if (sEq b.1 (ByteArray.mk #[]))=true then (some (true)) else ((idx b.1.data.toList 0).bind fun c=>some ((c.toNat:Int) == 47))) else (some (false)))
def yU(b:ByteArray)(c:ByteArray):Option Bool:=
  (eG b).bind fun d=>if (!d)=true then (yT c b true) else ((eG c).bind fun e=>yT c b (!e))
theorem Z9{i j:ByteArray}(H:Sep w (Fo) rs){r:Bool}(hm:yU i j=some r) :
    Calls Tryz.prog 93 [.string i,.string j].toArray w (Ret fun v w'=>.bool r=v∧Sep w' (Fo) (rs)):=by
 unfold yU at hm
 refine ent Tryz.func93 rfl Tryz.ntmps93 rfl rfl fun a E=>sq<|pr 1 E rfl fun a E=>nt<|wp_seq<|aV (fun a w=>∃ k g,Env 32 a [(0,.string i),(1,.string j),(14,.bool k)]∧Sep w (Fo) g∧(∀ r,r ∈ rs→r ∈ g)∧yT j i k=some r) ?_ ?_
 ·refine wp_region_lit<|pr 1 E rfl fun a E=>bd hm fun q l hm=>xk E rfl rfl rfl rfl rfl y7 (hZ H l) fun w H a E=>pr 2 E rfl fun a E=>cs hm (fun b hm=>?_) fun b hm=>?_
  ·exact pk 4 E (kc 10 rfl b) rfl fun a E=>nt<|⟨_,_,E.to rfl,H,Y0,hm⟩
  ·refine pk 1 E (kc 10 rfl b) rfl fun a E=>bd hm fun s m hm=>aW E (ws' (d:=10) E rfl rfl rfl rfl b) rfl rfl (cB E rfl rfl (y7 _)) (hZ H m)<|?_
   rintro _ w ⟨rfl,H⟩ a E
   exact pk 2 E (kc 10 rfl b) rfl fun a E=>nt<|⟨_,_,E.to rfl,H,Y0,hm⟩
 ·clear E H hm
  rintro a w ⟨k,g,E,H,f,hm⟩
  unfold yT at hm
  refine wif E hm rfl (fun hm=>?_) fun hm=>?_
  ·refine sq<|pr 1 E rfl fun a E=>nt<|wp_ret<|aP<|aY E rfl rfl<|?_
   cases hm
   exact ⟨rfl,H.reads f⟩
  ·refine wp_skip<|aC<|sq<|pr 2 E rfl fun a E=>bd hm fun u o hm=>xk E rfl rfl rfl rfl rfl Xa (z7 H o) fun w H a E=>bd hm fun x p hm=>xk E rfl rfl rfl rfl rfl Wx (A7 H p) fun w H a E=>pr 5 E rfl fun a E=>?_
   refine nx<|pr 2 E rfl fun a E=>cs hm (fun c hm=>?_) fun c hm=>?_
   ·refine pk 3 E (kc 23 rfl c) rfl fun a E=>cs hm (fun e hm=>?_) fun e hm=>?_
    ·refine pk 6 E (kc' (kc 26 rfl e) 23 rfl c) rfl fun a E=>nt<|wp_ret<|aY E rfl rfl<|?_
     cases hm
     exact ⟨rfl,H.reads f⟩
    ·refine pk 1 E (kc 26 rfl e) rfl fun a E=>bd hm fun t n hm=>aQ E (ws' (d:=26) E rfl rfl rfl rfl e) rfl rfl (Jw E rfl rfl rfl U9 n) fun a E=>pk 4 E (kc' (kc 26 rfl e) 23 rfl c) rfl fun a E=>nt<|wp_ret<|aY E rfl rfl<|?_
     cases hm
     exact ⟨rfl,H.reads f⟩
   ·refine pk 9 E (kc 23 rfl c) rfl fun a E=>nt<|wp_ret<|aY E rfl rfl<|?_
    cases hm
    exact ⟨rfl,H.reads f⟩

def lI(rec_1:Int→Int→Option Bool)(b:cE)(c:Int)(d:Bool):Option Bool:=
  if d=true then (some (false)) else (rec_1 b.Op (IntKind.i64.wrap (c+1)))
def nN(rec_2:Int→Option Bool)(b:Int)(c:Bool):Option Bool:=
  if c=true then (some (false)) else (rec_2 (IntKind.i64.wrap (b+1)))
def lJ(x1:aU)(b:Bool):Option Bool:=
  if b=true then (if (decide ((x1.Gone.length:Int) ≤ 32))=true then ((mZ x1.Store).bind fun c=>if c=true then (if (decide ((x1.Store.Nodes.length:Int) ≤ 512))=true then (some (decide ((x1.Store.Turns.length:Int) ≤ 512))) else (some (false))) else (some (false))) else (some (false))) else (some (false))
def jE(x1:aU)(b:Bool):Option Bool:=
  if b=true then ((sP ([x1.Id,x1.Txn,x1.Age,x1.Epoch,x1.Watch.Session,x1.Watch.Num]:List Int)).bind fun c=>if c=true then ((tW x1.Prefix).bind fun d=>if d=true then ((tW x1.Watch.Path).bind fun e=>lJ x1 e) else (lJ x1 false)) else (lJ x1 false)) else (lJ x1 false)
def gB(x1:aU):Nat→Int→Option Bool
  | 0,_=>none
  | d+1,b=>
    if (decide (b < (x1.Gone.length:Int)))=true then ((idx x1.Gone b).bind fun c=>(yU c x1.Prefix).bind fun e=>if (!e)=true then (nN (gB x1 d) b true) else (if (sEq c x1.Prefix)=true then (nN (gB x1 d) b true) else (if (decide (b > 0))=true then ((idx x1.Gone (IntKind.i64.wrap (b - 1))).bind fun f=>nN (gB x1 d) b (!(sLt f c))) else (nN (gB x1 d) b false)))) else (if (decide (x1.Kind ≥ 1))=true then (if (decide (x1.Kind ≤ 13))=true then (if (decide (x1.To ≥ 0))=true then (if (decide (x1.To < 4))=true then (jE x1 (decide ((x1.Pieces.length:Int) ≤ 16))) else (jE x1 false)) else (jE x1 false)) else (jE x1 false)) else (jE x1 false))
def fF(x1:aU):Nat→Int→Int→Option Bool
  | 0,_,_=>none
  | d+1,e,c=>
    if (decide (c < (x1.Pieces.length:Int)))=true then ((idx x1.Pieces c).bind fun b=>if (decide (b.Op < e))=true then (lI (fF x1 d) b c true) else (if (decide (b.Op ≥ 8))=true then (lI (fF x1 d) b c true) else ((zM b.Part).bind fun f=>if (!f)=true then (lI (fF x1 d) b c true) else (lI (fF x1 d) b c (decide (b.Part.Version ≥ 281474976710656)))))) else (gB x1 (((x1.Gone.length:Int) - 0:Int).toNat+1) 0)
def tX(x1:aU):Option Bool:=
  fF x1 (((x1.Pieces.length:Int) - 0:Int).toNat+1) 0 0
theorem Fu{x1:aU}{F I J G:Value}(H:Sep w (Fo) rs)(W:rSl cA F x1.Pieces ∈ rs)(b5:rSl aE I x1.Store.Nodes ∈ rs)(b6:rSl aI J x1.Store.Turns ∈ rs)(V:rSl kS G x1.Gone ∈ rs){r:Bool}(hm:tX x1=some r) :
    Calls Tryz.prog 35 [.agg (aS x1 F I J G).toArray].toArray w (Ret fun v w'=>.bool r=v∧Sep w' (Fo) (rs)):=by
 unfold tX at hm
 refine ent Tryz.func35 rfl Tryz.ntmps35 rfl rfl fun a E=>sq<|bS E H (wn rfl) rfl rfl rfl rfl rfl fun g w a H E=>pr 1 E rfl fun a E=>nx<|pr 1 E rfl fun a E=>nt<|wp_seq<|sq<|?_
 refine pr 1 E rfl fun a E=>lb E H 0 rfl rfl rfl rfl rfl rfl rfl U26 rfl fun a E=>sv E rfl rfl rfl (cV E H rfl rfl W U26) fun a E=>pr 1 E rfl fun a E=>nt<|wp_block<|bX (fun N a w=>∃ X L O,Env 154 a [(1,pt g 0),(3,.int .i64 X),(10,F),(11,.int .i64 (x1.Pieces.length:Int)),(12,.int .i64 L)]∧Sep w (Blk g 37 (aS x1 F I J G)::Fo) O∧(∀ r,r ∈ rs→r ∈ O)∧fF x1 N X L=some r) (((x1.Pieces.length:Int) - 0:Int).toNat+1) ?_ ?_
 ·exact X3 ⟨E.to rfl,H,Y0,hm⟩
 ·clear E H hm
  rintro N a w ⟨X,L,O,E,H,k,hm⟩
  cases N with
  | zero=>exact (bU hm rfl).elim
  | succ N=>
   unfold fF at hm
   refine sq<|pr 1 E rfl fun a E=>nt<|wp_seq<|wif E hm rfl (fun hm=>?_) fun hm=>?_
   ·refine wp_skip<|aC<|wp_seq<|wp_block<|sq<|bd hm fun Y b8 hm=>dR E H (wn rfl) rfl rfl rfl rfl rfl (k _ W) U26 F4 b8 fun q17 a H E=>ldf wB E H rfl rfl rfl rfl rfl m0 U87 rfl F4 fun a E=>al E H rfl rfl rfl rfl Pj fun b7 w a H E=>?_
    refine bA (i:=0) E H (wn rfl) rfl rfl rfl rfl rfl rfl F4 rfl rfl fun w H=>nt<|wp_seq<|aV (fun a w=>∃ Z P,Env 154 a [(1,pt g 0),(5,pt b7 0),(10,F),(11,.int .i64 (x1.Pieces.length:Int)),(12,.int .i64 L),(36,.bool Z)]∧Sep w (Blk g 37 (aS x1 F I J G)::Blk b7 87 (Cj Y)::Fo) P∧(∀ r,r ∈ rs→r ∈ P)∧lI (fF x1 N) Y L Z=some r) ?_ ?_
    ·refine wp_region_lit<|pr 1 E rfl fun a E=>lb E H 0 rfl rfl rfl rfl rfl rfl rfl U3 rfl fun a E=>pr 3 E rfl fun a E=>cs hm (fun u hm=>?_) fun u hm=>?_
     ·exact pk 16 E (kc 20 rfl u) rfl fun a E=>nt<|have H:=H.frs [0,1] rfl;⟨_,_,E.to rfl,H,(Y1 k),hm⟩
     ·refine pk 1 E (kc 20 rfl u) rfl fun a E=>aQ E (ws' (d:=20) E rfl rfl rfl rfl u) rfl rfl (cD (i:=0) E H rfl rfl rfl rfl U3 rfl) fun a E=>pk 3 E (kc 20 rfl u) rfl fun a E=>cs hm (fun l hm=>?_) fun l hm=>?_
      ·exact pk 11 E (kc 25 rfl l) rfl fun a E=>nt<|have H:=H.frs [0,1] rfl;⟨_,_,E.to rfl,H,(Y1 k),hm⟩
      ·refine pk 1 E (kc 25 rfl l) rfl fun a E=>aQ E (ws' (d:=25) E rfl rfl rfl rfl l) rfl rfl (cC (i:=0) (us:=(cK Y.Part)) E H rfl rfl rfl rfl U85 rfl jR) fun a E=>bd hm fun c7 b9 hm=>aW E (ws' (d:=25) E rfl rfl rfl rfl l) rfl rfl (cB E rfl rfl (CK _)) (Ft H b9)<|?_
       rintro _ w ⟨rfl,H⟩ a E
       refine pk 3 E (kc 25 rfl l) rfl fun a E=>cs hm (fun y hm=>?_) fun y hm=>?_
       ·exact pk 5 E (kc 31 rfl y) rfl fun a E=>nt<|have H:=H.frs [0,1] rfl;⟨_,_,E.to rfl,H,(Y1 k),hm⟩
       ·exact pk 2 E (kc 31 rfl y) rfl fun a E=>aQ E (ws' (d:=31) E rfl rfl rfl rfl y) rfl rfl (cD (i:=0) E H rfl rfl rfl rfl U2 rfl) fun a E=>pk 2 E (kc 31 rfl y) rfl fun a E=>nt<|have H:=H.frs [0,1] rfl;⟨_,_,E.to rfl,H,(Y1 k),hm⟩
    ·clear E H hm
     rintro a w ⟨Z,P,E,H,b0,hm⟩
     unfold lI at hm
     refine wif E hm rfl (fun hm=>?_) fun hm=>?_
     ·refine sq<|pr 1 E rfl fun a E=>nt<|wp_ret<|aP<|bW<|aP<|aP<|bW<|?_
      refine aP<|aY E rfl rfl<|have H:=H.drs [0,0];?_
      cases hm
      exact ⟨rfl,H.reads b0⟩
     ·refine wp_skip<|aC<|wp_region_lit<|pr 1 E rfl fun a E=>lb E H 1 rfl rfl rfl rfl rfl rfl rfl U3 rfl fun a E=>pr 1 E rfl fun a E=>wpList_nil<|bZ<|aC<|?_
      exact wp_region_lit<|pr 2 E rfl fun a E=>nt<|have H:=H.drop 1;⟨N,Nat.lt_succ_self N,X3 ⟨E.to rfl,H,b0,hm⟩⟩
   ·refine wp_exit<|bG<|bG<|dN<|aC<|wp_seq<|sq<|pr 1 E rfl fun a E=>lb E H 0 rfl rfl rfl rfl rfl rfl rfl U33 rfl fun a E=>?_
    refine sv E rfl rfl rfl (cV E H rfl rfl (k _ V) U33) fun a E=>pr 1 E rfl fun a E=>nt<|wp_block<|bX (fun Q a w=>∃ M R,Env 154 a [(1,pt g 0),(41,G),(42,.int .i64 (x1.Gone.length:Int)),(43,.int .i64 M)]∧Sep w (Blk g 37 (aS x1 F I J G)::Fo) R∧(∀ r,r ∈ rs→r ∈ R)∧gB x1 Q M=some r) (((x1.Gone.length:Int) - 0:Int).toNat+1) ?_ ?_
    ·exact ⟨_,_,E.to rfl,H,k,hm⟩
    ·clear E H hm
     rintro Q a w ⟨M,R,E,H,c,hm⟩
     cases Q with
     | zero=>exact (bU hm rfl).elim
     | succ Q=>
      unfold gB at hm
      refine sq<|pr 1 E rfl fun a E=>nt<|wp_seq<|wif E hm rfl (fun hm=>?_) fun hm=>?_
      ·refine wp_skip<|aC<|wp_seq<|wp_block<|sq<|pr 1 E rfl fun a E=>bd hm fun c8 c0 hm=>dR E H (wn rfl) rfl rfl rfl rfl rfl (c _ V) U33 sz9 c0 fun q32 a H E=>sv E rfl rfl rfl (qT E H rfl rfl m0 U9 rfl) fun a E=>?_
       refine pr 2 E rfl fun a E=>nt<|aV (fun a w=>∃ b1 S,Env 154 a [(1,pt g 0),(41,G),(42,.int .i64 (x1.Gone.length:Int)),(43,.int .i64 M),(72,.bool b1)]∧Sep w (Blk g 37 (aS x1 F I J G)::Fo) S∧(∀ r,r ∈ rs→r ∈ S)∧nN (gB x1 Q) M b1=some r) ?_ ?_
       ·refine wp_region_lit<|pr 2 E rfl fun a E=>lb E H 0 rfl rfl rfl rfl rfl rfl rfl U9 rfl fun a E=>bd hm fun c9 c1 hm=>xk E rfl rfl rfl rfl rfl Vb (Z9 H c1) fun w H a E=>pr 2 E rfl fun a E=>cs hm (fun z hm=>?_) fun z hm=>?_
        ·exact pk 19 E (kc 53 rfl z) rfl fun a E=>nt<|⟨_,_,E.to rfl,H,(Y1 c),hm⟩
        ·refine pk 2 E (kc 53 rfl z) rfl fun a E=>aQ E (ws' (d:=53) E rfl rfl rfl rfl z) rfl rfl (cD (i:=0) E H rfl rfl rfl rfl U9 rfl) fun a E=>pk 3 E (kc 53 rfl z) rfl fun a E=>cs hm (fun A hm=>?_) fun A hm=>?_
         ·exact pk 13 E (kc 59 rfl A) rfl fun a E=>nt<|⟨_,_,E.to rfl,H,(Y1 c),hm⟩
         ·refine pk 3 E (kc 59 rfl A) rfl fun a E=>cs hm (fun j hm=>?_) fun j hm=>?_
          ·exact pk 1 E (kc 62 rfl j) rfl fun a E=>aQ E (ws' (d:=62) E rfl rfl rfl rfl j) rfl rfl (cD (i:=0) E H rfl rfl rfl rfl U33 rfl) fun a E=>pk 2 E (kc 62 rfl j) rfl fun a E=>bd hm fun d0 c2 hm=>dR E H (ws' (d:=62) E rfl rfl rfl rfl j) rfl rfl rfl rfl rfl (t1 (c _ V)) U33 sz9 c2 fun q43 a H E=>aQ E (ws' (d:=62) E rfl rfl rfl rfl j) rfl rfl (qT E H rfl rfl m0 U9 rfl) fun a E=>pk 4 E (kc' (kc 62 rfl j) 59 rfl A) rfl fun a E=>nt<|⟨_,_,E.to rfl,H,(Y2 c),hm⟩
          ·exact pk 10 E (kc' (kc 62 rfl j) 59 rfl A) rfl fun a E=>nt<|⟨_,_,E.to rfl,H,(Y1 c),hm⟩
       ·clear E H hm
        rintro a w ⟨b1,S,E,H,b2,hm⟩
        unfold nN at hm
        refine wif E hm rfl (fun hm=>?_) fun hm=>?_
        ·refine sq<|pr 1 E rfl fun a E=>nt<|wp_ret<|bW<|aP<|aP<|bW<|aP<|?_
         refine aY E rfl rfl<|have H:=H.drop 0;?_
         cases hm
         exact ⟨rfl,H.reads b2⟩
        ·exact wp_skip<|bZ<|aC<|wp_region_lit<|pr 2 E rfl fun a E=>nt<|⟨Q,Nat.lt_succ_self Q,_,_,E.to rfl,H,b2,hm⟩
      ·refine wp_exit<|bG<|bG<|dN<|aC<|aV (fun a w=>∃ b3 T,Env 154 a [(1,pt g 0),(8,.bool b3)]∧Sep w (Blk g 37 (aS x1 F I J G)::Fo) T∧(∀ r,r ∈ rs→r ∈ T)∧jE x1 b3=some r) ?_ ?_
       ·refine wp_region_lit<|pr 1 E rfl fun a E=>lb E H 0 rfl rfl rfl rfl rfl rfl rfl U3 rfl fun a E=>pr 2 E rfl fun a E=>cs hm (fun B hm=>?_) fun B hm=>?_
        ·refine pk 1 E (kc 77 rfl B) rfl fun a E=>aQ E (ws' (d:=77) E rfl rfl rfl rfl B) rfl rfl (cD (i:=0) E H rfl rfl rfl rfl U3 rfl) fun a E=>pk 3 E (kc 77 rfl B) rfl fun a E=>cs hm (fun C hm=>?_) fun C hm=>?_
         ·refine pk 1 E (kc 82 rfl C) rfl fun a E=>aQ E (ws' (d:=82) E rfl rfl rfl rfl C) rfl rfl (cD (i:=0) E H rfl rfl rfl rfl U3 rfl) fun a E=>pk 3 E (kc 82 rfl C) rfl fun a E=>cs hm (fun D hm=>?_) fun D hm=>?_
          ·refine pk 1 E (kc 87 rfl D) rfl fun a E=>aQ E (ws' (d:=87) E rfl rfl rfl rfl D) rfl rfl (cD (i:=0) E H rfl rfl rfl rfl U3 rfl) fun a E=>pk 3 E (kc 87 rfl D) rfl fun a E=>cs hm (fun m hm=>?_) fun m hm=>?_
           ·exact pk 1 E (kc 92 rfl m) rfl fun a E=>aQ E (ws' (d:=92) E rfl rfl rfl rfl m) rfl rfl (cD (i:=0) E H rfl rfl rfl rfl U26 rfl) fun a E=>aQ E (ws' (d:=92) E rfl rfl rfl rfl m) rfl rfl (cV E H rfl rfl (c _ W) U26) fun a E=>pk 3 E (kc 92 rfl m) rfl fun a E=>nt<|⟨_,_,E.to rfl,H,c,hm⟩
           ·exact pk 6 E (kc 92 rfl m) rfl fun a E=>nt<|⟨_,_,E.to rfl,H,c,hm⟩
          ·exact pk 11 E (kc 87 rfl D) rfl fun a E=>nt<|⟨_,_,E.to rfl,H,c,hm⟩
         ·exact pk 16 E (kc 82 rfl C) rfl fun a E=>nt<|⟨_,_,E.to rfl,H,c,hm⟩
        ·exact pk 21 E (kc 77 rfl B) rfl fun a E=>nt<|⟨_,_,E.to rfl,H,c,hm⟩
       ·clear E H hm
        rintro a w ⟨b3,T,E,H,K,hm⟩
        unfold jE at hm
        refine aV (fun a w=>∃ b4 U,Env 154 a [(1,pt g 0),(8,.bool b4)]∧Sep w (Blk g 37 (aS x1 F I J G)::Fo) U∧(∀ r,r ∈ rs→r ∈ U)∧lJ x1 b4=some r) ?_ ?_
        ·refine wp_region_lit<|pr 2 E rfl fun a E=>cs hm (fun b hm=>?_) fun b hm=>?_
         ·refine pk 1 E (kc 99 rfl b) rfl fun a E=>aQ E (ws' (d:=99) E rfl rfl rfl rfl b) rfl rfl (cD (i:=0) E H rfl rfl rfl rfl U2 rfl) fun a E=>pk 1 E (kc 99 rfl b) rfl fun a E=>aQ E (ws' (d:=99) E rfl rfl rfl rfl b) rfl rfl (cD (i:=0) E H rfl rfl rfl rfl U2 rfl) fun a E=>pk 1 E (kc 99 rfl b) rfl fun a E=>aQ E (ws' (d:=99) E rfl rfl rfl rfl b) rfl rfl (cD (i:=0) E H rfl rfl rfl rfl U2 rfl) fun a E=>pk 1 E (kc 99 rfl b) rfl fun a E=>aQ E (ws' (d:=99) E rfl rfl rfl rfl b) rfl rfl (cD (i:=0) E H rfl rfl rfl rfl U2 rfl) fun a E=>pk 2 E (kc 99 rfl b) rfl fun a E=>?_
          refine aQ E (ws' (d:=99) E rfl rfl rfl rfl b) rfl rfl (cD (i:=0) E H rfl rfl rfl rfl U2 rfl) fun a E=>pk 2 E (kc 99 rfl b) rfl fun a E=>aQ E (ws' (d:=99) E rfl rfl rfl rfl b) rfl rfl (cD (i:=0) E H rfl rfl rfl rfl U2 rfl) fun a E=>hJ (e:=2) (d:=(kI .i64)) (cs:=[.int .i64 x1.Id,.int .i64 x1.Txn,.int .i64 x1.Age,.int .i64 x1.Epoch,.int .i64 x1.Watch.Session,.int .i64 x1.Watch.Num]) (xs:=[x1.Id,x1.Txn,x1.Age,x1.Epoch,x1.Watch.Session,x1.Watch.Num]) E H (ws' (d:=99) E rfl rfl rfl rfl b) rfl rfl rfl (E.evs rfl) (by kernel_rfl) rfl rfl (fun ok hr=>(Rows.append (Rows.append (Rows.append (Rows.append (Rows.append (Rows.single (d:=(kI .i64)) (cs:=[.int .i64 x1.Id]) (x:=x1.Id) rfl) (Rows.single (d:=(kI .i64)) (cs:=[.int .i64 x1.Txn]) (x:=x1.Txn) rfl)) (Rows.single (d:=(kI .i64)) (cs:=[.int .i64 x1.Age]) (x:=x1.Age) rfl)) (Rows.single (d:=(kI .i64)) (cs:=[.int .i64 x1.Epoch]) (x:=x1.Epoch) rfl)) (Rows.single (d:=(kI .i64)) (cs:=[.int .i64 x1.Watch.Session]) (x:=x1.Watch.Session) rfl)) (Rows.single (d:=(kI .i64)) (cs:=[.int .i64 x1.Watch.Num]) (x:=x1.Watch.Num) rfl))) fun d1 w a H E=>have H:=H.thaw (i:=0) rfl;bd hm fun d2 c3 hm=>aW E (ws' (d:=99) E rfl rfl rfl rfl b) rfl rfl (cB E rfl rfl (KX _)) (Dw H m0 c3)<|?_
          rintro _ w ⟨rfl,H⟩ a E
          refine pk 2 E (kc 99 rfl b) rfl fun a E=>cs hm (fun n hm=>?_) fun n hm=>?_
          ·refine pk 1 E (kc 117 rfl n) rfl fun a E=>aQ E (ws' (d:=117) E rfl rfl rfl rfl n) rfl rfl (cD (i:=0) E H rfl rfl rfl rfl U9 rfl) fun a E=>bd hm fun d3 c4 hm=>aW E (ws' (d:=117) E rfl rfl rfl rfl n) rfl rfl (cB E rfl rfl (CS _)) (M2 H c4)<|?_
           rintro _ w ⟨rfl,H⟩ a E
           refine pk 2 E (kc 117 rfl n) rfl fun a E=>cs hm (fun o hm=>?_) fun o hm=>?_
           ·refine pk 2 E (kc 122 rfl o) rfl fun a E=>aQ E (ws' (d:=122) E rfl rfl rfl rfl o) rfl rfl (cD (i:=0) E H rfl rfl rfl rfl U9 rfl) fun a E=>bd hm fun d4 c5 hm=>aW E (ws' (d:=122) E rfl rfl rfl rfl o) rfl rfl (cB E rfl rfl (CS _)) (M2 H c5)<|?_
            rintro _ w ⟨rfl,H⟩ a E
            exact pk 2 E (kc 122 rfl o) rfl fun a E=>nt<|⟨_,_,E.to rfl,H,(Y1 K),hm⟩
           ·exact pk 6 E (kc 122 rfl o) rfl fun a E=>nt<|⟨_,_,E.to rfl,H,(Y1 K),hm⟩
          ·exact pk 11 E (kc 117 rfl n) rfl fun a E=>nt<|⟨_,_,E.to rfl,H,(Y1 K),hm⟩
         ·exact pk 29 E (kc 99 rfl b) rfl fun a E=>nt<|⟨_,_,E.to rfl,H,K,hm⟩
        ·clear E H hm
         rintro a w ⟨b4,U,E,H,f,hm⟩
         unfold lJ at hm
         refine sq<|pr 2 E rfl fun a E=>cs hm (fun p hm=>?_) fun p hm=>?_
         ·refine pk 1 E (kc 129 rfl p) rfl fun a E=>aQ E (ws' (d:=129) E rfl rfl rfl rfl p) rfl rfl (cD (i:=0) E H rfl rfl rfl rfl U33 rfl) fun a E=>aQ E (ws' (d:=129) E rfl rfl rfl rfl p) rfl rfl (cV E H rfl rfl (f _ V) U33) fun a E=>pk 3 E (kc 129 rfl p) rfl fun a E=>cs hm (fun q hm=>?_) fun q hm=>?_
          ·refine pk 1 E (kc 135 rfl q) rfl fun a E=>aQ E (ws' (d:=135) E rfl rfl rfl rfl q) rfl rfl (cC (i:=0) (us:=[I,J]) E H rfl rfl rfl rfl U25 rfl dJ) fun a E=>bd hm fun d5 c6 hm=>aW E (ws' (d:=135) E rfl rfl rfl rfl q) rfl rfl (cB E rfl rfl (Pb _)) (y9 H (f _ b5) (f _ b6) c6)<|?_
           rintro _ w ⟨rfl,H⟩ a E
           refine pk 2 E (kc 135 rfl q) rfl fun a E=>cs hm (fun s hm=>?_) fun s hm=>?_
           ·refine pk 2 E (kc 140 rfl s) rfl fun a E=>aQ E (ws' (d:=140) E rfl rfl rfl rfl s) rfl rfl (cD (i:=0) E H rfl rfl rfl rfl U22 rfl) fun a E=>aQ E (ws' (d:=140) E rfl rfl rfl rfl s) rfl rfl (cV E H rfl rfl (f _ b5) U22) fun a E=>pk 3 E (kc 140 rfl s) rfl fun a E=>cs hm (fun t hm=>?_) fun t hm=>?_
            ·refine pk 2 E (kc 147 rfl t) rfl fun a E=>aQ E (ws' (d:=147) E rfl rfl rfl rfl t) rfl rfl (cD (i:=0) E H rfl rfl rfl rfl U23 rfl) fun a E=>aQ E (ws' (d:=147) E rfl rfl rfl rfl t) rfl rfl (cV E H rfl rfl (f _ b6) U23) fun a E=>pk 3 E (kc 147 rfl t) rfl fun a E=>nt<|wp_ret<|aY E rfl rfl<|have H:=H.drop 0;?_
             cases hm
             exact ⟨rfl,H.reads f⟩
            ·refine pk 7 E (kc 147 rfl t) rfl fun a E=>nt<|wp_ret<|aY E rfl rfl<|have H:=H.drop 0;?_
             cases hm
             exact ⟨rfl,H.reads f⟩
           ·refine pk 14 E (kc 140 rfl s) rfl fun a E=>nt<|wp_ret<|aY E rfl rfl<|have H:=H.drop 0;?_
            cases hm
            exact ⟨rfl,H.reads f⟩
          ·refine pk 19 E (kc 135 rfl q) rfl fun a E=>nt<|wp_ret<|aY E rfl rfl<|have H:=H.drop 0;?_
           cases hm
           exact ⟨rfl,H.reads f⟩
         ·refine pk 25 E (kc 129 rfl p) rfl fun a E=>nt<|wp_ret<|aY E rfl rfl<|have H:=H.drop 0;?_
          cases hm
          exact ⟨rfl,H.reads f⟩

def dZ(x1:Int):Option aH:=
  some ((⟨x1,0,false,0,[],(⟨[],[]⟩:aR),[],[],[]⟩:aH))
theorem eI{x1:Int}(H:Sep w (Fo) rs){r:aH}(hm:dZ x1=some r) :
    Calls Tryz.prog 36 [.int .i64 x1].toArray w (Ret fun v w'=>∃ b c d e f g,.agg (bC r b c d e f g).toArray=v∧Sep w' (Fo) (rSl bF b r.Results::rSl aE c r.Store.Nodes::rSl aI d r.Store.Turns::rSl aX e r.Events::rSl bM f r.Mounts::rSl (kI .i64) g r.Wounded::rs)):=by
 unfold dZ at hm
 refine ent Tryz.func36 rfl Tryz.ntmps36 rfl rfl fun a E=>sq<|al E H rfl rfl rfl rfl gO fun j w a H E=>nx<|pr 1 E rfl fun a E=>sv E rfl rfl rfl (cL E rfl (E.evs rfl) (v:=.agg #[.int .i64 x1,.int .i64 0,.bool false,.int .i64 0,.slice none 0 0,.slice none 0 0,.slice none 0 0,.slice none 0 0,.slice none 0 0,.slice none 0 0]) (by kernel_rfl)) fun a E=>bA (i:=0) E H (wn rfl) rfl rfl rfl rfl rfl rfl bV rfl rfl fun w H=>nt<|wp_ret<|?_
 refine dT E rfl (dD (i:=0) (us:=[.int .i64 x1,.int .i64 0,.bool false,.int .i64 0,.slice none 0 0,.slice none 0 0,.slice none 0 0,.slice none 0 0,.slice none 0 0,.slice none 0 0]) H rfl rfl rfl U48 rfl bV)<|have H:=H.nilSl bF;have H:=H.nilSl aE;have H:=H.nilSl aI;have H:=H.nilSl aX;have H:=H.nilSl bM;have H:=H.nilSl (kI .i64);have H:=H.drop 0;?_
 cases hm
 exact X6 ⟨rfl,H.reads (aA mm5 (aA mm4 (aA mm3 (aA mm2 (aA mm1 (aA m0 (fun r hr=>(t6 hr))))))))⟩

def oX(x20:aU)(b:(List ((Int)×aH))):Option (aH×(List ((Int)×aH))):=
  (Pa (kyI .i64) b x20.Txn qG).bind fun c=>some (c,b)
def tD(x20:aU)(b:List ((Int)×aH))(c:Bool):Option (aH×(List ((Int)×aH))):=
  if (!c)=true then (if ((b.length:Int) == 128)=true then ((dZ 2).bind fun d=>some (d,b)) else ((mpt (kyI .i64) b x20.Txn (⟨0,0,x20.Yes,x20.Epoch,[],(⟨[],[]⟩:aR),[],[],[]⟩:aH)).bind fun e=>oX x20 e)) else (oX x20 b)
def wC(b:List ((Int)×aH))(x20:aU):Option (aH×(List ((Int)×aH))):=
  (y4 (kyI .i64) b x20.Txn qG).bind fun c=>tD x20 b c.2
theorem T3{d b:Nat}{y:List ((Int)×aH)}{x20:aU}{o p q s e f g j k l m n:Value}(H:Sep w (Blk d 75 [e,f,g,j,k,l,m,n,.map (some b)]::cG Tryz.prog 2 (kyI .i64) bJ true b y::Fo) rs){r:aH×(List ((Int)×aH))}(hm:wC y x20=some r) :
    Calls Tryz.prog 28 [pt d 0,.agg (aS x20 o p q s).toArray].toArray w (Ret fun v w'=>∃ J L M N O P,.agg (bC r.1 J L M N O P).toArray=v∧Sep w' (Blk d 75 [e,f,g,j,k,l,m,n,.map (some b)]::cG Tryz.prog 2 (kyI .i64) bJ true b r.2::Fo) (rSl bF J r.1.Results::rSl aE L r.1.Store.Nodes::rSl aI M r.1.Store.Turns::rSl aX N r.1.Events::rSl bM O r.1.Mounts::rSl (kI .i64) P r.1.Wounded::rs)):=by
 unfold wC at hm
 refine ent Tryz.func28 rfl Tryz.ntmps28 rfl rfl fun a E=>sq<|bS E H (wn rfl) rfl rfl rfl rfl rfl fun c w a H E=>al E H rfl rfl rfl rfl gO fun z w a H E=>nt<|aV (fun a w=>∃ A t,Env 44 a [(0,pt d 0),(3,pt c 0),(4,pt z 0)]∧Sep w (Blk d 75 [e,f,g,j,k,l,m,n,.map (some b)]::Blk c 37 (aS x20 o p q s)::Blk z 48 bN::cG Tryz.prog 2 (kyI .i64) bJ true b A::Fo) t∧(∀ r,r ∈ rs→r ∈ t)∧oX x20 A=some r) ?_ ?_
 ·refine aV (fun a w=>∃ B u,Env 44 a [(0,pt d 0),(3,pt c 0),(4,pt z 0),(6,.bool B)]∧Sep w (Blk d 75 [e,f,g,j,k,l,m,n,.map (some b)]::Blk c 37 (aS x20 o p q s)::Blk z 48 bN::cG Tryz.prog 2 (kyI .i64) bJ true b y::Fo) u∧(∀ r,r ∈ rs→r ∈ u)∧tD x20 y B=some r) ?_ ?_
  ·refine bd hm fun c2 C hm=>?_
   have hI:eD [Blk c 37 (aS x20 o p q s),Blk d 75 [e,f,g,j,k,l,m,n,.map (some b)]] [] { w with drawn:=w.drawn+1 }:=⟨_,_,H.kept (Kp.drawn _ w _),(aB mm1 (aB mm2 (aL))),(aM)⟩
   refine mA _ (.go 0 0 (.go 1 0 (.go 2 0 (.go 3 0 (.go 4 0 (.go 5 0 (.alt 6 (.go 7 0 (.go 8 0 (.go 9 0 (.go 10 1 (.go 11 1 (.go 12 2 .nil)))))) 10 (.go 6 1 (.go 7 0 (.go 8 0 (.go 9 0 (.go 11 1 (.go 12 2 .nil))))))))))))) [12] mH (by kernel_rfl) (fun _ _ _ h=>False.elim h.2) hI<|have H:=H.kept (Kp.drawn _ w (w.drawn+1));?_
   generalize ({ w with drawn:=w.drawn+1 }:World)=w at H hI ⊢
   replace hI:∃ W,eD [Blk c 37 (aS x20 o p q s),Blk d 75 [e,f,g,j,k,l,m,n,.map (some b)]] [] W:=⟨_,hI⟩
   obtain ⟨W0,hI⟩:=hI
   refine aZ E rfl (wn rfl) rfl rfl (fun w hW=>(bE E rfl rfl)) fun a E=>aZ E rfl (wn rfl) rfl rfl (fun w hW=>(vX E rfl rfl)) fun a E=>aZ E rfl (wn rfl) rfl rfl (fun w hW=>lA E rfl rfl (v:=pt d 8) (Sd _ _)) fun a E=>aZ E rfl (wn rfl) rfl rfl (fun w hW=>fC E rfl rfl (mB mm1 rfl U68 rfl w hW)) fun a E=>aZ E rfl (wn rfl) rfl rfl (fun w hW=>lA E rfl rfl (v:=pt c 2) (Fd _ _)) fun a E=>aZ E rfl (wn rfl) rfl rfl (fun w hW=>fC E rfl rfl (mB m0 rfl U2 rfl w hW)) fun a E=>?_
   refine mU rfl rfl ?_ ?_
   ·refine oE (i:=3) (K:=(kyI .i64)) E H (wn rfl) rfl rfl rfl rfl rfl rfl (eS U2) U68 y8 J5 C fun c3 a H E=>?_
    obtain ⟨c4,c5,c6,c7,c8,c9,rfl,h⟩:=lD H;clear H;have H:=h
    refine nt<|?_
    refine ⟨⟨_,_,H,(aB mm1 (aB mm2 (aL))),(aM)⟩,?_⟩
    refine aZ E rfl (wn rfl) rfl rfl (fun w hW=>(bE E rfl rfl)) fun a E=>aZ E rfl (wn rfl) rfl rfl (fun w hW=>(dF E rfl rfl rfl)) fun a E=>aZ E rfl (wn rfl) rfl rfl (fun w hW=>(dF E rfl rfl rfl)) fun a E=>cN rfl<|al E H rfl rfl rfl rfl gO fun d0 w a H E=>nt<|?_
    refine ⟨⟨_,_,H,(aB mm2 (aB mm3 (aL))),(aM)⟩,?_⟩
    refine cN rfl<|bA (i:=0) E H (wn rfl) rfl rfl rfl rfl rfl rfl bV rfl (bD H mm5 mm4 mm3 mm2 mm1 m0) fun w H=>nt<|?_
    refine ⟨⟨_,_,H,(aB mm2 (aB mm3 (aL))),(aM)⟩,?_⟩
    refine cX rfl<|pr 1 E rfl fun a E=>nt<|eL<|?_
    clear hI
    exact aC<|have H:=H.drop 0;have H:=H.frs [3,1,2,3] rfl;⟨_,_,E.to rfl,H,(Y7 Y0),hm⟩
   ·refine al E H rfl rfl rfl rfl gO fun d1 w a H E=>nt<|?_
    refine ⟨⟨_,_,H,(aB mm2 (aB mm3 (aL))),(aM)⟩,?_⟩
    refine cN rfl<|oE (i:=4) (K:=(kyI .i64)) E H (wn rfl) rfl rfl rfl rfl rfl rfl (eS U2) U68 y8 J5 C fun b5 a H E=>?_
    obtain ⟨b6,b7,b8,b9,c0,c1,rfl,h⟩:=lD H;clear H;have H:=h
    refine nt<|?_
    refine ⟨⟨_,_,H,(aB mm2 (aB mm3 (aL))),(aM)⟩,?_⟩
    refine aZ E rfl (wn rfl) rfl rfl (fun w hW=>(bE E rfl rfl)) fun a E=>aZ E rfl (wn rfl) rfl rfl (fun w hW=>(dF E rfl rfl rfl)) fun a E=>aZ E rfl (wn rfl) rfl rfl (fun w hW=>(dF E rfl rfl rfl)) fun a E=>cN rfl<|bA (i:=0) E H (wn rfl) rfl rfl rfl rfl rfl rfl bV rfl (bD H mm5 mm4 mm3 mm2 mm1 m0) fun w H=>nt<|?_
    refine ⟨⟨_,_,H,(aB mm2 (aB mm3 (aL))),(aM)⟩,?_⟩
    refine cX rfl<|pr 1 E rfl fun a E=>nt<|eL<|?_
    clear hI
    exact aC<|have H:=H.drop 0;have H:=H.frs [3,1,2,3] rfl;⟨_,_,E.to rfl,H,(Y7 Y0),hm⟩
  ·clear E H hm
   rintro a w ⟨B,u,E,H,x,hm⟩
   unfold tD at hm
   refine sq<|pr 2 E rfl fun a E=>nt<|wif E hm rfl (fun hm=>?_) fun hm=>?_
   ·refine wp_seq<|sq<|pr 3 E rfl fun a E=>lb E H 0 rfl rfl rfl rfl rfl rfl rfl U68 rfl fun a E=>sv E rfl rfl rfl (E4 (i:=3) E H rfl rfl rfl U68) fun a E=>pr 1 E rfl fun a E=>nt<|wif E hm rfl (fun hm=>?_) fun hm=>?_
    ·refine sq<|bd hm fun Q D hm=>cF E rfl rfl rfl rfl rfl xN (eI H D)<|?_
     rintro _ w ⟨R,S,T,U,V,X,rfl,H⟩ a E
     refine bA (i:=2) E H (wn rfl) rfl rfl rfl rfl rfl rfl bV rfl (bD H m0 mm1 mm2 mm3 mm4 mm5) fun w H=>nt<|wp_ret<|aP<|aP<|dT E rfl (dD (i:=2) (us:=(bC Q R S T U V X)) H rfl rfl rfl U48 rfl bV)<|have H:=H.drs [1,1];?_
     cases hm
     exact X6 ⟨rfl,H.reads (aA m0 (aA mm1 (aA mm2 (aA mm3 (aA mm4 (aA mm5 (fun r hr=>(t6 (x r hr)))))))))⟩
    ·refine wp_skip<|aC<|dw [(0,0),(1,0),(2,0),(3,0),(4,0),(5,0),(6,0),(7,0),(8,0),(9,0),(10,0),(11,2)] [0,1] [] H (by kernel_rfl) (fun _ _ _ h=>False.elim h.2) fun w W0 hI H=>fn 3 E rfl fun a E=>fb E rfl (wn rfl) rfl rfl rfl rfl m0 rfl U68 rfl fun a E=>fn 1 E rfl fun a E=>fb E rfl (wn rfl) rfl rfl rfl rfl mm1 rfl U2 rfl fun a E=>fn 1 E rfl fun a E=>fb E rfl (wn rfl) rfl rfl rfl rfl mm1 rfl U4 rfl fun a E=>?_
     refine fn 1 E rfl fun a E=>fb E rfl (wn rfl) rfl rfl rfl rfl mm1 rfl U2 rfl fun a E=>bT E rfl (wn rfl) rfl rfl (fun w hW=>(cL E rfl (E.evs rfl) (v:=.agg #[.int .i64 0,.int .i64 0,.bool x20.Yes,.int .i64 x20.Epoch,.slice none 0 0,.slice none 0 0,.slice none 0 0,.slice none 0 0,.slice none 0 0,.slice none 0 0]) (by kernel_rfl))) fun a E=>?_
     refine bO rfl<|bd hm fun d2 F hm=>B6 (i:=3) (K:=(kyI .i64)) (v:=(⟨0,0,x20.Yes,x20.Epoch,[],(⟨[],[]⟩:aR),[],[],[]⟩:aH)) (cs:=[.int .i64 0,.int .i64 0,.bool x20.Yes,.int .i64 x20.Epoch,.slice none 0 0,.slice none 0 0,.slice none 0 0,.slice none 0 0,.slice none 0 0,.slice none 0 0]) E H (wn rfl) rfl rfl rfl rfl rfl rfl (eS U2) U68 F (fun ok hr=>(oF (Sl.nil _ _ _) (Sl.nil _ _ _) (Sl.nil _ _ _) (Sl.nil _ _ _) (Sl.nil _ _ _) (Sl.nil _ _ _))) fun w H=>nt<|bP<|?_
     clear hI
     exact aC<|⟨_,_,E.to rfl,H,x,hm⟩
   ·exact wp_skip<|aC<|⟨_,_,E.to rfl,H,x,hm⟩
 ·clear E H hm
  rintro a w ⟨A,t,E,H,G,hm⟩
  unfold oX at hm
  refine wp_seq<|dw [(0,0),(1,0),(2,0),(3,0),(4,0),(5,0),(6,1),(7,2)] [0,1] [] H (by kernel_rfl) (fun _ _ _ h=>False.elim h.2) fun w W0 hI H=>fn 3 E rfl fun a E=>fb E rfl (wn rfl) rfl rfl rfl rfl m0 rfl U68 rfl fun a E=>fn 1 E rfl fun a E=>fb E rfl (wn rfl) rfl rfl rfl rfl mm1 rfl U2 rfl fun a E=>bY rfl<|bd hm fun Y I hm=>Rx (i:=3) (K:=(kyI .i64)) E H (wn rfl) rfl rfl rfl rfl rfl rfl (eS U2) U68 y8 J5 I fun d3 a H E=>?_
  obtain ⟨Z,b0,b1,b2,b3,b4,rfl,h⟩:=lD H;clear H;have H:=h
  refine nt<|?_
  refine ⟨⟨_,_,H,(aB m0 (aB mm1 (aL))),(aM)⟩,?_⟩
  refine bO rfl<|bA (i:=2) E H (wn rfl) rfl rfl rfl rfl rfl rfl bV rfl (bD H mm5 mm4 mm3 mm2 mm1 m0) fun w H=>nt<|bP<|?_
  clear hI
  refine aC<|wp_ret<|dT E rfl (dD (i:=2) (us:=(bC Y Z b0 b1 b2 b3 b4)) H rfl rfl rfl U48 rfl bV)<|have H:=H.drs [1,1];?_
  cases hm
  exact X6 ⟨rfl,H.reads (aA mm5 (aA mm4 (aA mm3 (aA mm2 (aA mm1 (aA m0 (fun r hr=>(t7 (G r hr)))))))))⟩

def xA(rec_1:Int→Int→Option Int)(b:Int)(c:Int):Option Int:=
  rec_1 c (IntKind.i64.wrap (b+1))
def tS(rec_1:Int→Int→Option Int)(b:Int)(d:Int)(c:Bool):Option Int:=
  if c=true then (xA rec_1 b b) else (xA rec_1 b d)
def lO(b:List aG)(e:ByteArray):Nat→Int→Int→Option Int
  | 0,_,_=>none
  | g+1,c,d=>
    if (decide (d < (b.length:Int)))=true then ((idx b d).bind fun f=>(yU e f.Prefix).bind fun i=>if i=true then (if (decide (c < 0))=true then (tS (lO b e g) d c true) else ((idx b c).bind fun j=>tS (lO b e g) d c (decide ((f.Prefix.size:Int) > (j.Prefix.size:Int))))) else (tS (lO b e g) d c false)) else ((nE b).bind fun k=>if (!k)=true then (some ((-1))) else (some (c)))
def qD(b:List aG)(c:ByteArray):Option Int:=
  lO b c (((b.length:Int) - 0:Int).toNat+1) (-1) 0
theorem wD{g:Value}{f:List aG}{j:ByteArray}(H:Sep w (Fo) rs)(p:rSl aT g f ∈ rs){r:Int}(hm:qD f j=some r) :
    Calls Tryz.prog 76 [g,.string j].toArray w (Ret fun v w'=>.int .i64 r=v∧Sep w' (Fo) (rs)):=by
 unfold qD at hm
 refine ent Tryz.func76 rfl Tryz.ntmps76 rfl rfl fun a E=>sq<|pr 1 E rfl fun a E=>nx<|pr 1 E rfl fun a E=>nt<|wp_seq<|sq<|pr 1 E rfl fun a E=>?_
 refine sv E rfl rfl rfl (cV E H rfl rfl p U32) fun a E=>pr 1 E rfl fun a E=>nt<|wp_block<|bX (fun l a w=>∃ q m s,Env 41 a [(0,g),(1,.string j),(5,.int .i64 q),(8,g),(9,.int .i64 (f.length:Int)),(10,.int .i64 m)]∧Sep w (Fo) s∧(∀ r,r ∈ rs→r ∈ s)∧lO f j l q m=some r) (((f.length:Int) - 0:Int).toNat+1) ?_ ?_
 ·exact X3 ⟨E.to rfl,H,Y0,hm⟩
 ·clear E H hm
  rintro l a w ⟨q,m,s,E,H,c,hm⟩
  cases l with
  | zero=>exact (bU hm rfl).elim
  | succ l=>
   unfold lO at hm
   refine sq<|pr 1 E rfl fun a E=>nt<|wp_seq<|wif E hm rfl (fun hm=>?_) fun hm=>?_
   ·refine wp_skip<|aC<|aV (fun a w=>∃ x n,Env 41 a [(0,g),(1,.string j),(5,.int .i64 x),(8,g),(9,.int .i64 (f.length:Int)),(10,.int .i64 m)]∧Sep w (Fo) n∧(∀ r,r ∈ rs→r ∈ n)∧xA (lO f j l) m x=some r) ?_ ?_
    ·refine wp_block<|sq<|pr 1 E rfl fun a E=>bd hm fun I y hm=>dR E H (wn rfl) rfl rfl rfl rfl rfl (c _ p) U32 iK y fun q14 a H E=>ldf jI E H rfl rfl rfl rfl rfl m0 U31 rfl iK fun a E=>al E H rfl rfl rfl rfl Gl fun J w a H E=>pr 1 E rfl fun a E=>bA (i:=0) E H (wn rfl) rfl rfl rfl rfl rfl rfl iK rfl rfl fun w H=>?_
     refine nt<|aV (fun a w=>∃ t o,Env 41 a [(0,g),(1,.string j),(5,.int .i64 q),(6,.int .i64 m),(8,g),(9,.int .i64 (f.length:Int)),(10,.int .i64 m),(34,.bool t)]∧Sep w (Fo) o∧(∀ r,r ∈ rs→r ∈ o)∧tS (lO f j l) m q t=some r) ?_ ?_
     ·obtain ⟨K,H⟩:=H.raw (t1 (c _ p))
      refine dw [(0,0),(1,0),(2,0),(3,1),(4,0),(5,0),(6,0),(7,0),(8,0),(9,0),(10,0),(11,0),(12,0),(13,0),(14,0),(15,0),(16,0),(17,0),(18,0),(19,0)] [0] [0] H (by kernel_rfl) (fun _ _ _ h=>False.elim h.2) fun w W0 hI H=>fn 2 E rfl fun a E=>fb E rfl (wn rfl) rfl rfl rfl rfl m0 rfl U9 rfl fun a E=>bY rfl<|bd hm fun L z hm=>xk E rfl rfl rfl rfl rfl Vb (Z9 H z) fun w H a E=>nt<|?_
      refine ⟨⟨_,_,H,(aB m0 (aL)),(aA m0 (aM))⟩,?_⟩
      refine fn 1 E rfl fun a E=>cs hm (fun e hm=>?_) fun e hm=>?_
      ·refine fk 3 E (kc 19 rfl e) rfl fun a E=>cs hm (fun b hm=>?_) fun b hm=>?_
       ·refine fk 12 E (kc' (kc 22 rfl b) 19 rfl e) rfl fun a E=>bP<|?_
        clear hI
        exact aC<|have H:=H.drop 0;⟨_,_,E.to rfl,H,(Y2 c),hm⟩
       ·refine fk 1 E (kc 22 rfl b) rfl fun a E=>fb E rfl (ws' (d:=22) E rfl rfl rfl rfl b) rfl rfl rfl rfl m0 rfl U9 rfl fun a E=>fk 3 E (kc 22 rfl b) rfl fun a E=>bd hm fun M A hm=>?_
        obtain ⟨q26,N,B,C⟩:=oD (P:=Tryz.prog) (k:=.i64) hI (mT (.head _)) U32 iK A
        refine bT E rfl (ws' (d:=22) E rfl rfl rfl rfl b) rfl rfl (fun w hW=>rR E rfl rfl rfl (B w)) fun a E=>?_
        have D:=yP C (fun _ _ _ h=>qV h)
        refine fk 1 E (kc 22 rfl b) rfl fun a E=>fa E rfl (ws' (d:=22) E rfl rfl rfl rfl b) rfl rfl rfl rfl D U9 rfl fun a E=>fk 4 E (kc' (kc 22 rfl b) 19 rfl e) rfl fun a E=>bP<|?_
        clear hI
        exact aC<|have H:=H.drop 0;⟨_,_,E.to rfl,H,(Y2 c),hm⟩
      ·refine fk 15 E (kc 19 rfl e) rfl fun a E=>bP<|?_
       clear hI
       exact aC<|have H:=H.drop 0;⟨_,_,E.to rfl,H,(Y2 c),hm⟩
     ·clear E H hm
      rintro a w ⟨t,o,E,H,u,hm⟩
      unfold tS at hm
      refine wif E hm rfl (fun hm=>?_) fun hm=>?_
      ·exact wp_region_lit<|pr 2 E rfl fun a E=>wpList_nil<|bZ<|aC<|⟨_,_,E.to rfl,H,u,hm⟩
      ·exact wp_skip<|bZ<|aC<|⟨_,_,E.to rfl,H,u,hm⟩
    ·clear E H hm
     rintro a w ⟨x,n,E,H,F,hm⟩
     unfold xA at hm
     exact wp_region_lit<|pr 2 E rfl fun a E=>nt<|⟨l,Nat.lt_succ_self l,X3 ⟨E.to rfl,H,F,hm⟩⟩
   ·refine wp_exit<|bG<|bG<|dN<|aC<|wp_seq<|sq<|pr 1 E rfl fun a E=>bd hm fun O G hm=>?_
    refine xk E rfl rfl rfl rfl rfl Ku (wX H (c _ p) G) fun w H a E=>pr 1 E rfl fun a E=>nt<|wif E hm rfl (fun hm=>?_) fun hm=>?_
    ·refine sq<|pr 1 E rfl fun a E=>nt<|wp_ret<|aP<|aY E rfl rfl<|?_
     cases hm
     exact ⟨rfl,H.reads c⟩
    ·refine wp_skip<|aC<|sq<|pr 2 E rfl fun a E=>nt<|wp_ret<|aY E rfl rfl<|?_
     cases hm
     exact ⟨rfl,H.reads c⟩

def s1(e:ByteArray)(b:List aG)(f:ByteArray):Option Bool:=
  (qD b e).bind fun c=>if (decide (c ≥ 0))=true then ((idx b c).bind fun d=>some (sEq d.Prefix f)) else (some (false))
theorem V7{o e:ByteArray}{f g:Nat}{i:Value}{p:List aG}(H:Sep w (Blk f 32 [i]::Blk g 9 [.string e]::Fo) rs)(c:rSl aT i p ∈ rs){r:Bool}(hm:s1 o p e=some r) :
    Calls Tryz.prog 145 [.string o,pt f 0,pt g 0].toArray w (Ret fun v w'=>.bool r=v∧Sep w' (Blk f 32 [i]::Blk g 9 [.string e]::Fo) (rs)):=by
 unfold s1 at hm
 refine ent Tryz.func145 rfl Tryz.ntmps145 rfl rfl fun a E=>sq<|pr 1 E rfl fun a E=>nx<|lb E H 0 rfl rfl rfl rfl rfl rfl rfl U32 rfl fun a E=>pr 1 E rfl fun a E=>bd hm fun x q hm=>xk E rfl rfl rfl rfl rfl Ds (wD H c q) fun w H a E=>pr 1 E rfl fun a E=>?_
 refine nt<|wp_seq<|?_
 obtain ⟨s,H⟩:=H.raw c
 refine dw [(0,0),(1,0),(2,0),(3,0),(4,0),(5,0),(6,0),(7,0),(8,0),(9,0),(10,0),(11,2)] [0,1] [0] H (by kernel_rfl) (fun _ _ _ h=>False.elim h.2) fun w W0 hI H=>fn 3 E rfl fun a E=>cs hm (fun b hm=>?_) fun b hm=>?_
 ·refine fb E rfl (ws' (d:=11) E rfl rfl rfl rfl b) rfl rfl rfl rfl m0 rfl U32 rfl fun a E=>fk 1 E (kc 11 rfl b) rfl fun a E=>bd hm fun t j hm=>?_
  obtain ⟨q14,u,l,m⟩:=oD (P:=Tryz.prog) (k:=.i64) hI (mT (.head _)) U32 iK j
  refine bT E rfl (ws' (d:=11) E rfl rfl rfl rfl b) rfl rfl (fun w hW=>rR E rfl rfl rfl (l w)) fun a E=>?_
  have n:=yP m (fun _ _ _ h=>qV h)
  refine fk 1 E (kc 11 rfl b) rfl fun a E=>fa E rfl (ws' (d:=11) E rfl rfl rfl rfl b) rfl rfl rfl rfl n U9 rfl fun a E=>fb E rfl (ws' (d:=11) E rfl rfl rfl rfl b) rfl rfl rfl rfl mm1 rfl U9 rfl fun a E=>fk 2 E (kc 11 rfl b) rfl fun a E=>bO rfl<|pr 1 E rfl fun a E=>nt<|bP<|?_
  clear hI
  refine aC<|wp_ret<|aY E rfl rfl<|?_
  cases hm
  exact ⟨rfl,H.reads (Y1 Y0)⟩
 ·refine fk 8 E (kc 11 rfl b) rfl fun a E=>bO rfl<|pr 1 E rfl fun a E=>nt<|bP<|?_
  clear hI
  refine aC<|wp_ret<|aY E rfl rfl<|?_
  cases hm
  exact ⟨rfl,H.reads (Y1 Y0)⟩

def wE(d:List aG)(e:ByteArray)(b:ByteArray):Option Bool:=
  (s1 b d e).bind fun c=>some (c)
def F9(x1:aF)(c:List aG)(d:ByteArray):Option Bool:=
  (oU x1.Path).bind fun b=>if (!b.2)=true then (wE c d (ByteArray.mk #[47])) else (wE c d b.1)
theorem Iu{x1:aF}{e c d:Nat}{j:Value}{k:List aG}{f:ByteArray}(H:Sep w (Blk e 109 [.func (.func 145) #[] #[pt c 0,pt d 0]]::Blk c 32 [j]::Blk d 9 [.string f]::Fo) rs)(n:rSl aT j k ∈ rs){r:Bool}(hm:F9 x1 k f=some r) :
    Calls Tryz.prog 147 [.agg (kM x1).toArray,pt e 0].toArray w (Ret fun v w'=>.bool r=v∧Sep w' (Blk e 109 [.func (.func 145) #[] #[pt c 0,pt d 0]]::Blk c 32 [j]::Blk d 9 [.string f]::Fo) (rs)):=by
 unfold F9 at hm
 refine ent Tryz.func147 rfl Tryz.ntmps147 rfl rfl fun a E=>sq<|bS E H (wn rfl) rfl rfl rfl rfl rfl fun q w a H E=>pr 1 E rfl fun a E=>nx<|pr 1 E rfl fun a E=>lb E H 0 rfl rfl rfl rfl rfl rfl rfl U9 rfl fun a E=>bd hm fun o l hm=>xk E rfl rfl rfl rfl rfl Jc (r9 H l) fun w H a E=>?_
 refine pr 5 E rfl fun a E=>nt<|aV (fun a w=>∃ g b,Env 17 a [(1,pt e 0),(4,.string g)]∧Sep w (Blk e 109 [.func (.func 145) #[] #[pt c 0,pt d 0]]::Blk c 32 [j]::Blk d 9 [.string f]::Fo) b∧(∀ r,r ∈ rs→r ∈ b)∧wE k f g=some r) ?_ ?_
 ·refine sq<|pr 2 E rfl fun a E=>nt<|wif E hm rfl (fun hm=>?_) fun hm=>?_
  ·exact wp_region_lit<|pr 1 E rfl fun a E=>nt<|have H:=H.drop 0;⟨_,_,E.to rfl,H,Y0,hm⟩
  ·exact wp_skip<|aC<|have H:=H.drop 0;⟨_,_,E.to rfl,H,Y0,hm⟩
 ·clear E H hm
  rintro a w ⟨g,b,E,H,i,hm⟩
  unfold wE at hm
  refine sq<|lb E H 0 rfl rfl rfl rfl rfl rfl rfl DQ rfl fun a E=>pr 1 E rfl fun a E=>have H:=H.frs [0,2,2] rfl;bd hm fun p m hm=>aW E (wn rfl) rfl rfl (bR E rfl rfl rfl (Xo _)) (V7 H (i _ n) m)<|?_
  rintro _ w ⟨rfl,H⟩ a E
  refine pr 1 E rfl fun a E=>nt<|wp_ret<|aY E rfl rfl<|have H:=H.frs [1,1,2] rfl;?_
  cases hm
  exact ⟨rfl,H.reads i⟩

def nF(rec_1:(List aF)→(List aF)→Int→Option ((List aF)×(List aF)))(b:Int)(c:(List aF))(d:(List aF)):Option ((List aF)×(List aF)):=
  rec_1 c d (IntKind.i64.wrap (b+1))
def gY(f:List aF)(g:List aG)(i:ByteArray):Nat→(List aF)→(List aF)→Int→Option ((List aF)×(List aF))
  | 0,_,_,_=>none
  | j+1,c,d,e=>
    if (decide (e < (f.length:Int)))=true then ((idx f e).bind fun b=>(F9 b g i).bind fun k=>if k=true then ((ck (c.length+([b]:List aF).length ≤ LIM)).bind fun l=>nF (gY f g i j) e (c ++ ([b]:List aF)) d) else ((ck (d.length+([b]:List aF).length ≤ LIM)).bind fun m=>nF (gY f g i j) e c (d ++ ([b]:List aF)))) else (some (c,d))
def tE(b:List aF)(c:List aG)(d:ByteArray):Option ((List aF)×(List aF)):=
  gY b c d (((b.length:Int) - 0:Int).toNat+1) [] [] 0
theorem K7{D q:Value}{k:List aF}{l f g:Nat}{F:List aG}{m:ByteArray}(H:Sep w (Blk l 109 [.func (.func 145) #[] #[pt f 0,pt g 0]]::Blk f 32 [q]::Blk g 9 [.string m]::Fo) rs)(G:rSl aE D k ∈ rs)(I:rSl aT q F ∈ rs){r:(List aF)×(List aF)}(hm:tE k F m=some r) :
    Calls Tryz.prog 146 [D,.func (.func 147) #[] #[pt l 0]].toArray w (Ret fun v w'=>∃ O P,.tuple #[O,P]=v∧Sep w' (Row 95 aE O r.1::Row 95 aE P r.2::Blk l 109 [.func (.func 145) #[] #[pt f 0,pt g 0]]::Blk f 32 [q]::Blk g 9 [.string m]::Fo) (rs)):=by
 unfold tE at hm
 refine ent Tryz.func146 rfl Tryz.ntmps146 rfl rfl fun a E=>sq<|pr 2 E rfl fun a E=>nx<|pr 2 E rfl fun a E=>nt<|wp_seq<|sq<|pr 1 E rfl fun a E=>?_
 refine sv E rfl rfl rfl (cV E H rfl rfl G U22) fun a E=>pr 1 E rfl fun a E=>nt<|wp_block<|bX (fun n a w=>∃ s t u y j o,Env 30 a [(1,.func (.func 147) #[] #[pt l 0]),(6,s),(7,t),(10,D),(11,.int .i64 (k.length:Int)),(12,.int .i64 j)]∧Sep w (Blk l 109 [.func (.func 145) #[] #[pt f 0,pt g 0]]::Row 95 aE s u::Row 95 aE t y::Blk f 32 [q]::Blk g 9 [.string m]::Fo) o∧(∀ r,r ∈ rs→r ∈ o)∧gY k F m n u y j=some r) (((k.length:Int) - 0:Int).toNat+1) ?_ ?_
 ·exact have H:=H.nilRow 95 aE;have H:=H.nilRow 95 aE;have H:=H.frs [4,4,2,3,4] rfl;X6 ⟨E.to rfl,H,Y0,hm⟩
 ·clear E H hm
  rintro n a w ⟨s,t,u,y,j,o,E,H,c,hm⟩
  cases n with
  | zero=>exact (bU hm rfl).elim
  | succ n=>
   unfold gY at hm
   refine sq<|pr 1 E rfl fun a E=>nt<|wp_seq<|wif E hm rfl (fun hm=>?_) fun hm=>?_
   ·refine wp_skip<|aC<|aV (fun a w=>∃ z A B C p,Env 30 a [(1,.func (.func 147) #[] #[pt l 0]),(6,z),(7,A),(10,D),(11,.int .i64 (k.length:Int)),(12,.int .i64 j)]∧Sep w (Blk l 109 [.func (.func 145) #[] #[pt f 0,pt g 0]]::Row 95 aE z B::Row 95 aE A C::Blk f 32 [q]::Blk g 9 [.string m]::Fo) p∧(∀ r,r ∈ rs→r ∈ p)∧nF (gY k F m n) j B C=some r) ?_ ?_
    ·refine wp_block<|sq<|bd hm fun b J hm=>dR E H (wn rfl) rfl rfl rfl rfl rfl (c _ G) U22 iZ J fun q26 a H E=>ldf cO E H rfl rfl rfl rfl rfl m0 U95 rfl iZ fun a E=>al E H rfl rfl rfl rfl Vf fun Q w a H E=>bA (i:=0) E H (wn rfl) rfl rfl rfl rfl rfl rfl iZ rfl rfl fun w H=>nx<|pr 1 E rfl fun a E=>?_
     refine sv E rfl rfl rfl (cC (i:=0) (us:=(kM b)) E H rfl rfl rfl rfl U95 rfl iZ) fun a E=>have H:=H.frs [3,3,2,5,5,5] rfl;bd hm fun R K hm=>aW E (wn rfl) rfl rfl (bR E rfl rfl rfl (JE _)) (Iu H (t1 (c _ I)) K)<|?_
     rintro _ w ⟨rfl,H⟩ a E
     refine nt<|wif E hm rfl (fun hm=>?_) fun hm=>?_
     ·refine wp_region_lit<|pr 1 E rfl fun a E=>sv E rfl rfl rfl (cC (i:=3) (us:=(kM b)) E H rfl rfl rfl rfl U95 rfl iZ) fun a E=>sM (e:=95) (d:=aE) (cs:=[.string b.Path,.string b.Data,.int .i64 b.Version,.int .i64 b.Turn,.int .i64 b.Owner]) (xs:=[b]) E H (wn rfl) rfl rfl rfl (E.evs rfl) (by kernel_rfl) rfl (fun ok hr=>(Rows.single (d:=aE) (cs:=[.string b.Path,.string b.Data,.int .i64 b.Version,.int .i64 b.Turn,.int .i64 b.Owner]) (x:=b) wU)) fun S w a H E=>bk hm fun L hm=>eK (i:=4) E H (wn rfl) rfl rfl rfl rfl rfl rfl (lB m0) U22 Ji rfl L rfl fun T w a H E=>pr 1 E rfl fun a E=>wpList_nil<|bZ<|?_
      exact aC<|have H:=H.drop 3;have H:=H.frs [2,2,4,4,4] rfl;X5 ⟨E.to rfl,H,(Y2 c),hm⟩
     ·refine wp_region_lit<|pr 1 E rfl fun a E=>sv E rfl rfl rfl (cC (i:=3) (us:=(kM b)) E H rfl rfl rfl rfl U95 rfl iZ) fun a E=>sM (e:=95) (d:=aE) (cs:=[.string b.Path,.string b.Data,.int .i64 b.Version,.int .i64 b.Turn,.int .i64 b.Owner]) (xs:=[b]) E H (wn rfl) rfl rfl rfl (E.evs rfl) (by kernel_rfl) rfl (fun ok hr=>(Rows.single (d:=aE) (cs:=[.string b.Path,.string b.Data,.int .i64 b.Version,.int .i64 b.Turn,.int .i64 b.Owner]) (x:=b) wU)) fun U w a H E=>bk hm fun M hm=>eK (i:=5) E H (wn rfl) rfl rfl rfl rfl rfl rfl (lB m0) U22 Ji rfl M rfl fun V w a H E=>pr 1 E rfl fun a E=>wpList_nil<|bZ<|?_
      exact aC<|have H:=H.drop 3;have H:=H.frs [2,2,4,4,4] rfl;X5 ⟨E.to rfl,H,(Y2 c),hm⟩
    ·clear E H hm
     rintro a w ⟨z,A,B,C,p,E,H,N,hm⟩
     unfold nF at hm
     exact wp_region_lit<|pr 2 E rfl fun a E=>nt<|⟨n,Nat.lt_succ_self n,X6 ⟨E.to rfl,H,N,hm⟩⟩
   ·refine wp_exit<|bG<|bG<|dN<|aC<|sq<|pr 4 E rfl fun a E=>nt<|wp_ret<|?_
    refine hG E rfl rfl rfl<|have H:=H.frs [4,4,2,4,4] rfl;?_
    cases hm
    exact ⟨_,_,rfl,H.reads c⟩

def G1(x1:aJ)(c:List aG)(d:ByteArray):Option Bool:=
  (s1 x1.Dir c d).bind fun b=>some (b)
theorem Iv{x1:aJ}{d b c:Nat}{e:Value}{i:List aG}{f:ByteArray}(H:Sep w (Blk d 109 [.func (.func 145) #[] #[pt b 0,pt c 0]]::Blk b 32 [e]::Blk c 9 [.string f]::Fo) rs)(j:rSl aT e i ∈ rs){r:Bool}(hm:G1 x1 i f=some r) :
    Calls Tryz.prog 150 [.agg #[.string x1.Dir,.int .i64 x1.Next],pt d 0].toArray w (Ret fun v w'=>.bool r=v∧Sep w' (Blk d 109 [.func (.func 145) #[] #[pt b 0,pt c 0]]::Blk b 32 [e]::Blk c 9 [.string f]::Fo) (rs)):=by
 unfold G1 at hm
 refine ent Tryz.func150 rfl Tryz.ntmps150 rfl rfl fun a E=>sq<|bS E H (wn rfl) rfl rfl rfl rfl rfl fun l w a H E=>pr 1 E rfl fun a E=>nx<|lb E H 1 rfl rfl rfl rfl rfl rfl rfl DQ rfl fun a E=>pr 1 E rfl fun a E=>lb E H 0 rfl rfl rfl rfl rfl rfl rfl U9 rfl fun a E=>have H:=H.frs [1,1,3,3] rfl;?_
 refine bd hm fun k g hm=>aW E (wn rfl) rfl rfl (bR E rfl rfl rfl (Xo _)) (V7 H j g)<|?_
 rintro _ w ⟨rfl,H⟩ a E
 refine pr 1 E rfl fun a E=>nt<|wp_ret<|aY E rfl rfl<|have H:=H.drop 2;have H:=H.frs [1,1,2] rfl;?_
 cases hm
 exact ⟨rfl,H.reads Y0⟩

def nG(rec_1:(List aJ)→(List aJ)→Int→Option ((List aJ)×(List aJ)))(b:Int)(c:(List aJ))(d:(List aJ)):Option ((List aJ)×(List aJ)):=
  rec_1 c d (IntKind.i64.wrap (b+1))
def gZ(f:List aJ)(g:List aG)(i:ByteArray):Nat→(List aJ)→(List aJ)→Int→Option ((List aJ)×(List aJ))
  | 0,_,_,_=>none
  | j+1,c,d,e=>
    if (decide (e < (f.length:Int)))=true then ((idx f e).bind fun b=>(G1 b g i).bind fun k=>if k=true then ((ck (c.length+([b]:List aJ).length ≤ LIM)).bind fun l=>nG (gZ f g i j) e (c ++ ([b]:List aJ)) d) else ((ck (d.length+([b]:List aJ).length ≤ LIM)).bind fun m=>nG (gZ f g i j) e c (d ++ ([b]:List aJ)))) else (some (c,d))
def tF(b:List aJ)(c:List aG)(d:ByteArray):Option ((List aJ)×(List aJ)):=
  gZ b c d (((b.length:Int) - 0:Int).toNat+1) [] [] 0
theorem K8{D q:Value}{k:List aJ}{l f g:Nat}{F:List aG}{m:ByteArray}(H:Sep w (Blk l 109 [.func (.func 145) #[] #[pt f 0,pt g 0]]::Blk f 32 [q]::Blk g 9 [.string m]::Fo) rs)(G:rSl aI D k ∈ rs)(I:rSl aT q F ∈ rs){r:(List aJ)×(List aJ)}(hm:tF k F m=some r) :
    Calls Tryz.prog 149 [D,.func (.func 150) #[] #[pt l 0]].toArray w (Ret fun v w'=>∃ O P,.tuple #[O,P]=v∧Sep w' (Row 77 aI O r.1::Row 77 aI P r.2::Blk l 109 [.func (.func 145) #[] #[pt f 0,pt g 0]]::Blk f 32 [q]::Blk g 9 [.string m]::Fo) (rs)):=by
 unfold tF at hm
 refine ent Tryz.func149 rfl Tryz.ntmps149 rfl rfl fun a E=>sq<|pr 2 E rfl fun a E=>nx<|pr 2 E rfl fun a E=>nt<|wp_seq<|sq<|pr 1 E rfl fun a E=>?_
 refine sv E rfl rfl rfl (cV E H rfl rfl G U23) fun a E=>pr 1 E rfl fun a E=>nt<|wp_block<|bX (fun n a w=>∃ s t u y j o,Env 30 a [(1,.func (.func 150) #[] #[pt l 0]),(6,s),(7,t),(10,D),(11,.int .i64 (k.length:Int)),(12,.int .i64 j)]∧Sep w (Blk l 109 [.func (.func 145) #[] #[pt f 0,pt g 0]]::Row 77 aI s u::Row 77 aI t y::Blk f 32 [q]::Blk g 9 [.string m]::Fo) o∧(∀ r,r ∈ rs→r ∈ o)∧gZ k F m n u y j=some r) (((k.length:Int) - 0:Int).toNat+1) ?_ ?_
 ·exact have H:=H.nilRow 77 aI;have H:=H.nilRow 77 aI;have H:=H.frs [4,4,2,3,4] rfl;X6 ⟨E.to rfl,H,Y0,hm⟩
 ·clear E H hm
  rintro n a w ⟨s,t,u,y,j,o,E,H,c,hm⟩
  cases n with
  | zero=>exact (bU hm rfl).elim
  | succ n=>
   unfold gZ at hm
   refine sq<|pr 1 E rfl fun a E=>nt<|wp_seq<|wif E hm rfl (fun hm=>?_) fun hm=>?_
   ·refine wp_skip<|aC<|aV (fun a w=>∃ z A B C p,Env 30 a [(1,.func (.func 150) #[] #[pt l 0]),(6,z),(7,A),(10,D),(11,.int .i64 (k.length:Int)),(12,.int .i64 j)]∧Sep w (Blk l 109 [.func (.func 145) #[] #[pt f 0,pt g 0]]::Row 77 aI z B::Row 77 aI A C::Blk f 32 [q]::Blk g 9 [.string m]::Fo) p∧(∀ r,r ∈ rs→r ∈ p)∧nG (gZ k F m n) j B C=some r) ?_ ?_
    ·refine wp_block<|sq<|bd hm fun b J hm=>dR E H (wn rfl) rfl rfl rfl rfl rfl (c _ G) U23 oG J fun q26 a H E=>ldf dU E H rfl rfl rfl rfl rfl m0 U77 rfl oG fun a E=>al E H rfl rfl rfl rfl LL fun Q w a H E=>bA (i:=0) E H (wn rfl) rfl rfl rfl rfl rfl rfl oG rfl rfl fun w H=>nx<|pr 1 E rfl fun a E=>?_
     refine sv E rfl rfl rfl (cC (i:=0) (us:=[.string b.Dir,.int .i64 b.Next]) E H rfl rfl rfl rfl U77 rfl oG) fun a E=>have H:=H.frs [3,3,2,5,5,5] rfl;bd hm fun R K hm=>aW E (wn rfl) rfl rfl (bR E rfl rfl rfl (JG _)) (Iv H (t1 (c _ I)) K)<|?_
     rintro _ w ⟨rfl,H⟩ a E
     refine nt<|wif E hm rfl (fun hm=>?_) fun hm=>?_
     ·refine wp_region_lit<|pr 1 E rfl fun a E=>sv E rfl rfl rfl (cC (i:=3) (us:=[.string b.Dir,.int .i64 b.Next]) E H rfl rfl rfl rfl U77 rfl oG) fun a E=>sM (e:=77) (d:=aI) (cs:=[.string b.Dir,.int .i64 b.Next]) (xs:=[b]) E H (wn rfl) rfl rfl rfl (E.evs rfl) (by kernel_rfl) rfl (fun ok hr=>(Rows.single (d:=aI) (cs:=[.string b.Dir,.int .i64 b.Next]) (x:=b) tN)) fun S w a H E=>bk hm fun L hm=>eK (i:=4) E H (wn rfl) rfl rfl rfl rfl rfl rfl (lB m0) U23 Jj rfl L rfl fun T w a H E=>pr 1 E rfl fun a E=>wpList_nil<|bZ<|?_
      exact aC<|have H:=H.drop 3;have H:=H.frs [2,2,4,4,4] rfl;X5 ⟨E.to rfl,H,(Y2 c),hm⟩
     ·refine wp_region_lit<|pr 1 E rfl fun a E=>sv E rfl rfl rfl (cC (i:=3) (us:=[.string b.Dir,.int .i64 b.Next]) E H rfl rfl rfl rfl U77 rfl oG) fun a E=>sM (e:=77) (d:=aI) (cs:=[.string b.Dir,.int .i64 b.Next]) (xs:=[b]) E H (wn rfl) rfl rfl rfl (E.evs rfl) (by kernel_rfl) rfl (fun ok hr=>(Rows.single (d:=aI) (cs:=[.string b.Dir,.int .i64 b.Next]) (x:=b) tN)) fun U w a H E=>bk hm fun M hm=>eK (i:=5) E H (wn rfl) rfl rfl rfl rfl rfl rfl (lB m0) U23 Jj rfl M rfl fun V w a H E=>pr 1 E rfl fun a E=>wpList_nil<|bZ<|?_
      exact aC<|have H:=H.drop 3;have H:=H.frs [2,2,4,4,4] rfl;X5 ⟨E.to rfl,H,(Y2 c),hm⟩
    ·clear E H hm
     rintro a w ⟨z,A,B,C,p,E,H,N,hm⟩
     unfold nG at hm
     exact wp_region_lit<|pr 2 E rfl fun a E=>nt<|⟨n,Nat.lt_succ_self n,X6 ⟨E.to rfl,H,N,hm⟩⟩
   ·refine wp_exit<|bG<|bG<|dN<|aC<|sq<|pr 4 E rfl fun a E=>nt<|wp_ret<|?_
    refine hG E rfl rfl rfl<|have H:=H.frs [4,4,2,4,4] rfl;?_
    cases hm
    exact ⟨_,_,rfl,H.reads c⟩

def zN(x1:aR)(d:List aG)(e:ByteArray)(f:Bool):Option ((List aF)×(List aJ)×(List aF)×(List aJ)):=
  if f=true then (some ([],[],[],[])) else ((tE x1.Nodes d e).bind fun b=>(tF x1.Turns d e).bind fun c=>some (b.1,c.1,b.2,c.2))
def xJ(x1:aR)(b:List aG)(c:ByteArray):Option ((List aF)×(List aJ)×(List aF)×(List aJ)):=
  (mZ x1).bind fun d=>if (!d)=true then (zN x1 b c true) else ((nE b).bind fun e=>zN x1 b c (!e))
theorem lP{x1:aR}{l m L:Value}{n:List aG}{o:ByteArray}(H:Sep w (Fo) rs)(p:rSl aE l x1.Nodes ∈ rs)(q:rSl aI m x1.Turns ∈ rs)(f:rSl aT L n ∈ rs){r:(List aF)×(List aJ)×(List aF)×(List aJ)}(hm:xJ x1 n o=some r) :
    Calls Tryz.prog 78 [.agg #[l,m],L,.string o].toArray w (Ret fun v w'=>∃ M N O P,.tuple #[.agg #[M,N],.agg #[O,P]]=v∧Sep w' (Row 95 aE M r.1::Row 77 aI N r.2.1::Row 95 aE O r.2.2.1::Row 77 aI P r.2.2.2::Fo) (rs)):=by
 unfold xJ at hm
 refine ent Tryz.func78 rfl Tryz.ntmps78 rfl rfl fun a E=>sq<|bS E H (wn rfl) rfl rfl rfl rfl rfl fun s w a H E=>?_
 obtain ⟨q12,Q,rfl⟩:=H.slform f
 refine bS E H (wn rfl) rfl rfl rfl rfl rfl fun t w a H E=>bS E H (wn rfl) rfl rfl rfl rfl rfl fun u w a H E=>al E H rfl rfl rfl rfl lF fun x w a H E=>al E H rfl rfl rfl rfl lF fun y w a H E=>nx<|al E H rfl rfl rfl rfl lF fun z w a H E=>al E H rfl rfl rfl rfl lF fun A w a H E=>nt<|wp_seq<|aV (fun a w=>∃ k e,Env 42 a [(3,pt s 0),(4,pt t 0),(5,pt u 0),(6,pt x 0),(7,pt y 0),(8,pt z 0),(9,pt A 0),(18,.bool k)]∧Sep w (Blk s 25 [l,m]::Blk t 32 [(.slice q12 n.length Q)]::Blk u 9 [.string o]::Blk x 25 [.slice none 0 0,.slice none 0 0]::Blk y 25 [.slice none 0 0,.slice none 0 0]::Blk z 25 [.slice none 0 0,.slice none 0 0]::Blk A 25 [.slice none 0 0,.slice none 0 0]::Fo) e∧(∀ r,r ∈ rs→r ∈ e)∧zN x1 n o k=some r) ?_ ?_
 ·refine wp_region_lit<|sv E rfl rfl rfl (cC (i:=6) (us:=[l,m]) E H rfl rfl rfl rfl U25 rfl dJ) fun a E=>bd hm fun R G hm=>xk E rfl rfl rfl rfl rfl Pb (y9 H p q G) fun w H a E=>pr 2 E rfl fun a E=>cs hm (fun c hm=>?_) fun c hm=>?_
  ·exact pk 4 E (kc 14 rfl c) rfl fun a E=>nt<|have H:=H.frs [0,1,2,3,4,5,6] rfl;⟨_,_,E.to rfl,H,Y0,hm⟩
  ·refine aQ E (ws' (d:=14) E rfl rfl rfl rfl c) rfl rfl (cD (i:=5) E H rfl rfl rfl rfl U32 rfl) fun a E=>bd hm fun S I hm=>aW E (ws' (d:=14) E rfl rfl rfl rfl c) rfl rfl (cB E rfl rfl (Ku _)) (wX H f I)<|?_
   rintro _ w ⟨rfl,H⟩ a E
   exact pk 2 E (kc 14 rfl c) rfl fun a E=>nt<|have H:=H.frs [0,1,2,3,4,5,6] rfl;⟨_,_,E.to rfl,H,Y0,hm⟩
 ·clear E H hm
  rintro a w ⟨k,e,E,H,b,hm⟩
  unfold zN at hm
  refine wif E hm rfl (fun hm=>?_) fun hm=>?_
  ·refine wp_seq<|dw [(0,0),(1,0),(2,1),(3,2)] [5,6] [] H (by kernel_rfl) (fun _ _ _ h=>False.elim h.2) fun w W0 hI H=>fbn E [.slice none 0 0,.slice none 0 0] rfl (wn rfl) rfl rfl rfl rfl m0 rfl U25 rfl dJ fun a E=>fbn E [.slice none 0 0,.slice none 0 0] rfl (wn rfl) rfl rfl rfl rfl mm1 rfl U25 rfl dJ fun a E=>bY rfl<|bA (i:=3) E H (wn rfl) rfl rfl rfl rfl rfl rfl dJ rfl rfl fun w H=>nt<|?_
   refine ⟨⟨_,_,H,(aB mm5 (aB mm6 (aL))),(aM)⟩,?_⟩
   refine bO rfl<|bA (i:=4) E H (wn rfl) rfl rfl rfl rfl rfl rfl dJ rfl rfl fun w H=>nt<|bP<|?_
   clear hI
   refine aC<|wp_ret<|aP<|uN E rfl (dD (i:=3) (us:=[.slice none 0 0,.slice none 0 0]) H rfl rfl rfl U25 rfl dJ) (dD (i:=4) (us:=[.slice none 0 0,.slice none 0 0]) H rfl rfl rfl U25 rfl dJ)<|have H:=H.nilRow 95 aE;have H:=H.nilRow 77 aI;have H:=H.nilRow 95 aE;have H:=H.nilRow 77 aI;have H:=H.drs [4,4,4,4,4,4,4];?_
   refine have H:=H.frs [0,1,2,3] rfl;?_
   cases hm
   exact X4 ⟨rfl,H.reads b⟩
  ·refine wp_skip<|aC<|sq<|sv E rfl rfl rfl (kJ E rfl rfl rfl) fun a E=>al1 E H rfl rfl rfl rfl JB rfl fun T w a H E=>bA (i:=0) E H (wn rfl) rfl rfl rfl rfl rfl rfl JC rfl rfl fun w H=>nx<|pr 1 E rfl fun a E=>lb E H 1 rfl rfl rfl rfl rfl rfl rfl U22 rfl fun a E=>?_
   refine sv E rfl rfl rfl (kJ E rfl rfl rfl) fun a E=>have H:=H.frs [7,7,7,7,5,7,7,7] rfl;bd hm fun g J hm=>cF E rfl rfl rfl rfl rfl JD (K7 H (b _ p) (b _ f) J)<|?_
   rintro _ w ⟨U,V,rfl,H⟩ a E
   refine pr 4 E rfl fun a E=>?_
   obtain ⟨q27,B,rfl⟩:=H.rowform (i:=0) rfl
   refine bA (i:=8) E H (wn rfl) rfl rfl rfl rfl rfl rfl Gp rfl rfl fun w H=>pr 1 E rfl fun a E=>?_
   obtain ⟨q29,C,rfl⟩:=H.rowform (i:=1) rfl
   refine bA (i:=9) E H (wn rfl) rfl rfl rfl rfl rfl rfl Gp rfl rfl fun w H=>nx<|pr 1 E rfl fun a E=>lb E H 5 rfl rfl rfl rfl rfl rfl rfl U23 rfl fun a E=>sv E rfl rfl rfl (kJ E rfl rfl rfl) fun a E=>have H:=H.frs [9,9,9,9,9,6,6,9,9,9] rfl;bd hm fun j K hm=>cF E rfl rfl rfl rfl rfl JF (K8 H (b _ q) (b _ f) K)<|?_
   rintro _ w ⟨W,X,rfl,H⟩ a E
   refine pr 4 E rfl fun a E=>?_
   obtain ⟨q35,D,rfl⟩:=H.rowform (i:=0) rfl
   refine bA (i:=10) E H (wn rfl) rfl rfl rfl rfl rfl rfl T1 rfl rfl fun w H=>pr 1 E rfl fun a E=>?_
   obtain ⟨q37,F,rfl⟩:=H.rowform (i:=1) rfl
   refine bA (i:=11) E H (wn rfl) rfl rfl rfl rfl rfl rfl T1 rfl rfl fun w H=>nt<|wp_seq<|dw [(0,0),(1,0),(2,1),(3,2)] [10,11] [] H (by kernel_rfl) (fun _ _ _ h=>False.elim h.2) fun w W0 hI H=>fbn E [(.slice q27 g.1.length B),(.slice q35 j.1.length D)] rfl (wn rfl) rfl rfl rfl rfl m0 rfl U25 rfl dJ fun a E=>fbn E [(.slice q29 g.2.length C),(.slice q37 j.2.length F)] rfl (wn rfl) rfl rfl rfl rfl mm1 rfl U25 rfl dJ fun a E=>bY rfl<|bA (i:=8) E H (wn rfl) rfl rfl rfl rfl rfl rfl dJ rfl rfl fun w H=>nt<|?_
   refine ⟨⟨_,_,H,(aB (t4 mm6) (aB (t5 mm6) (aL))),(aM)⟩,?_⟩
   refine bO rfl<|bA (i:=9) E H (wn rfl) rfl rfl rfl rfl rfl rfl dJ rfl rfl fun w H=>nt<|bP<|?_
   clear hI
   refine aC<|wp_ret<|uN E rfl (dD (i:=8) (us:=[(.slice q27 g.1.length B),(.slice q35 j.1.length D)]) H rfl rfl rfl U25 rfl dJ) (dD (i:=9) (us:=[(.slice q29 g.2.length C),(.slice q37 j.2.length F)]) H rfl rfl rfl U25 rfl dJ)<|have H:=H.drs [2,2,2,4,4,4,4,4];have H:=H.frs [1,3,2,3] rfl;?_
   cases hm
   exact X4 ⟨rfl,H.reads b⟩

def nI(b:ByteArray)(c:ByteArray):Option Int:=
  some (Extern.BytealgCompare.cmp b c)
theorem w6{b c:ByteArray}(H:Sep w (Fo) rs){r:Int}(hm:nI b c=some r) :
    Calls Tryz.prog 158 [.string b,.string c].toArray w (Ret fun v w'=>.int .i64 r=v∧Sep w' (Fo) (rs)):=by
 unfold nI at hm
 refine ent Tryz.func158 rfl Tryz.ntmps158 rfl rfl fun a E=>sq<|pr 1 E rfl fun a E=>nx<|pr 2 E rfl fun a E=>sv E rfl rfl rfl (Bc E rfl rfl (Sc _ _ _)) fun a E=>pr 1 E rfl fun a E=>nt<|wp_ret<|?_
 refine aY E rfl rfl<|?_
 cases hm
 exact ⟨rfl,H.reads Y0⟩

def jZ(b:ByteArray)(c:ByteArray):Option Int:=
  (nI b c).bind fun d=>some (d)
theorem rK{b c:ByteArray}(H:Sep w (Fo) rs){r:Int}(hm:jZ b c=some r) :
    Calls Tryz.prog 84 [.string b,.string c].toArray w (Ret fun v w'=>.int .i64 r=v∧Sep w' (Fo) (rs)):=by
 unfold jZ at hm
 refine ent Tryz.func84 rfl Tryz.ntmps84 rfl rfl fun a E=>sq<|pr 1 E rfl fun a E=>nx<|pr 2 E rfl fun a E=>bd hm fun e d hm=>xk E rfl rfl rfl rfl rfl IA (w6 H d) fun w H a E=>pr 1 E rfl fun a E=>nt<|?_
 refine wp_ret<|aY E rfl rfl<|?_
 cases hm
 exact ⟨rfl,H.reads Y0⟩

def zO(x1:aG)(b:ByteArray):Option Int:=
  (jZ x1.Prefix b).bind fun c=>some (c)
theorem Q6{x1:aG}{b:ByteArray}(H:Sep w (Fo) rs){r:Int}(hm:zO x1 b=some r) :
    Calls Tryz.prog 204 [.agg (mV x1).toArray,.string b].toArray w (Ret fun v w'=>.int .i64 r=v∧Sep w' (Fo) (rs)):=by
 unfold zO at hm
 refine ent Tryz.func204 rfl Tryz.ntmps204 rfl rfl fun a E=>sq<|bS E H (wn rfl) rfl rfl rfl rfl rfl fun d w a H E=>pr 1 E rfl fun a E=>nx<|pr 1 E rfl fun a E=>lb E H 0 rfl rfl rfl rfl rfl rfl rfl U9 rfl fun a E=>pr 1 E rfl fun a E=>bd hm fun e c hm=>?_
 refine xk E rfl rfl rfl rfl rfl Ld (rK H c) fun w H a E=>pr 1 E rfl fun a E=>nt<|wp_ret<|aY E rfl rfl<|have H:=H.drop 0;?_
 cases hm
 exact ⟨rfl,H.reads Y0⟩

def dK(c:List aG)(e:ByteArray):Nat→Int→Int→Option (Int×Bool)
  | 0,_,_=>none
  | f+1,b,d=>
    if (decide (b < d))=true then ((idx c (IntKind.i64.wrap (rD .u64 (IntKind.u64.wrap (IntKind.i64.wrap (b+d))) 1))).bind fun k=>(zO k e).bind fun g=>if (decide (g < 0))=true then (dK c e f (IntKind.i64.wrap ((IntKind.i64.wrap (rD .u64 (IntKind.u64.wrap (IntKind.i64.wrap (b+d))) 1))+1)) d) else (dK c e f b (IntKind.i64.wrap (rD .u64 (IntKind.u64.wrap (IntKind.i64.wrap (b+d))) 1)))) else (if (decide (b < (c.length:Int)))=true then ((idx c b).bind fun i=>(zO i e).bind fun j=>some (b,j == 0)) else (some (b,false)))
def fP(b:List aG)(c:ByteArray):Option (Int×Bool):=
  dK b c (((b.length:Int) - 0:Int).toNat+1) 0 (b.length:Int)
theorem rH{k:Value}{f:List aG}{j:ByteArray}(H:Sep w (Fo) rs)(g:rSl aT k f ∈ rs){r:Int×Bool}(hm:fP f j=some r) :
    Calls Tryz.prog 152 [k,.string j,.func (.func 204) #[] #[]].toArray w (Ret fun v w'=>.tuple #[.int .i64 r.1,.bool r.2]=v∧Sep w' (Fo) (rs)):=by
 unfold fP at hm
 refine ent Tryz.func152 rfl Tryz.ntmps152 rfl rfl fun a E=>sq<|pr 2 E rfl fun a E=>nx<|pr 1 E rfl fun a E=>sv E rfl rfl rfl (cV E H rfl rfl g U32) fun a E=>pr 1 E rfl fun a E=>nx<|pr 3 E rfl fun a E=>?_
 refine nt<|wp_seq<|wp_block<|bX (fun e a w=>∃ l m i,Env 49 a [(0,k),(1,.string j),(2,.func (.func 204) #[] #[]),(8,.int .i64 (f.length:Int)),(9,.int .i64 l),(10,.int .i64 m)]∧Sep w (Fo) i∧(∀ r,r ∈ rs→r ∈ i)∧dK f j e l m=some r) (((f.length:Int) - 0:Int).toNat+1) ?_ ?_
 ·exact X3 ⟨E.to rfl,H,Y0,hm⟩
 ·clear E H hm
  rintro e a w ⟨l,m,i,E,H,c,hm⟩
  cases e with
  | zero=>exact (bU hm rfl).elim
  | succ e=>
   unfold dK at hm
   refine wp_seq<|sq<|pr 3 E rfl fun a E=>nt<|wif E hm rfl (fun hm=>?_) fun hm=>?_
   ·refine wp_skip<|aC<|wp_block<|sq<|pr 4 E rfl fun a E=>sv E rfl rfl rfl (S4 E rfl rfl rfl (by decide)) fun a E=>pr 2 E rfl fun a E=>nx<|pr 3 E rfl fun a E=>?_
    refine bd hm fun y n hm=>dR E H (wn rfl) rfl rfl rfl rfl rfl (c _ g) U32 iK n fun q11 a H E=>ldf jI E H rfl rfl rfl rfl rfl m0 U31 rfl iK fun a E=>pr 1 E rfl fun a E=>bd hm fun s o hm=>aW E (wn rfl) rfl rfl (bR E rfl rfl rfl (Xm _)) (Q6 H o)<|?_
    rintro _ w ⟨rfl,H⟩ a E
    refine pr 1 E rfl fun a E=>nt<|wif E hm rfl (fun hm=>?_) fun hm=>?_
    ·exact wp_region_lit<|pr 3 E rfl fun a E=>wpList_nil<|bZ<|aC<|⟨e,Nat.lt_succ_self e,X3 ⟨E.to rfl,H,(Y1 c),hm⟩⟩
    ·exact wp_region_lit<|pr 2 E rfl fun a E=>wpList_nil<|bZ<|aC<|⟨e,Nat.lt_succ_self e,X3 ⟨E.to rfl,H,(Y1 c),hm⟩⟩
   ·refine wp_exit<|bG<|bG<|dN<|aC<|sq<|pr 5 E rfl fun a E=>cs hm (fun b hm=>?_) fun b hm=>?_
    ·refine pk 3 E (kc 39 rfl b) rfl fun a E=>bd hm fun t p hm=>dR E H (ws' (d:=39) E rfl rfl rfl rfl b) rfl rfl rfl rfl rfl (c _ g) U32 iK p fun q17 a H E=>W9 E H (ws' (d:=39) E rfl rfl rfl rfl b) rfl rfl rfl rfl m0 U31 rfl iK fun u a H E=>?_
     obtain ⟨_,hcs⟩:=H.rd (.head _)
     obtain rfl:=J3 hcs
     clear hcs
     refine pk 1 E (kc 39 rfl b) rfl fun a E=>bd hm fun x q hm=>aW E (ws' (d:=39) E rfl rfl rfl rfl b) rfl rfl (bR E rfl rfl rfl (Xm _)) (Q6 H q)<|?_
     rintro _ w ⟨rfl,H⟩ a E
     refine pk 4 E (kc 39 rfl b) rfl fun a E=>nt<|wp_ret<|hG E rfl rfl rfl<|?_
     cases hm
     exact ⟨rfl,H.reads (Y2 c)⟩
    ·refine pk 11 E (kc 39 rfl b) rfl fun a E=>nt<|wp_ret<|hG E rfl rfl rfl<|?_
     cases hm
     exact ⟨rfl,H.reads c⟩

def yV(c:List aG)(d:ByteArray):Option (Int×Bool):=
  (fP c d).bind fun b=>some (b.1,b.2)
theorem J8{b:Value}{c:List aG}{d:ByteArray}(H:Sep w (Fo) rs)(e:rSl aT b c ∈ rs){r:Int×Bool}(hm:yV c d=some r) :
    Calls Tryz.prog 151 [b,.string d].toArray w (Ret fun v w'=>.tuple #[.int .i64 r.1,.bool r.2]=v∧Sep w' (Fo) (rs)):=by
 unfold yV at hm
 refine ent Tryz.func151 rfl Tryz.ntmps151 rfl rfl fun a E=>sq<|pr 2 E rfl fun a E=>nx<|pr 2 E rfl fun a E=>bd hm fun g f hm=>xk E rfl rfl rfl rfl rfl Xl (rH H e f) fun w H a E=>pr 4 E rfl fun a E=>nt<|?_
 refine wp_ret<|hG E rfl rfl rfl<|?_
 cases hm
 exact ⟨rfl,H.reads Y0⟩

def zP(c:Int×Bool)(x3:aG)(b:(List aG)):Option ((List aG)×Bool):=
  (idx b c.1).bind fun d=>some (b.set c.1.toNat x3,true)
def zQ(b:Int×Bool)(x3:aG)(c:List aG)(d:Bool):Option ((List aG)×Bool):=
  if d=true then (some ([],false)) else ((ck (c.length ≤ LIM)).bind fun e=>if (!b.2)=true then ((ck (0 ≤ b.1∧b.1 ≤ c.length∧c.length ≤ 1000000)).bind fun f=>zP b x3 (c.take b.1.toNat ++ x3::c.drop b.1.toNat)) else (zP b x3 c))
def r6(b:List aG)(x3:aG):Option ((List aG)×Bool):=
  (yV b x3.Prefix).bind fun c=>if (!c.2)=true then (zQ c x3 b ((b.length:Int) == 32)) else (zQ c x3 b false)
theorem O3{q:Value}{s:List aG}{x3:aG}(H:Sep w (Fo) rs)(j:rSl aT q s ∈ rs){r:(List aG)×Bool}(hm:r6 s x3=some r) :
    Calls Tryz.prog 143 [q,.agg (mV x3).toArray].toArray w (Ret fun v w'=>∃ A,.tuple #[A,.bool r.2]=v∧Sep w' (Row 31 aT A r.1::Fo) (rs)):=by
 unfold r6 at hm
 refine ent Tryz.func143 rfl Tryz.ntmps143 rfl rfl fun a E=>sq<|bS E H (wn rfl) rfl rfl rfl rfl rfl fun p w a H E=>pr 2 E rfl fun a E=>nx<|pr 2 E rfl fun a E=>lb E H 0 rfl rfl rfl rfl rfl rfl rfl U9 rfl fun a E=>bd hm fun k B hm=>xk E rfl rfl rfl rfl rfl Qe (J8 H j B) fun w H a E=>?_
 refine pr 5 E rfl fun a E=>nt<|wp_seq<|aV (fun a w=>∃ t l,Env 36 a [(0,q),(3,pt p 0),(6,.int .i64 k.1),(7,.bool k.2),(21,.bool t)]∧Sep w (Blk p 31 (mV x3)::Fo) l∧(∀ r,r ∈ rs→r ∈ l)∧zQ k x3 s t=some r) ?_ ?_
 ·refine wp_region_lit<|pr 3 E rfl fun a E=>cs hm (fun b hm=>?_) fun b hm=>?_
  ·exact pk 1 E (kc 17 rfl b) rfl fun a E=>aQ E (ws' (d:=17) E rfl rfl rfl rfl b) rfl rfl (cV E H rfl rfl j U32) fun a E=>pk 2 E (kc 17 rfl b) rfl fun a E=>nt<|⟨_,_,E.to rfl,H,Y0,hm⟩
  ·exact pk 4 E (kc 17 rfl b) rfl fun a E=>nt<|⟨_,_,E.to rfl,H,Y0,hm⟩
 ·clear E H hm
  rintro a w ⟨t,l,E,H,c,hm⟩
  unfold zQ at hm
  refine wif E hm rfl (fun hm=>?_) fun hm=>?_
  ·refine sq<|pr 2 E rfl fun a E=>nt<|wp_ret<|aP<|hG E rfl rfl rfl<|have H:=H.nilRow 31 aT;have H:=H.drop 1;?_
   cases hm
   exact ⟨_,rfl,H.reads c⟩
  ·refine wp_skip<|aC<|sq<|pr 1 E rfl fun a E=>bk hm fun u hm=>aW E (wn rfl) rfl rfl (cB E rfl rfl (DP _)) (oT H (c _ j) u) fun C w H a E=>pr 1 E rfl fun a E=>nt<|aV (fun a w=>∃ m n f,Env 36 a [(0,m),(3,pt p 0),(6,.int .i64 k.1)]∧Sep w (Row 31 aT m n::Blk p 31 (mV x3)::Fo) f∧(∀ r,r ∈ rs→r ∈ f)∧zP k x3 n=some r) ?_ ?_
   ·refine sq<|pr 2 E rfl fun a E=>nt<|wif E hm rfl (fun hm=>?_) fun hm=>?_
    ·exact wp_region_lit<|pr 2 E rfl fun a E=>sv E rfl rfl rfl (cC (i:=1) (us:=(mV x3)) E H rfl rfl rfl rfl U31 rfl iK) fun a E=>hJ (e:=31) (d:=aT) (cs:=[.string x3.Prefix,.int .i64 x3.Epoch,.int .i64 x3.State]) (xs:=[x3]) E H (wn rfl) rfl rfl rfl (E.evs rfl) (by kernel_rfl) rfl rfl (fun ok hr=>(Rows.single (d:=aT) (cs:=[.string x3.Prefix,.int .i64 x3.Epoch,.int .i64 x3.State]) (x:=x3) uY)) fun D w a H E=>bk hm fun y hm=>aW E (wn rfl) rfl rfl (cB E rfl rfl (Xn _)) (Ra.insert_a (ix:=1) (iu:=0) H rfl rfl (by decide) y) fun F w H a E=>pr 1 E rfl fun a E=>nt<|have H:=H.drop 0;X3 ⟨E.to rfl,H,c,hm⟩
    ·exact wp_skip<|aC<|X3 ⟨E.to rfl,H,c,hm⟩
   ·clear E H hm
    rintro a w ⟨m,n,f,E,H,z,hm⟩
    unfold zP at hm
    refine sq<|pr 2 E rfl fun a E=>sv E rfl rfl rfl (cC (i:=1) (us:=(mV x3)) E H rfl rfl rfl rfl U31 rfl iK) fun a E=>bd hm fun G g hm=>?_
    obtain ⟨I,J,o⟩:=H.rowformNE (i:=0) rfl g
    refine sv E rfl rfl rfl (dG (d:=aT) E o rfl rfl rfl rfl U32 iK g) fun a E=>y2 (d:=aT) (i:=0) (us:=[.string x3.Prefix,.int .i64 x3.Epoch,.int .i64 x3.State]) (z':=x3) E H jI (wn rfl) rfl o rfl rfl rfl rfl rfl rfl rfl g iK fun w H=>nx<|pr 3 E rfl fun a E=>nt<|wp_ret<|hG E rfl rfl rfl<|have H:=H.drop 1;?_
    cases hm
    exact ⟨_,rfl,H.reads z⟩

def tY(d:List aG)(e:ByteArray)(f:Int)(c:Bool):Option ((List aG)×Bool):=
  if c=true then (some ([],false)) else ((r6 d (⟨e,f,3⟩:aG)).bind fun b=>some (b.1,b.2))
def J9(b:List aG)(c:ByteArray)(d:Int):Option ((List aG)×Bool):=
  (nE b).bind fun i=>if (!i)=true then (some ([],false)) else ((yV b c).bind fun e=>if (!e.2)=true then (tY b c d true) else ((idx b e.1).bind fun f=>if (f.State != 2)=true then (tY b c d true) else ((idx b e.1).bind fun g=>tY b c d (g.Epoch != d))))
theorem Lh{l:Value}{m:List aG}{i:ByteArray}{j:Int}(H:Sep w (Fo) rs)(e:rSl aT l m ∈ rs){r:(List aG)×Bool}(hm:J9 m i j=some r) :
    Calls Tryz.prog 87 [l,.string i,.int .i64 j].toArray w (Ret fun v w'=>∃ q,.tuple #[q,.bool r.2]=v∧Sep w' (Row 31 aT q r.1::Fo) (rs)):=by
 unfold J9 at hm
 refine ent Tryz.func87 rfl Tryz.ntmps87 rfl rfl fun a E=>sq<|pr 2 E rfl fun a E=>nt<|wp_seq<|sq<|pr 1 E rfl fun a E=>bd hm fun A s hm=>xk E rfl rfl rfl rfl rfl Ku (wX H e s) fun w H a E=>?_
 refine pr 1 E rfl fun a E=>nt<|wif E hm rfl (fun hm=>?_) fun hm=>?_
 ·refine sq<|pr 2 E rfl fun a E=>nt<|wp_ret<|aP<|hG E rfl rfl rfl<|have H:=H.nilRow 31 aT;?_
  cases hm
  exact ⟨_,rfl,H.reads Y0⟩
 ·refine wp_skip<|aC<|sq<|pr 2 E rfl fun a E=>bd hm fun B t hm=>xk E rfl rfl rfl rfl rfl Qe (J8 H e t) fun w H a E=>pr 5 E rfl fun a E=>nt<|wp_seq<|aV (fun a w=>∃ k f,Env 45 a [(0,l),(1,.string i),(2,.int .i64 j),(37,.bool k)]∧Sep w (Fo) f∧(∀ r,r ∈ rs→r ∈ f)∧tY m i j k=some r) ?_ ?_
  ·refine wp_region_lit<|pr 3 E rfl fun a E=>cs hm (fun b hm=>?_) fun b hm=>?_
   ·exact pk 16 E (kc 21 rfl b) rfl fun a E=>nt<|⟨_,_,E.to rfl,H,Y0,hm⟩
   ·refine pk 2 E (kc 21 rfl b) rfl fun a E=>bd hm fun u n hm=>dR E H (ws' (d:=21) E rfl rfl rfl rfl b) rfl rfl rfl rfl rfl e U32 iK n fun q19 a H E=>have H:=H.derive1 m0 (rAt (kI .i64) (q19.add 2) u.State) (fun ok h=>y6 h);pk 1 E (kc 21 rfl b) rfl fun a E=>aQ E (ws' (d:=21) E rfl rfl rfl rfl b) rfl rfl (qT E H rfl rfl m0 U3 rfl) fun a E=>pk 3 E (kc 21 rfl b) rfl fun a E=>cs hm (fun c hm=>?_) fun c hm=>?_
    ·exact pk 8 E (kc 29 rfl c) rfl fun a E=>nt<|⟨_,_,E.to rfl,H,(Y2 Y0),hm⟩
    ·exact pk 2 E (kc 29 rfl c) rfl fun a E=>bd hm fun x o hm=>dR E H (ws' (d:=29) E rfl rfl rfl rfl c) rfl rfl rfl rfl rfl (t2 e) U32 iK o fun q23 a H E=>have H:=H.derive1 m0 (rAt (kI .i64) (q23.add 1) x.Epoch) (fun ok h=>y5 h);pk 1 E (kc 29 rfl c) rfl fun a E=>aQ E (ws' (d:=29) E rfl rfl rfl rfl c) rfl rfl (qT E H rfl rfl m0 U2 rfl) fun a E=>pk 3 E (kc 29 rfl c) rfl fun a E=>nt<|⟨_,_,E.to rfl,H,(Y4 Y0),hm⟩
  ·clear E H hm
   rintro a w ⟨k,f,E,H,g,hm⟩
   unfold tY at hm
   refine wif E hm rfl (fun hm=>?_) fun hm=>?_
   ·refine sq<|pr 2 E rfl fun a E=>nt<|wp_ret<|aP<|hG E rfl rfl rfl<|have H:=H.nilRow 31 aT;?_
    cases hm
    exact ⟨_,rfl,H.reads g⟩
   ·refine wp_skip<|aC<|sq<|pr 3 E rfl fun a E=>sv E rfl rfl rfl (cL E rfl (E.evs rfl) (v:=.agg #[.string i,.int .i64 j,.int .i64 3]) (by kernel_rfl)) fun a E=>bd hm fun y p hm=>cF E rfl rfl rfl rfl rfl Qf (O3 (x3:=(⟨i,j,3⟩:aG)) H (g _ e) p)<|?_
    rintro _ w ⟨z,rfl,H⟩ a E
    refine pr 4 E rfl fun a E=>nt<|wp_ret<|hG E rfl rfl rfl<|?_
    cases hm
    exact ⟨_,rfl,H.reads g⟩

def qX(b:(List aF))(c:(List aJ))(d:(List aG)):Option ((List aF)×(List aJ)×(List aG)):=
  some (b,c,d)
def yW(e:List aF)(f:List aJ)(d:List aG)(x20:aU):Option ((List aF)×(List aJ)×(List aG)):=
  (J9 d x20.Prefix x20.Epoch).bind fun b=>if b.2=true then ((xJ (⟨e,f⟩:aR) d x20.Prefix).bind fun c=>qX c.2.2.1 c.2.2.2 b.1) else (qX e f d)
theorem Aa{u:Nat}{y z K L M N O d e f g j k:Value}{A:List aF}{B:List aJ}{P:List aG}{x20:aU}(H:Sep w (Blk u 75 [y,z,K,d,e,f,g,j,k]::Fo) rs)(l:rSl aE y A ∈ rs)(m:rSl aI z B ∈ rs)(c:rSl aT K P ∈ rs){r:(List aF)×(List aJ)×(List aG)}(hm:yW A B P x20=some r) :
    Calls Tryz.prog 31 [pt u 0,.agg (aS x20 L M N O).toArray].toArray w (Ret fun v w'=>∃ Q R S,.agg bN.toArray=v∧Sep w' (Blk u 75 [Q,R,S,d,e,f,g,j,k]::Fo) (rSl aE Q r.1::rSl aI R r.2.1::rSl aT S r.2.2::rs)):=by
 unfold yW at hm
 refine ent Tryz.func31 rfl Tryz.ntmps31 rfl rfl fun a E=>sq<|bS E H (wn rfl) rfl rfl rfl rfl rfl fun T w a H E=>al E H rfl rfl rfl rfl gO fun x w a H E=>nt<|aV (fun a w=>∃ n o p q s t b,Env 42 a [(4,pt x 0)]∧Sep w (Blk x 48 bN::Blk u 75 [n,o,p,d,e,f,g,j,k]::Fo) b∧(∀ r,r ∈ rs→r ∈ b)∧rSl aE n q ∈ b∧rSl aI o s ∈ b∧rSl aT p t ∈ b∧qX q s t=some r) ?_ ?_
 ·refine wp_seq<|dw [(0,0),(1,0),(2,0),(3,0),(4,0),(5,0),(6,0),(7,0),(8,1),(9,0),(10,0),(11,0),(12,1),(13,2)] [1,2] [] H (by kernel_rfl) (fun _ _ _ h=>False.elim h.2) fun w W0 hI H=>fn 3 E rfl fun a E=>fb E rfl (wn rfl) rfl rfl rfl rfl mm1 rfl U32 rfl fun a E=>fn 1 E rfl fun a E=>fb E rfl (wn rfl) rfl rfl rfl rfl m0 rfl U9 rfl fun a E=>fn 1 E rfl fun a E=>fb E rfl (wn rfl) rfl rfl rfl rfl m0 rfl U2 rfl fun a E=>bY rfl<|?_
  refine bd hm fun U C hm=>cF E rfl rfl rfl rfl rfl LK (Lh H c C)<|?_
  rintro _ w ⟨V,rfl,H⟩ a E
  refine nt<|?_
  refine ⟨⟨_,_,H,(aB mm2 (aB mm3 (aL))),(aM)⟩,?_⟩
  refine fn 3 E rfl fun a E=>bY rfl<|pr 1 E rfl fun a E=>nt<|?_
  refine ⟨⟨_,_,H,(aB mm2 (aB mm3 (aL))),(aM)⟩,?_⟩
  refine bO rfl<|pr 1 E rfl fun a E=>nt<|bP<|?_
  clear hI
  refine aC<|sq<|pr 1 E rfl fun a E=>nt<|wif E hm rfl (fun hm=>?_) fun hm=>?_
  ·refine wp_seq<|dw [(0,0),(1,0),(2,0),(3,0),(4,0),(5,0),(6,0),(7,0),(8,0),(9,0),(10,0),(11,1),(12,0),(13,0),(14,0),(15,2),(16,2),(17,2)] [2,3] [] H (by kernel_rfl) (fun _ _ _ h=>False.elim h.2) fun w W0 hI H=>fn 4 E rfl fun a E=>fbn E [y,z] rfl (wn rfl) rfl rfl rfl rfl mm1 rfl U25 rfl dJ fun a E=>fn 3 E rfl fun a E=>fb E rfl (wn rfl) rfl rfl rfl rfl mm1 rfl U32 rfl fun a E=>fn 1 E rfl fun a E=>fb E rfl (wn rfl) rfl rfl rfl rfl m0 rfl U9 rfl fun a E=>bY rfl<|?_
   refine bd hm fun W D hm=>cF E rfl rfl rfl rfl rfl F6 (lP (x1:=(⟨A,B⟩:aR)) H l m c D)<|?_
   rintro _ w ⟨X,Y,Z,b0,rfl,H⟩ a E
   refine nt<|?_
   refine ⟨⟨_,_,H,(aB mm6 (aB (t1 mm6) (aL))),(aM)⟩,?_⟩
   refine fn 3 E rfl fun a E=>bO rfl<|pr 1 E rfl fun a E=>nt<|bO rfl<|pr 1 E rfl fun a E=>nt<|bO rfl<|?_
   obtain ⟨q60,b1,rfl⟩:=H.rowform (i:=2) rfl
   obtain ⟨q62,b2,rfl⟩:=H.rowform (i:=3) rfl
   refine bA (i:=7) E H (wn rfl) rfl rfl rfl rfl rfl rfl dJ rfl rfl fun w H=>nt<|bP<|?_
   clear hI
   refine aC<|wp_region_lit<|pr 4 E rfl fun a E=>?_
   obtain ⟨q64,b3,rfl⟩:=H.rowform (i:=4) rfl
   exact bA (i:=7) E H (wn rfl) rfl rfl rfl rfl rfl rfl Vg rfl rfl fun w H=>nt<|have H:=H.thaw (i:=2) rfl;have H:=H.thaw (i:=2) rfl;have H:=H.thaw (i:=2) rfl;have H:=H.drs [0,0,1];X7 ⟨E.to rfl,H,(Y3 Y0),mm2,mm1,m0,hm⟩
  ·exact wp_skip<|aC<|have H:=H.drs [0,1];X7 ⟨E.to rfl,H,Y0,l,m,c,hm⟩
 ·clear E H hm
  rintro a w ⟨n,o,p,q,s,t,b,E,H,F,G,I,J,hm⟩
  unfold qX at hm
  refine sq<|sv E rfl rfl rfl (cL E rfl (E.evs rfl) (v:=.agg bN.toArray) (by kernel_rfl)) fun a E=>bA (i:=0) E H (wn rfl) rfl rfl rfl rfl rfl rfl bV rfl rfl fun w H=>nt<|wp_ret<|dT E rfl (dD (i:=0) (us:=bN) H rfl rfl rfl U48 rfl bV)<|have H:=H.drop 0;?_
  cases hm
  exact X3 ⟨rfl,H.reads (aA G (aA I (aA J (F))))⟩

def sF(x1:aN)(x3:Int):Option Bool:=
  some (x1.Txn == x3)
theorem Q7{x1:aN}{b:Nat}{x3:Int}(H:Sep w (Blk b 2 [.int .i64 x3]::Fo) rs){r:Bool}(hm:sF x1 x3=some r) :
    Calls Tryz.prog 140 [.agg (pX x1).toArray,pt b 0].toArray w (Ret fun v w'=>.bool r=v∧Sep w' (Blk b 2 [.int .i64 x3]::Fo) (rs)):=by
 unfold sF at hm
 refine ent Tryz.func140 rfl Tryz.ntmps140 rfl rfl fun a E=>sq<|bS E H (wn rfl) rfl rfl rfl rfl rfl fun c w a H E=>pr 1 E rfl fun a E=>nx<|pr 1 E rfl fun a E=>lb E H 0 rfl rfl rfl rfl rfl rfl rfl U2 rfl fun a E=>lb E H 1 rfl rfl rfl rfl rfl rfl rfl U2 rfl fun a E=>pr 2 E rfl fun a E=>?_
 refine nt<|wp_ret<|aY E rfl rfl<|have H:=H.drop 0;?_
 cases hm
 exact ⟨rfl,H.reads Y0⟩

def cQ(c:List aN)(d:Int):Nat→Int→Option Int
  | 0,_=>none
  | f+1,b=>
    if (decide (b < (c.length:Int)))=true then ((idx c b).bind fun g=>(sF g d).bind fun e=>if e=true then (some (b)) else (cQ c d f (IntKind.i64.wrap (b+1)))) else (some ((-1)))
def gL(b:List aN)(c:Int):Option Int:=
  cQ b c (((b.length:Int) - 0:Int).toNat+1) 0
theorem xQ{e:Value}{b:List aN}{f:Nat}{g:Int}(H:Sep w (Row 103 bH e b::Blk f 2 [.int .i64 g]::Fo) rs){r:Int}(hm:gL b g=some r) :
    Calls Tryz.prog 120 [e,.func (.func 140) #[] #[pt f 0]].toArray w (Ret fun v w'=>.int .i64 r=v∧Sep w' (Blk f 2 [.int .i64 g]::Row 103 bH e b::Fo) (rs)):=by
 unfold gL at hm
 refine ent Tryz.func120 rfl Tryz.ntmps120 rfl rfl fun a E=>sq<|pr 1 E rfl fun a E=>nt<|wp_seq<|sq<|pr 1 E rfl fun a E=>sv E rfl rfl rfl (kK (i:=0) E H rfl rfl rfl U62) fun a E=>pr 1 E rfl fun a E=>?_
 refine nt<|wp_block<|bX (fun c a w=>∃ n j,Env 19 a [(0,e),(1,.func (.func 140) #[] #[pt f 0]),(7,.int .i64 (b.length:Int)),(8,.int .i64 n)]∧Sep w (Row 103 bH e b::Blk f 2 [.int .i64 g]::Fo) j∧(∀ r,r ∈ rs→r ∈ j)∧cQ b g c n=some r) (((b.length:Int) - 0:Int).toNat+1) ?_ ?_
 ·exact ⟨_,_,E.to rfl,H,Y0,hm⟩
 ·clear E H hm
  rintro c a w ⟨n,j,E,H,k,hm⟩
  cases c with
  | zero=>exact (bU hm rfl).elim
  | succ c=>
   unfold cQ at hm
   refine sq<|pr 1 E rfl fun a E=>nt<|wp_seq<|wif E hm rfl (fun hm=>?_) fun hm=>?_
   ·refine wp_skip<|aC<|wp_seq<|wp_block<|sq<|pr 2 E rfl fun a E=>nx<|pr 3 E rfl fun a E=>bd hm fun o l hm=>?_
    obtain ⟨q,s,m⟩:=H.rowformNE (i:=0) rfl l
    refine sv E rfl rfl rfl (dG (d:=bH) E m rfl rfl rfl rfl U62 iW l) fun a E=>sv E rfl rfl rfl (hP (i:=0) E H eX m rfl rfl rfl l (us:=[.string o.Dir,.int .i64 o.Txn,.int .i64 o.Age]) rfl F5 rfl iW) fun a E=>have H:=H.frs [0,1] rfl;bd hm fun t p hm=>aW E (wn rfl) rfl rfl (bR E rfl rfl rfl (Xq _)) (Q7 H p)<|?_
    rintro _ w ⟨rfl,H⟩ a E
    refine nt<|wif E hm rfl (fun hm=>?_) fun hm=>?_
    ·refine sq<|pr 2 E rfl fun a E=>nt<|wp_ret<|bW<|aP<|aP<|bW<|aP<|?_
     refine aY E rfl rfl<|?_
     cases hm
     exact ⟨rfl,H.reads k⟩
    ·exact wp_skip<|bZ<|aC<|wp_region_lit<|pr 2 E rfl fun a E=>nt<|have H:=H.frs [0,1] rfl;⟨c,Nat.lt_succ_self c,_,_,E.to rfl,H,k,hm⟩
   ·refine wp_exit<|bG<|bG<|dN<|aC<|sq<|pr 1 E rfl fun a E=>nt<|wp_ret<|?_
    refine aY E rfl rfl<|have H:=H.frs [0,1] rfl;?_
    cases hm
    exact ⟨rfl,H.reads k⟩

def eT(rec_1:(List aN)→Int→Int→Option (List aN))(d:Int)(b:(List aN))(c:Int):Option (List aN):=
  rec_1 b c (IntKind.i64.wrap (d+1))
def cY(f:Int):Nat→(List aN)→Int→Int→Option (List aN)
  | 0,_,_,_=>none
  | g+1,c,b,d=>
    if (decide (d < (c.length:Int)))=true then ((idx c d).bind fun e=>(sF e f).bind fun i=>if (!i)=true then ((idx c b).bind fun j=>eT (cY f g) d (c.set b.toNat e) (IntKind.i64.wrap (b+1))) else (eT (cY f g) d c b)) else ((ck (0 ≤ b∧b ≤ c.length)).bind fun k=>(ck (0 ≤ b∧b ≤ (c.take b.toNat ++ List.replicate (c.length - b.toNat) (⟨⟨#[]⟩,0,0⟩:aN)).length)).bind fun l=>some ((c.take b.toNat ++ List.replicate (c.length - b.toNat) (⟨⟨#[]⟩,0,0⟩:aN)).take b.toNat))
def gQ(b:List aN)(d:Int):Option (List aN):=
  (gL b d).bind fun c=>if (c == (-1))=true then (some (b)) else (cY d (((b.length:Int) - (IntKind.i64.wrap (c+1)):Int).toNat+1) b c (IntKind.i64.wrap (c+1)))
theorem yK{n:Value}{x:List aN}{c:Nat}{e:Int}(H:Sep w (Row 103 bH n x::Blk c 2 [.int .i64 e]::Fo) rs){r:(List aN)}(hm:gQ x e=some r) :
    Calls Tryz.prog 139 [n,.func (.func 140) #[] #[pt c 0]].toArray w (Ret fun v w'=>∃ D,D=v∧Sep w' (Row 103 bH D r::Blk c 2 [.int .i64 e]::Fo) (rs)):=by
 unfold gQ at hm
 refine ent Tryz.func139 rfl Tryz.ntmps139 rfl rfl fun a E=>sq<|pr 1 E rfl fun a E=>nx<|pr 2 E rfl fun a E=>bd hm fun G F hm=>xk E rfl rfl rfl rfl rfl Fh (xQ H F) fun w H a E=>pr 1 E rfl fun a E=>nt<|?_
 refine wp_seq<|sq<|pr 2 E rfl fun a E=>nt<|wif E hm rfl (fun hm=>?_) fun hm=>?_
 ·refine sq<|pr 2 E rfl fun a E=>nt<|wp_ret<|aP<|aY E rfl rfl<|have H:=H.frs [0,1] rfl;?_
  cases hm
  exact ⟨_,rfl,H.reads Y0⟩
 ·refine wp_skip<|aC<|wp_seq<|sq<|pr 3 E rfl fun a E=>nt<|wp_block<|bX (fun f a w=>∃ y z o g,Env 42 a [(0,n),(1,.func (.func 140) #[] #[pt c 0]),(5,.int .i64 z),(6,.int .i64 o)]∧Sep w (Row 103 bH n y::Blk c 2 [.int .i64 e]::Fo) g∧(∀ r,r ∈ rs→r ∈ g)∧cY e f y z o=some r) (((x.length:Int) - (IntKind.i64.wrap (G+1)):Int).toNat+1) ?_ ?_
  ·exact have H:=H.frs [0,1] rfl;X4 ⟨E.to rfl,H,Y0,hm⟩
  ·clear E H hm
   rintro f a w ⟨y,z,o,g,E,H,j,hm⟩
   cases f with
   | zero=>exact (bU hm rfl).elim
   | succ f=>
    unfold cY at hm
    refine wp_seq<|sq<|pr 2 E rfl fun a E=>sv E rfl rfl rfl (kK (i:=0) E H rfl rfl rfl U62) fun a E=>pr 1 E rfl fun a E=>nt<|wif E hm rfl (fun hm=>?_) fun hm=>?_
    ·refine wp_skip<|aC<|aV (fun a w=>∃ p q k,Env 42 a [(0,n),(1,.func (.func 140) #[] #[pt c 0]),(5,.int .i64 q),(6,.int .i64 o)]∧Sep w (Row 103 bH n p::Blk c 2 [.int .i64 e]::Fo) k∧(∀ r,r ∈ rs→r ∈ k)∧eT (cY e f) o p q=some r) ?_ ?_
     ·refine wp_block<|sq<|pr 2 E rfl fun a E=>bd hm fun b l hm=>?_
      obtain ⟨I,J,s⟩:=H.rowformNE (i:=0) rfl l
      refine sv E rfl rfl rfl (dG (d:=bH) E s rfl rfl rfl rfl U62 iW l) fun a E=>sv E rfl rfl rfl (hP (i:=0) E H eX s rfl rfl rfl l (us:=[.string b.Dir,.int .i64 b.Txn,.int .i64 b.Age]) rfl F5 rfl iW) fun a E=>al E H rfl rfl rfl rfl Qh fun K w a H E=>bA (i:=0) E H (wn rfl) rfl rfl rfl rfl rfl rfl iW rfl rfl fun w H=>nx<|pr 1 E rfl fun a E=>sv E rfl rfl rfl (cC (i:=0) (us:=(pX b)) E H rfl rfl rfl rfl F5 rfl iW) fun a E=>have H:=H.frs [1,1,2] rfl;bd hm fun L A hm=>?_
      refine aW E (wn rfl) rfl rfl (bR E rfl rfl rfl (Xq _)) (Q7 H A)<|?_
      rintro _ w ⟨rfl,H⟩ a E
      refine pr 1 E rfl fun a E=>nt<|wif E hm rfl (fun hm=>?_) fun hm=>?_
      ·refine sq<|pr 2 E rfl fun a E=>sv E rfl rfl rfl (cC (i:=1) (us:=(pX b)) E H rfl rfl rfl rfl F5 rfl iW) fun a E=>bd hm fun M m hm=>?_
       obtain ⟨N,O,t⟩:=H.rowformNE (i:=2) rfl m
       refine sv E rfl rfl rfl (dG (d:=bH) E t rfl rfl rfl rfl U62 iW m) fun a E=>y2 (d:=bH) (i:=2) (us:=[.string b.Dir,.int .i64 b.Txn,.int .i64 b.Age]) (z':=b) E H eX (wn rfl) rfl t rfl rfl rfl rfl rfl rfl rfl m iW fun w H=>nt<|wp_region_lit<|pr 3 E rfl fun a E=>wpList_nil<|bZ<|aC<|have H:=H.drop 1;?_
       exact have H:=H.frs [0,1] rfl;X3 ⟨E.to rfl,H,j,hm⟩
      ·exact wp_skip<|bZ<|aC<|have H:=H.drop 1;have H:=H.frs [0,1] rfl;X3 ⟨E.to rfl,H,j,hm⟩
     ·clear E H hm
      rintro a w ⟨p,q,k,E,H,B,hm⟩
      unfold eT at hm
      exact wp_region_lit<|pr 3 E rfl fun a E=>nt<|⟨f,Nat.lt_succ_self f,X4 ⟨E.to rfl,H,B,hm⟩⟩
    ·refine wp_exit<|bG<|bG<|dN<|aC<|sq<|pr 2 E rfl fun a E=>bk hm fun u hm=>sv E rfl rfl rfl (S6 (d:=bH) (i:=0) E H rfl rfl rfl rfl U62 iW u) fun a E=>?_
     refine D4 (i:=0) (z0:=(⟨⟨#[]⟩,0,0⟩:aN)) E H eX (wn rfl) rfl rfl rfl U62 DV rfl rfl rfl u fun w H=>nx<|pr 2 E rfl fun a E=>bk hm fun C hm=>L5 (i:=0) E H eX (wn rfl) rfl rfl rfl rfl rfl rfl U62 iW C fun P a H E=>pr 1 E rfl fun a E=>nt<|wp_ret<|aY E rfl rfl<|?_
     cases hm
     exact ⟨_,rfl,H.reads j⟩

def vG(b:List aN)(x3:Int):Option (List aN):=
  (ck (b.length ≤ LIM)).bind fun d=>(gQ b x3).bind fun c=>some (c)
theorem Li{c:Value}{d:List aN}{x3:Int}(H:Sep w (Fo) rs)(e:rSl bH c d ∈ rs){r:(List aN)}(hm:vG d x3=some r) :
    Calls Tryz.prog 73 [c,.int .i64 x3].toArray w (Ret fun v w'=>∃ f,f=v∧Sep w' (Row 103 bH f r::Fo) (rs)):=by
 unfold vG at hm
 refine ent Tryz.func73 rfl Tryz.ntmps73 rfl rfl fun a E=>sq<|bS E H (wn rfl) rfl rfl rfl rfl rfl fun j w a H E=>pr 1 E rfl fun a E=>nx<|pr 1 E rfl fun a E=>bk hm fun g hm=>aW E (wn rfl) rfl rfl (cB E rfl rfl (Vi _)) (kT H e g) fun k w H a E=>sv E rfl rfl rfl (kJ E rfl rfl rfl) fun a E=>?_
 refine bd hm fun l b hm=>cF E rfl rfl rfl rfl rfl JL (yK H b)<|?_
 rintro _ w ⟨i,rfl,H⟩ a E
 refine pr 1 E rfl fun a E=>nt<|wp_ret<|aY E rfl rfl<|have H:=H.drop 1;?_
 cases hm
 exact ⟨_,rfl,H.reads Y0⟩

end Go.Cb
