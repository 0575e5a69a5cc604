/- Functions of the program, walked: each comes to its plain function. -/
import Derived.Test.YtlgajjcbnimjkaaGreatDoorTsw
import Derived.Test.YtlgajjcbnimjkaaGreatDoorExsw
set_option linter.unusedVariables false
set_option linter.unusedSimpArgs false
set_option maxRecDepth 20000
set_option maxHeartbeats 1000000
namespace Go.Cb
open Go.Proofs Go.RowKit
variable {w:World} {Fo:List Ob} {rs:List Rp}

def G7:Option Unit:=
  some ()
theorem Ix(H:Sep w (Fo) rs){r:Unit}(hm:G7=some r) :
    Calls Tryz.prog 143 [].toArray w (Ret fun v w'=>.agg #[.int .i64 0,.int .i64 13,.int .i64 2,.int .i64 19,.int .i64 18,.int .i64 16,.int .i64 16,.int .i64 20]=v∧Sep w' (Fo) (rs)):=by
 unfold G7 at hm
 refine ent Tryz.func143 rfl Tryz.ntmps143 rfl rfl fun a E=>sq<|al E H rfl rfl rfl rfl GR fun b w a H E=>nx<|sv E rfl rfl rfl (cN E rfl (E.evs rfl) (v:=.agg #[.int .i64 0,.int .i64 13,.int .i64 2,.int .i64 19,.int .i64 18,.int .i64 16,.int .i64 16,.int .i64 20]) (by kernel_rfl)) fun a E=>bC (i:=0) E H (wn rfl) rfl rfl rfl rfl rfl rfl Xf rfl rfl fun w H=>nt<|wp_ret<|eC E rfl (dH (i:=0) (us:=[.int .i64 0,.int .i64 13,.int .i64 2,.int .i64 19,.int .i64 18,.int .i64 16,.int .i64 16,.int .i64 20]) H rfl rfl rfl CD rfl Xf)<|?_
 refine have H:=H.drop 0;?_
 cases hm
 exact ⟨rfl,H.reads Y0⟩

def vG(x1:Int)(b:Int):Option Bool:=
  if (decide (x1 ≥ 0))=true then (some (decide (x1 ≤ b))) else (some (false))
theorem Hc{x1 c:Int}(H:Sep w (Fo) rs){r:Bool}(hm:vG x1 c=some r) :
    Calls Tryz.prog 142 [.int .i64 x1,.int .i64 c].toArray w (Ret fun v w'=>.bool r=v∧Sep w' (Fo) (rs)):=by
 unfold vG at hm
 refine ent Tryz.func142 rfl Tryz.ntmps142 rfl rfl fun a E=>sq<|pr 1 E rfl fun a E=>nx<|pr 3 E rfl fun a E=>cs hm (fun b hm=>?_) fun b hm=>?_
 ·refine pk 5 E (kc 7 rfl b) rfl fun a E=>nt<|wp_ret<|bB E rfl rfl<|?_
  cases hm
  exact ⟨rfl,H.reads Y0⟩
 ·refine pk 5 E (kc 7 rfl b) rfl fun a E=>nt<|wp_ret<|bB E rfl rfl<|?_
  cases hm
  exact ⟨rfl,H.reads Y0⟩

def nI(b:ByteArray)(c:Int):Option Int:=
  some (ixB b c)
theorem x5{b:ByteArray}{c:Int}(H:Sep w (Fo) rs){r:Int}(hm:nI b c=some r) :
    Calls Tryz.prog 249 [.string b,.int .u8 c].toArray w (Ret fun v w'=>.int .i64 r=v∧Sep w' (Fo) (rs)):=by
 unfold nI at hm
 refine ent Tryz.func249 rfl Tryz.ntmps249 rfl rfl fun a E=>sq<|pr 1 E rfl fun a E=>nx<|pr 2 E rfl fun a E=>sv E rfl rfl rfl (Bm E rfl rfl (BM _ _ _)) fun a E=>pr 1 E rfl fun a E=>nt<|wp_ret<|?_
 refine bB E rfl rfl<|?_
 cases hm
 exact ⟨rfl,H.reads Y0⟩

def iV(b:ByteArray)(c:Int):Option Int:=
  (nI b c).bind fun d=>some (d)
theorem xV{b:ByteArray}{c:Int}(H:Sep w (Fo) rs){r:Int}(hm:iV b c=some r) :
    Calls Tryz.prog 202 [.string b,.int .u8 c].toArray w (Ret fun v w'=>.int .i64 r=v∧Sep w' (Fo) (rs)):=by
 unfold iV at hm
 refine ent Tryz.func202 rfl Tryz.ntmps202 rfl rfl fun a E=>sq<|pr 1 E rfl fun a E=>nx<|pr 2 E rfl fun a E=>bd hm fun e d hm=>xk E rfl rfl rfl rfl rfl GF (x5 H d) fun w H a E=>pr 1 E rfl fun a E=>nt<|?_
 refine wp_ret<|bB E rfl rfl<|?_
 cases hm
 exact ⟨rfl,H.reads Y0⟩

def jH(b:Bool):Option Bool:=
  if b=true then (some (true)) else (some (false))
def jI(x1:Int)(b:Bool):Option Bool:=
  if b=true then (some (true)) else (if (decide (57343 < x1))=true then (jH (decide (x1 ≤ 1114111))) else (jH false))
def lH(x1:Int):Option Bool:=
  if (decide (0 ≤ x1))=true then (jI x1 (decide (x1 < 55296))) else (jI x1 false)
theorem L1{x1:Int}(H:Sep w (Fo) rs){r:Bool}(hm:lH x1=some r) :
    Calls Tryz.prog 298 [.int .i32 x1].toArray w (Ret fun v w'=>.bool r=v∧Sep w' (Fo) (rs)):=by
 unfold lH at hm
 refine ent Tryz.func298 rfl Tryz.ntmps298 rfl rfl fun a E=>sq<|pr 1 E rfl fun a E=>nt<|wp_seq<|wp_block<|aT (fun a w=>∃ i b,Env 17 a [(0,.int .i32 x1),(3,.bool i)]∧Sep w (Fo) b∧(∀ r,r ∈ rs→r ∈ b)∧jI x1 i=some r) ?_ ?_
 ·refine wp_region_lit<|pr 3 E rfl fun a E=>cs hm (fun c hm=>?_) fun c hm=>?_
  ·exact pk 4 E (kc 6 rfl c) rfl fun a E=>nt<|⟨_,_,E.to rfl,H,Y0,hm⟩
  ·exact pk 4 E (kc 6 rfl c) rfl fun a E=>nt<|⟨_,_,E.to rfl,H,Y0,hm⟩
 ·clear E H hm
  rintro a w ⟨i,b,E,H,d,hm⟩
  unfold jI at hm
  refine wif E hm rfl (fun hm=>?_) fun hm=>?_
  ·refine sq<|pr 1 E rfl fun a E=>nt<|wp_ret<|bU<|aP<|bB E rfl rfl<|?_
   cases hm
   exact ⟨rfl,H.reads d⟩
  ·refine aT (fun a w=>∃ j e,Env 17 a [(10,.bool j)]∧Sep w (Fo) e∧(∀ r,r ∈ rs→r ∈ e)∧jH j=some r) ?_ ?_
   ·refine wp_region_lit<|pr 3 E rfl fun a E=>cs hm (fun f hm=>?_) fun f hm=>?_
    ·exact pk 4 E (kc 13 rfl f) rfl fun a E=>nt<|⟨_,_,E.to rfl,H,d,hm⟩
    ·exact pk 4 E (kc 13 rfl f) rfl fun a E=>nt<|⟨_,_,E.to rfl,H,d,hm⟩
   ·clear E H hm
    rintro a w ⟨j,e,E,H,g,hm⟩
    unfold jH at hm
    refine wif E hm rfl (fun hm=>?_) fun hm=>?_
    ·refine sq<|pr 1 E rfl fun a E=>nt<|wp_ret<|bU<|aP<|bB E rfl rfl<|?_
     cases hm
     exact ⟨rfl,H.reads g⟩
    ·refine wp_skip<|bY<|aD<|sq<|pr 1 E rfl fun a E=>nt<|wp_ret<|bB E rfl rfl<|?_
     cases hm
     exact ⟨rfl,H.reads g⟩

def qG(c:ByteArray):Nat→(Nat)→Option Int
  | 0,_=>none
  | d+1,b=>
    if decide (b < c.size)=true then (if (((Utf8.decode c b).1:Int) == 65533)=true then (some ((b:Int))) else (qG c d (b+(Utf8.decode c b).2))) else (some ((-1)))
def qH(b:Int)(c:ByteArray):Nat→Option Int
  | 0=>none
  | j+1=>
    if (decide ((IntKind.i64.wrap (((Utf8.encode b).size:Int) - 1)) < (c.size:Int)))=true then ((idx c.data.toList (IntKind.i64.wrap (((Utf8.encode b).size:Int) - 1))).bind fun d=>(idx (Utf8.encode b).data.toList (IntKind.i64.wrap (((Utf8.encode b).size:Int) - 1))).bind fun e=>if ((d.toNat:Int) != (e.toNat:Int))=true then ((ck (0 ≤ (IntKind.i64.wrap ((IntKind.i64.wrap (((Utf8.encode b).size:Int) - 1))+1))∧(IntKind.i64.wrap ((IntKind.i64.wrap (((Utf8.encode b).size:Int) - 1))+1)) ≤ c.size)).bind fun i=>(idx (Utf8.encode b).data.toList (IntKind.i64.wrap (((Utf8.encode b).size:Int) - 1))).bind fun f=>(iV (c.extract (IntKind.i64.wrap ((IntKind.i64.wrap (((Utf8.encode b).size:Int) - 1))+1)).toNat c.size) (f.toNat:Int)).bind fun g=>if (decide (g < 0))=true then (some ((-1))) else none) else none) else (some ((-1)))
def mV(b:ByteArray)(c:Int)(e:Bool):Option Int:=
  if e=true then ((iV b (IntKind.u8.wrap c)).bind fun f=>some (f)) else (if (c == 65533)=true then (qG b (b.size+2) 0) else ((lH c).bind fun d=>if (!d)=true then (some ((-1))) else (qH c b (((b.size:Int) - (IntKind.i64.wrap (((Utf8.encode c).size:Int) - 1)):Int).toNat+1))))
def pR(c:ByteArray)(b:Int):Option Int:=
  if (decide (0 ≤ b))=true then (mV c b (decide (b < 128))) else (mV c b false)
theorem X1{b:ByteArray}{c:Int}(H:Sep w (Fo) rs){r:Int}(hm:pR b c=some r) :
    Calls Tryz.prog 288 [.string b,.int .i32 c].toArray w (Ret fun v w'=>.int .i64 r=v∧Sep w' (Fo) (rs)):=by
 unfold pR at hm
 refine ent Tryz.func288 rfl Tryz.ntmps288 rfl rfl fun a E=>sq<|pr 1 E rfl fun a E=>nt<|wp_block<|aT (fun a w=>∃ p m,Env 187 a [(0,.string b),(1,.int .i32 c),(160,.bool p)]∧Sep w (Fo) m∧(∀ r,r ∈ rs→r ∈ m)∧mV b c p=some r) ?_ ?_
 ·refine wp_region_lit<|pr 3 E rfl fun a E=>cs hm (fun d hm=>?_) fun d hm=>?_
  ·exact pk 4 E (kc 163 rfl d) rfl fun a E=>nt<|⟨_,_,E.to rfl,H,Y0,hm⟩
  ·exact pk 4 E (kc 163 rfl d) rfl fun a E=>nt<|⟨_,_,E.to rfl,H,Y0,hm⟩
 ·clear E H hm
  rintro a w ⟨p,m,E,H,k,hm⟩
  unfold mV at hm
  refine wif E hm rfl (fun hm=>?_) fun hm=>?_
  ·refine sq<|pr 3 E rfl fun a E=>bd hm fun J A hm=>xk E rfl rfl rfl rfl rfl Ph (xV H A) fun w H a E=>pr 1 E rfl fun a E=>nt<|wp_ret<|bU<|bB E rfl rfl<|?_
   cases hm
   exact ⟨rfl,H.reads k⟩
  ·refine sq<|pr 3 E rfl fun a E=>nt<|wif E hm rfl (fun hm=>?_) fun hm=>?_
   ·refine wp_seq<|sq<|pr 1 E rfl fun a E=>Hx E H (wn rfl) rfl rfl rfl rfl U9 fun B w a H E=>nt<|wp_block<|cA (fun l a w=>∃ q e,Env 187 a [(175,pt B 0)]∧Sep w (N9 B (.stringIter b q)::Fo) e∧(∀ r,r ∈ rs→r ∈ e)∧qG b l q=some r) (b.size+2) ?_ ?_
    ·exact ⟨_,_,E.to rfl,H,k,hm⟩
    ·clear E H hm
     rintro l a w ⟨q,e,E,H,f,hm⟩
     cases l with
     | zero=>exact (bW hm rfl).elim
     | succ l=>
      unfold qG at hm
      refine sq<|cs hm (fun g hm=>?_) fun g hm=>?_
      ·refine Hy (i:=0) E H (wn rfl) rfl rfl rfl rfl rfl g fun w a H E=>pr 1 E rfl fun a E=>nt<|wp_seq<|wp_cond_true (E.eval rfl)<|wp_skip<|aD<|wp_block<|sq<|?_
       refine pr 4 E rfl fun a E=>nx<|pr 2 E rfl fun a E=>nt<|wif E hm rfl (fun hm=>?_) fun hm=>?_
       ·refine sq<|pr 2 E rfl fun a E=>nt<|wp_ret<|bU<|aP<|bU<|aP<|bU<|?_
        refine bB E rfl rfl<|have H:=H.drop 0;?_
        cases hm
        exact ⟨rfl,H.reads f⟩
       ·exact wp_skip<|bY<|aD<|⟨l,Nat.lt_succ_self l,_,_,E.to rfl,H,f,hm⟩
      ·refine Hz (i:=0) E H (wn rfl) rfl rfl rfl rfl rfl g fun a E=>pr 1 E rfl fun a E=>nt<|wp_seq<|wp_cond_false (E.eval rfl)<|wp_exit<|bH<|bH<|dZ<|?_
       refine aD<|sq<|pr 1 E rfl fun a E=>nt<|wp_ret<|bU<|bB E rfl rfl<|have H:=H.drop 0;?_
       cases hm
       exact ⟨rfl,H.reads f⟩
   ·refine sq<|pr 1 E rfl fun a E=>bd hm fun C s hm=>xk E rfl rfl rfl rfl rfl GM (L1 H s) fun w H a E=>pr 2 E rfl fun a E=>nt<|wif E hm rfl (fun hm=>?_) fun hm=>?_
    ·refine sq<|pr 1 E rfl fun a E=>nt<|wp_ret<|bU<|bB E rfl rfl<|?_
     cases hm
     exact ⟨rfl,H.reads k⟩
    ·refine wp_scope_straight<|sq<|pr 1 E rfl fun a E=>sv E rfl rfl rfl (Q8 E rfl rfl (v:=.string (Utf8.encode c)) (by kernel_rfl)) fun a E=>pr 1 E rfl fun a E=>nx<|pr 4 E rfl fun a E=>nx<|pr 2 E rfl fun a E=>?_
     refine nx<|pr 1 E rfl fun a E=>nt<|wp_seq<|wp_block<|cA (fun o a w=>∃ j,Env 187 a [(0,.string b),(7,.string (Utf8.encode c)),(8,.int .i64 (IntKind.i64.wrap (((Utf8.encode c).size:Int) - 1))),(9,.int .i64 (IntKind.i64.wrap (((Utf8.encode c).size:Int) - 1))),(10,.int .i64 0)]∧Sep w (Fo) j∧(∀ r,r ∈ rs→r ∈ j)∧qH c b o=some r) (((b.size:Int) - (IntKind.i64.wrap (((Utf8.encode c).size:Int) - 1)):Int).toNat+1) ?_ ?_
     ·exact ⟨_,E.to rfl,H,k,hm⟩
     ·clear E H hm
      rintro o a w ⟨j,E,H,n,hm⟩
      cases o with
      | zero=>exact (bW hm rfl).elim
      | succ o=>
       unfold qH at hm
       refine wp_seq<|sq<|pr 4 E rfl fun a E=>nt<|wif E hm rfl (fun hm=>?_) fun hm=>?_
       ·refine wp_skip<|aD<|wp_block<|wp_scope_straight<|wp_seq<|wp_seq<|dw [(0,0),(1,0),(2,0),(3,0),(4,0),(5,0),(6,0)] [] [] H (by kernel_rfl) (fun _ _ _ h=>False.elim h.2) fun w W0 hI H=>fn 2 E rfl fun a E=>bd hm fun D t hm=>?_
        refine cB E rfl (wn rfl) rfl rfl (fun w hW=>(Kc E rfl rfl rfl U9 t)) fun a E=>?_
        refine fn 2 E rfl fun a E=>bd hm fun F u hm=>cB E rfl (wn rfl) rfl rfl (fun w hW=>(Kc E rfl rfl rfl U9 u)) fun a E=>?_
        refine fn 1 E rfl fun a E=>bR<|?_
        clear hI
        refine aD<|wif E hm rfl (fun hm=>?_) fun hm=>?_
        ·refine wp_seq<|dw [(0,0),(1,0),(2,0),(3,0),(4,0),(5,0),(6,0),(7,1),(8,2)] [] [] H (by kernel_rfl) (fun _ _ _ h=>False.elim h.2) fun w W0 hI H=>fn 3 E rfl fun a E=>bk hm fun x hm=>cB E rfl (wn rfl) rfl rfl (fun w hW=>(Q9 E rfl rfl rfl U9 x)) fun a E=>?_
         refine fn 2 E rfl fun a E=>bd hm fun G y hm=>cB E rfl (wn rfl) rfl rfl (fun w hW=>(Kc E rfl rfl rfl U9 y)) fun a E=>?_
         refine cE rfl<|bd hm fun I z hm=>xk E rfl rfl rfl rfl rfl Ph (xV H z) fun w H a E=>nt<|?_
         refine ⟨⟨_,_,H,(aL),(aN)⟩,?_⟩
         refine bQ rfl<|pr 1 E rfl fun a E=>nt<|bR<|?_
         clear hI
         refine aD<|wp_seq<|sq<|pr 2 E rfl fun a E=>nt<|wif E hm rfl (fun hm=>?_) fun hm=>?_
         ·refine sq<|pr 1 E rfl fun a E=>nt<|wp_ret<|aP<|aP<|Ul<|bU<|aP<|?_
          refine bU<|aP<|Ul<|bU<|bB E rfl rfl<|?_
          cases hm
          exact ⟨rfl,H.reads n⟩
         ·exact (bW hm rfl).elim
        ·exact (bW hm rfl).elim
       ·refine wp_exit<|bH<|bH<|dZ<|aD<|wp_seq<|sq<|pr 1 E rfl fun a E=>nt<|?_
        refine wp_ret<|aP<|Ul<|bU<|bB E rfl rfl<|?_
        cases hm
        exact ⟨rfl,H.reads n⟩

def mW(b:ByteArray)(c:Int):Option Bool:=
  (pR b c).bind fun d=>some (decide (d ≥ 0))
theorem O8{b:ByteArray}{c:Int}(H:Sep w (Fo) rs){r:Bool}(hm:mW b c=some r) :
    Calls Tryz.prog 252 [.string b,.int .i32 c].toArray w (Ret fun v w'=>.bool r=v∧Sep w' (Fo) (rs)):=by
 unfold mW at hm
 refine ent Tryz.func252 rfl Tryz.ntmps252 rfl rfl fun a E=>sq<|pr 1 E rfl fun a E=>nx<|pr 2 E rfl fun a E=>bd hm fun e d hm=>xk E rfl rfl rfl rfl rfl GL (X1 H d) fun w H a E=>pr 2 E rfl fun a E=>nt<|?_
 refine wp_ret<|bB E rfl rfl<|?_
 cases hm
 exact ⟨rfl,H.reads Y0⟩

def xC(x1:Int):Option Bool:=
  (mW (ByteArray.mk #[97,98,99,100,101,102,103,104,105,106,107,108,109,110,111,112,113,114,115,116,117,118,119,120,121,122,48,49,50,51,52,53,54,55,56,57,45]) x1).bind fun b=>some (!b)
theorem Iy{x1:Int}(H:Sep w (Fo) rs){r:Bool}(hm:xC x1=some r) :
    Calls Tryz.prog 251 [.int .i32 x1].toArray w (Ret fun v w'=>.bool r=v∧Sep w' (Fo) (rs)):=by
 unfold xC at hm
 refine ent Tryz.func251 rfl Tryz.ntmps251 rfl rfl fun a E=>sq<|pr 1 E rfl fun a E=>nx<|pr 1 E rfl fun a E=>bd hm fun c b hm=>xk E rfl rfl rfl rfl rfl GK (O8 H b) fun w H a E=>pr 2 E rfl fun a E=>nt<|?_
 refine wp_ret<|bB E rfl rfl<|?_
 cases hm
 exact ⟨rfl,H.reads Y0⟩

def jX(c:ByteArray)(d:Bool):Nat→(Nat)→Option Int
  | 0,_=>none
  | e+1,b=>
    if decide (b < c.size)=true then ((xC ((Utf8.decode c b).1:Int)).bind fun f=>if (f == d)=true then (some ((b:Int))) else (jX c d e (b+(Utf8.decode c b).2))) else (some ((-1)))
def tJ(b:ByteArray)(c:Bool):Option Int:=
  jX b c (b.size+2) 0
theorem X2{c:ByteArray}{d:Bool}(H:Sep w (Fo) rs){r:Int}(hm:tJ c d=some r) :
    Calls Tryz.prog 297 [.string c,.func (.func 251) #[] #[],.bool d].toArray w (Ret fun v w'=>.int .i64 r=v∧Sep w' (Fo) (rs)):=by
 unfold tJ at hm
 refine ent Tryz.func297 rfl Tryz.ntmps297 rfl rfl fun a E=>sq<|pr 1 E rfl fun a E=>nt<|wp_seq<|sq<|pr 1 E rfl fun a E=>Hx E H (wn rfl) rfl rfl rfl rfl U9 fun k w a H E=>nt<|?_
 refine wp_block<|cA (fun b a w=>∃ j e,Env 21 a [(1,.func (.func 251) #[] #[]),(2,.bool d),(10,pt k 0)]∧Sep w (N9 k (.stringIter c j)::Fo) e∧(∀ r,r ∈ rs→r ∈ e)∧jX c d b j=some r) (c.size+2) ?_ ?_
 ·exact ⟨_,_,E.to rfl,H,Y0,hm⟩
 ·clear E H hm
  rintro b a w ⟨j,e,E,H,f,hm⟩
  cases b with
  | zero=>exact (bW hm rfl).elim
  | succ b=>
   unfold jX at hm
   refine sq<|cs hm (fun g hm=>?_) fun g hm=>?_
   ·refine Hy (i:=0) E H (wn rfl) rfl rfl rfl rfl rfl g fun w a H E=>pr 1 E rfl fun a E=>nt<|wp_seq<|wp_cond_true (E.eval rfl)<|wp_skip<|aD<|wp_block<|sq<|?_
    refine pr 4 E rfl fun a E=>nx<|pr 2 E rfl fun a E=>bd hm fun m l hm=>aX E (wn rfl) rfl rfl (bP E rfl rfl rfl (GJ _)) (Iy H l)<|?_
    rintro _ w ⟨rfl,H⟩ a E
    refine pr 1 E rfl fun a E=>sv E rfl rfl rfl (yV E rfl rfl rfl (v:=.bool (m == d)) (by kernel_rfl)) fun a E=>nt<|wif E hm rfl (fun hm=>?_) fun hm=>?_
    ·refine sq<|pr 2 E rfl fun a E=>nt<|wp_ret<|bU<|aP<|bU<|aP<|bB E rfl rfl<|?_
     refine have H:=H.drop 0;?_
     cases hm
     exact ⟨rfl,H.reads f⟩
    ·exact wp_skip<|bY<|aD<|⟨b,Nat.lt_succ_self b,_,_,E.to rfl,H,f,hm⟩
   ·refine Hz (i:=0) E H (wn rfl) rfl rfl rfl rfl rfl g fun a E=>pr 1 E rfl fun a E=>nt<|wp_seq<|wp_cond_false (E.eval rfl)<|wp_exit<|bH<|bH<|dZ<|?_
    refine aD<|sq<|pr 1 E rfl fun a E=>nt<|wp_ret<|bB E rfl rfl<|have H:=H.drop 0;?_
    cases hm
    exact ⟨rfl,H.reads f⟩

def tK(b:ByteArray):Option Int:=
  (tJ b true).bind fun c=>some (c)
theorem Y9{b:ByteArray}(H:Sep w (Fo) rs){r:Int}(hm:tK b=some r) :
    Calls Tryz.prog 287 [.string b,.func (.func 251) #[] #[]].toArray w (Ret fun v w'=>.int .i64 r=v∧Sep w' (Fo) (rs)):=by
 unfold tK at hm
 refine ent Tryz.func287 rfl Tryz.ntmps287 rfl rfl fun a E=>sq<|pr 1 E rfl fun a E=>nx<|pr 2 E rfl fun a E=>bd hm fun d c hm=>xk E rfl rfl rfl rfl rfl GI (X2 H c) fun w H a E=>pr 1 E rfl fun a E=>nt<|?_
 refine wp_ret<|bB E rfl rfl<|?_
 cases hm
 exact ⟨rfl,H.reads Y0⟩

def qI(b:ByteArray):Option Bool:=
  (tK b).bind fun c=>some (decide (c ≥ 0))
theorem O9{b:ByteArray}(H:Sep w (Fo) rs){r:Bool}(hm:qI b=some r) :
    Calls Tryz.prog 250 [.string b,.func (.func 251) #[] #[]].toArray w (Ret fun v w'=>.bool r=v∧Sep w' (Fo) (rs)):=by
 unfold qI at hm
 refine ent Tryz.func250 rfl Tryz.ntmps250 rfl rfl fun a E=>sq<|pr 1 E rfl fun a E=>nx<|pr 2 E rfl fun a E=>bd hm fun d c hm=>xk E rfl rfl rfl rfl rfl GH (Y9 H c) fun w H a E=>pr 2 E rfl fun a E=>nt<|?_
 refine wp_ret<|bB E rfl rfl<|?_
 cases hm
 exact ⟨rfl,H.reads Y0⟩

def uS(b:ByteArray):Option Bool:=
  (qI b).bind fun c=>if (!(sEq b (ByteArray.mk #[])))=true then (if (decide ((b.size:Int) ≤ 12))=true then (some (!c)) else (some (false))) else (some (false))
theorem P1{d:ByteArray}(H:Sep w (Fo) rs){r:Bool}(hm:uS d=some r) :
    Calls Tryz.prog 203 [.string d].toArray w (Ret fun v w'=>.bool r=v∧Sep w' (Fo) (rs)):=by
 unfold uS at hm
 refine ent Tryz.func203 rfl Tryz.ntmps203 rfl rfl fun a E=>sq<|pr 1 E rfl fun a E=>nx<|pr 1 E rfl fun a E=>bd hm fun f e hm=>xk E rfl rfl rfl rfl rfl GG (O9 H e) fun w H a E=>pr 1 E rfl fun a E=>nx<|?_
 refine pr 3 E rfl fun a E=>cs hm (fun b hm=>?_) fun b hm=>?_
 ·refine pk 5 E (kc 8 rfl b) rfl fun a E=>cs hm (fun c hm=>?_) fun c hm=>?_
  ·refine pk 4 E (kc 13 rfl c) rfl fun a E=>nt<|wp_ret<|bB E rfl rfl<|?_
   cases hm
   exact ⟨rfl,H.reads Y0⟩
  ·refine pk 4 E (kc 13 rfl c) rfl fun a E=>nt<|wp_ret<|bB E rfl rfl<|?_
   cases hm
   exact ⟨rfl,H.reads Y0⟩
 ·refine pk 9 E (kc 8 rfl b) rfl fun a E=>nt<|wp_ret<|bB E rfl rfl<|?_
  cases hm
  exact ⟨rfl,H.reads Y0⟩

def gW(c:ByteArray)(b:ByteArray):Option Bool:=
  if (decide ((c.size:Int) ≥ (b.size:Int)))=true then ((ck (0 ≤ (b.size:Int)∧(b.size:Int) ≤ c.size)).bind fun d=>some (sEq (c.extract 0 (b.size:Int).toNat) b)) else (some (false))
theorem x6{c e:ByteArray}(H:Sep w (Fo) rs){r:Bool}(hm:gW c e=some r) :
    Calls Tryz.prog 247 [.string c,.string e].toArray w (Ret fun v w'=>.bool r=v∧Sep w' (Fo) (rs)):=by
 unfold gW at hm
 refine ent Tryz.func247 rfl Tryz.ntmps247 rfl rfl fun a E=>sq<|pr 1 E rfl fun a E=>nx<|pr 6 E rfl fun a E=>cs hm (fun b hm=>?_) fun b hm=>?_
 ·refine pk 3 E (kc 10 rfl b) rfl fun a E=>bk hm fun f hm=>aQ E (ws' (d:=10) E rfl rfl rfl rfl b) rfl rfl (Aa E rfl rfl rfl U9 f) fun a E=>pk 4 E (kc 10 rfl b) rfl fun a E=>nt<|wp_ret<|bB E rfl rfl<|?_
  cases hm
  exact ⟨rfl,H.reads Y0⟩
 ·refine pk 8 E (kc 10 rfl b) rfl fun a E=>nt<|wp_ret<|bB E rfl rfl<|?_
  cases hm
  exact ⟨rfl,H.reads Y0⟩

def gX(b:ByteArray)(c:ByteArray):Option (ByteArray×Bool):=
  (gW b c).bind fun d=>if (!d)=true then (some (b,false)) else ((ck (0 ≤ (c.size:Int)∧(c.size:Int) ≤ b.size)).bind fun e=>some (b.extract (c.size:Int).toNat b.size,true))
theorem x7{b c:ByteArray}(H:Sep w (Fo) rs){r:ByteArray×Bool}(hm:gX b c=some r) :
    Calls Tryz.prog 200 [.string b,.string c].toArray w (Ret fun v w'=>.tuple #[.string r.1,.bool r.2]=v∧Sep w' (Fo) (rs)):=by
 unfold gX at hm
 refine ent Tryz.func200 rfl Tryz.ntmps200 rfl rfl fun a E=>sq<|pr 2 E rfl fun a E=>nt<|wp_seq<|sq<|pr 2 E rfl fun a E=>bd hm fun f d hm=>xk E rfl rfl rfl rfl rfl GE (x6 H d) fun w H a E=>?_
 refine pr 1 E rfl fun a E=>nt<|wif E hm rfl (fun hm=>?_) fun hm=>?_
 ·refine sq<|pr 3 E rfl fun a E=>nt<|wp_ret<|aP<|iE E rfl rfl rfl<|?_
  cases hm
  exact ⟨rfl,H.reads Y0⟩
 ·refine wp_skip<|aD<|sq<|pr 3 E rfl fun a E=>bk hm fun e hm=>sv E rfl rfl rfl (Q9 E rfl rfl rfl U9 e) fun a E=>pr 2 E rfl fun a E=>nt<|wp_ret<|?_
  refine iE E rfl rfl rfl<|?_
  cases hm
  exact ⟨rfl,H.reads Y0⟩

def iW(c:ByteArray)(d:ByteArray):Option (ByteArray×Bool):=
  (gX c d).bind fun b=>some (b.1,b.2)
theorem C3{b c:ByteArray}(H:Sep w (Fo) rs){r:ByteArray×Bool}(hm:iW b c=some r) :
    Calls Tryz.prog 139 [.string b,.string c].toArray w (Ret fun v w'=>.tuple #[.string r.1,.bool r.2]=v∧Sep w' (Fo) (rs)):=by
 unfold iW at hm
 refine ent Tryz.func139 rfl Tryz.ntmps139 rfl rfl fun a E=>sq<|pr 2 E rfl fun a E=>nx<|pr 2 E rfl fun a E=>bd hm fun e d hm=>xk E rfl rfl rfl rfl rfl GD (x7 H d) fun w H a E=>pr 4 E rfl fun a E=>nt<|?_
 refine wp_ret<|iE E rfl rfl rfl<|?_
 cases hm
 exact ⟨rfl,H.reads Y0⟩

def oG:Option ((List ByteArray)×Bool):=
  some ([],false)
def rC(rec_1:ByteArray→(List ByteArray)→Option ((List ByteArray)×Bool))(c:ByteArray×Bool)(d:(List ByteArray))(b:Int):Option ((List ByteArray)×Bool):=
  (ck (0 ≤ b∧b ≤ c.1.size)).bind fun f=>(uS (c.1.extract 0 b.toNat)).bind fun e=>if (!e)=true then (oG) else ((ck (0 ≤ b∧b ≤ c.1.size)).bind fun g=>(ck (d.length+([c.1.extract 0 b.toNat]:List ByteArray).length ≤ LIM)).bind fun i=>(ck (0 ≤ b∧b ≤ c.1.size)).bind fun j=>rec_1 (c.1.extract b.toNat c.1.size) (d ++ ([c.1.extract 0 b.toNat]:List ByteArray)))
def mF:Nat→ByteArray→(List ByteArray)→Option ((List ByteArray)×Bool)
  | 0,_,_=>none
  | e+1,f,b=>
    if (!(sEq f (ByteArray.mk #[])))=true then ((iW f (ByteArray.mk #[47])).bind fun c=>if (!c.2)=true then (oG) else (if ((b.length:Int) == 6)=true then (oG) else ((iV c.1 47).bind fun d=>if (decide (d < 0))=true then (rC (mF e) c b (c.1.size:Int)) else (rC (mF e) c b d)))) else (if (decide ((b.length:Int) > 0))=true then (some (b,true)) else (some ([],false)))
def vH(b:ByteArray):Option ((List ByteArray)×Bool):=
  if (sEq b (ByteArray.mk #[47]))=true then (some ([],true)) else (mF (b.size+2) b [])
theorem Aj{q:ByteArray}(H:Sep w (Fo) rs){r:(List ByteArray)×Bool}(hm:vH q=some r) :
    Calls Tryz.prog 146 [.string q].toArray w (Ret fun v w'=>∃ D,.tuple #[D,.bool r.2]=v∧Sep w' (Row 9 kS D r.1::Fo) (rs)):=by
 unfold vH at hm
 refine ent Tryz.func146 rfl Tryz.ntmps146 rfl rfl fun a E=>sq<|pr 2 E rfl fun a E=>nt<|?_
 refine wp_scope_jumps 0 (fun a w=>∃ l,Env 48 a []∧Sep w (Fo) l∧(∀ r,r ∈ rs→r ∈ l)∧oG=some r) (fun _ _=>0) rfl ?_ ?_
 ·refine sq<|pr 1 E rfl fun a E=>nt<|wp_seq<|sq<|pr 2 E rfl fun a E=>nt<|wif E hm rfl (fun hm=>?_) fun hm=>?_
  ·refine sq<|pr 2 E rfl fun a E=>nt<|wp_ret<|aP<|Bi<|iE E rfl rfl rfl<|have H:=H.nilRow 9 kS;?_
   cases hm
   exact ⟨_,rfl,H.reads Y0⟩
  ·refine wp_skip<|aD<|wp_seq<|wp_block<|cA (fun g a w=>∃ m s n o,Env 48 a [(0,.string s),(4,m)]∧Sep w (Row 9 kS m n::Fo) o∧(∀ r,r ∈ rs→r ∈ o)∧mF g s n=some r) (q.size+2) ?_ ?_
   ·exact have H:=H.nilRow 9 kS;X4 ⟨E.to rfl,H,Y0,hm⟩
   ·clear E H hm
    rintro g a w ⟨m,s,n,o,E,H,f,hm⟩
    cases g with
    | zero=>exact (bW hm rfl).elim
    | succ g=>
     unfold mF at hm
     refine wp_seq<|sq<|pr 2 E rfl fun a E=>nt<|wif E hm rfl (fun hm=>?_) fun hm=>?_
     ·refine wp_skip<|aD<|wp_block<|sq<|pr 1 E rfl fun a E=>bd hm fun k t hm=>xk E rfl rfl rfl rfl rfl Xe (C3 H t) fun w H a E=>pr 5 E rfl fun a E=>nt<|?_
      refine wp_seq<|sq<|pr 3 E rfl fun a E=>cs hm (fun b hm=>?_) fun b hm=>?_
      ·refine pk 4 E (kc 19 rfl b) rfl fun a E=>nt<|wp_cond_true (E.eval rfl)<|wp_goto<|zN<|Q6<|zN<|Q6<|zN<|?_
       exact Ka<|have H:=H.drop 0;⟨_,E.nil,H,f,hm⟩
      ·refine pk 1 E (kc 19 rfl b) rfl fun a E=>aQ E (ws' (d:=19) E rfl rfl rfl rfl b) rfl rfl (lC (i:=0) E H rfl rfl rfl U41) fun a E=>pk 2 E (kc 19 rfl b) rfl fun a E=>nt<|wif E hm rfl (fun hm=>?_) fun hm=>?_
       ·exact wp_goto<|zN<|Q6<|zN<|Q6<|zN<|Ka<|have H:=H.drop 0;⟨_,E.nil,H,f,hm⟩
       ·refine wp_skip<|aD<|sq<|pr 1 E rfl fun a E=>bd hm fun G u hm=>xk E rfl rfl rfl rfl rfl Ph (xV H u) fun w H a E=>pr 1 E rfl fun a E=>nt<|aT (fun a w=>∃ c j,Env 48 a [(4,m),(5,.string k.1),(7,.int .i64 c)]∧Sep w (Row 9 kS m n::Fo) j∧(∀ r,r ∈ rs→r ∈ j)∧rC (mF g) k n c=some r) ?_ ?_
        ·refine sq<|pr 2 E rfl fun a E=>nt<|wif E hm rfl (fun hm=>?_) fun hm=>?_
         ·exact wp_region_lit<|pr 3 E rfl fun a E=>nt<|⟨_,_,E.to rfl,H,f,hm⟩
         ·exact wp_skip<|aD<|⟨_,_,E.to rfl,H,f,hm⟩
        ·clear E H hm
         rintro a w ⟨c,j,E,H,p,hm⟩
         unfold rC at hm
         refine wp_seq<|sq<|pr 2 E rfl fun a E=>bk hm fun y hm=>sv E rfl rfl rfl (Aa E rfl rfl rfl U9 y) fun a E=>bd hm fun I z hm=>xk E rfl rfl rfl rfl rfl Pi (P1 H z) fun w H a E=>pr 1 E rfl fun a E=>nt<|wif E hm rfl (fun hm=>?_) fun hm=>?_
         ·exact wp_goto<|zN<|Q6<|zN<|Q6<|zN<|Ka<|have H:=H.drop 0;⟨_,E.nil,H,p,hm⟩
         ·refine wp_skip<|aD<|sq<|pr 3 E rfl fun a E=>bk hm fun A hm=>sv E rfl rfl rfl (Aa E rfl rfl rfl U9 A) fun a E=>sT (e:=9) (d:=kS) (cs:=[.string (k.1.extract 0 c.toNat)]) (xs:=[k.1.extract 0 c.toNat]) E H (wn rfl) rfl rfl rfl (E.evs rfl) (by kernel_rfl) rfl (fun ok hr=>(Rows.single (d:=kS) (cs:=[.string (k.1.extract 0 c.toNat)]) (x:=k.1.extract 0 c.toNat) rfl)) fun J w a H E=>bk hm fun B hm=>eU (i:=0) E H (wn rfl) rfl rfl rfl rfl rfl rfl (lD m0) U41 Pj rfl B rfl fun K w a H E=>?_
          refine pr 1 E rfl fun a E=>nt<|wp_region_lit<|pr 2 E rfl fun a E=>bk hm fun C hm=>sv E rfl rfl rfl (Q9 E rfl rfl rfl U9 C) fun a E=>pr 1 E rfl fun a E=>wpList_nil<|bY<|?_
          exact aD<|⟨g,Nat.lt_succ_self g,X4 ⟨E.to rfl,H,(Y1 p),hm⟩⟩
     ·refine wp_exit<|bH<|bH<|dZ<|aD<|wp_seq<|sq<|pr 1 E rfl fun a E=>sv E rfl rfl rfl (lC (i:=0) E H rfl rfl rfl U41) fun a E=>?_
      refine pr 1 E rfl fun a E=>nt<|wif E hm rfl (fun hm=>?_) fun hm=>?_
      ·refine sq<|pr 3 E rfl fun a E=>nt<|wp_ret<|aP<|Bi<|iE E rfl rfl rfl<|?_
       cases hm
       exact ⟨_,rfl,H.reads f⟩
      ·refine wp_skip<|aD<|wp_seq<|wp_label<|aD<|sq<|pr 2 E rfl fun a E=>nt<|wp_ret<|?_
       refine Bi<|iE E rfl rfl rfl<|have H:=H.nilRow 9 kS;have H:=H.drop 1;?_
       cases hm
       exact ⟨_,rfl,H.reads f⟩
 ·clear E H hm
  rintro a w ⟨l,E,H,F,hm⟩
  unfold oG at hm
  refine wp_seq<|wp_skip<|aD<|sq<|pr 2 E rfl fun a E=>nt<|wp_ret<|Bi<|iE E rfl rfl rfl<|?_
  refine have H:=H.nilRow 9 kS;?_
  cases hm
  exact ⟨_,rfl,H.reads F⟩

def eP(b:ByteArray):Option Bool:=
  (vH b).bind fun c=>some (c.2)
theorem iI{b:ByteArray}(H:Sep w (Fo) rs){r:Bool}(hm:eP b=some r) :
    Calls Tryz.prog 78 [.string b].toArray w (Ret fun v w'=>.bool r=v∧Sep w' (Fo) (rs)):=by
 unfold eP at hm
 refine ent Tryz.func78 rfl Tryz.ntmps78 rfl rfl fun a E=>sq<|pr 1 E rfl fun a E=>nx<|pr 1 E rfl fun a E=>bd hm fun d c hm=>cJ E rfl rfl rfl rfl rfl Xd (Aj H c)<|?_
 rintro _ w ⟨e,rfl,H⟩ a E
 refine pr 5 E rfl fun a E=>nx<|pr 2 E rfl fun a E=>nt<|wp_ret<|bB E rfl rfl<|have H:=H.drop 0;?_
 cases hm
 exact ⟨rfl,H.reads Y0⟩

def vI(x1:dE)(b:Int)(c:Bool):Option Bool:=
  if c=true then (G7.bind fun e=>(idx ([0,13,2,19,18,16,16,20]:List Int) x1.Kind).bind fun d=>if ((Q7 .i64 b d) == 0)=true then (if (x1.Kind != 7)=true then (some (true)) else (some (decide (x1.Owner > 0)))) else (some (false))) else (some (false))
def sH(x1:dE)(b:Int):Option Bool:=
  if (decide (x1.Version ≥ (-1)))=true then (vI x1 b (decide (x1.Version ≤ 281474976710656))) else (vI x1 b false)
def sI(x1:dE)(b:Int):Option Bool:=
  if (sEq x1.Path (ByteArray.mk #[47]))=true then (sH x1 (ior .i64 b 16)) else (sH x1 b)
def sJ(x1:dE)(b:Int):Option Bool:=
  if x1.Turns=true then (sI x1 (ior .i64 b 8)) else (sI x1 b)
def sK(x1:dE)(b:Int):Option Bool:=
  if (x1.Owner != 0)=true then (sJ x1 (ior .i64 b 4)) else (sJ x1 b)
def sL(x1:dE)(b:Int):Option Bool:=
  if (x1.Version != 0)=true then (sK x1 (ior .i64 b 2)) else (sK x1 b)
def nM(x1:dE)(b:Bool):Option Bool:=
  if b=true then (some (false)) else (if (!(sEq x1.Data (ByteArray.mk #[])))=true then (sL x1 (ior .i64 0 1)) else (sL x1 0))
def xO(x1:dE):Option Bool:=
  if (decide (x1.Kind < 1))=true then (nM x1 true) else (if (decide (x1.Kind > 7))=true then (nM x1 true) else ((eP x1.Path).bind fun b=>if (!b)=true then (nM x1 true) else (if (decide ((x1.Data.size:Int) > 256))=true then (nM x1 true) else ((vG x1.Owner 1099511627776).bind fun c=>nM x1 (!c)))))
theorem Cy{x1:dE}(H:Sep w (Fo) rs){r:Bool}(hm:xO x1=some r) :
    Calls Tryz.prog 67 [.agg (jN x1).toArray].toArray w (Ret fun v w'=>.bool r=v∧Sep w' (Fo) (rs)):=by
 unfold xO at hm
 refine ent Tryz.func67 rfl Tryz.ntmps67 rfl rfl fun a E=>sq<|bS E H (wn rfl) rfl rfl rfl rfl rfl fun e w a H E=>pr 1 E rfl fun a E=>nt<|wp_seq<|aT (fun a w=>∃ K x,Env 83 a [(1,pt e 0),(30,.bool K)]∧Sep w (Blk e 45 (jN x1)::Fo) x∧(∀ r,r ∈ rs→r ∈ x)∧nM x1 K=some r) ?_ ?_
 ·refine wp_region_lit<|pr 1 E rfl fun a E=>lb E H 0 rfl rfl rfl rfl rfl rfl rfl U3 rfl fun a E=>pr 2 E rfl fun a E=>cs hm (fun j hm=>?_) fun j hm=>?_
  ·exact pk 22 E (kc 8 rfl j) rfl fun a E=>nt<|⟨_,_,E.to rfl,H,Y0,hm⟩
  ·refine pk 1 E (kc 8 rfl j) rfl fun a E=>aQ E (ws' (d:=8) E rfl rfl rfl rfl j) rfl rfl (bT (i:=0) E H rfl rfl rfl rfl U3 rfl) fun a E=>pk 3 E (kc 8 rfl j) rfl fun a E=>cs hm (fun f hm=>?_) fun f hm=>?_
   ·exact pk 17 E (kc 13 rfl f) rfl fun a E=>nt<|⟨_,_,E.to rfl,H,Y0,hm⟩
   ·refine pk 1 E (kc 13 rfl f) rfl fun a E=>aQ E (ws' (d:=13) E rfl rfl rfl rfl f) rfl rfl (bT (i:=0) E H rfl rfl rfl rfl U9 rfl) fun a E=>bd hm fun R L hm=>aX E (ws' (d:=13) E rfl rfl rfl rfl f) rfl rfl (cG E rfl rfl (A7 _)) (iI H L)<|?_
    rintro _ w ⟨rfl,H⟩ a E
    refine pk 3 E (kc 13 rfl f) rfl fun a E=>cs hm (fun k hm=>?_) fun k hm=>?_
    ·exact pk 11 E (kc 19 rfl k) rfl fun a E=>nt<|⟨_,_,E.to rfl,H,Y0,hm⟩
    ·refine pk 1 E (kc 19 rfl k) rfl fun a E=>aQ E (ws' (d:=19) E rfl rfl rfl rfl k) rfl rfl (bT (i:=0) E H rfl rfl rfl rfl U9 rfl) fun a E=>pk 4 E (kc 19 rfl k) rfl fun a E=>cs hm (fun g hm=>?_) fun g hm=>?_
     ·exact pk 5 E (kc 25 rfl g) rfl fun a E=>nt<|⟨_,_,E.to rfl,H,Y0,hm⟩
     ·refine pk 1 E (kc 25 rfl g) rfl fun a E=>aQ E (ws' (d:=25) E rfl rfl rfl rfl g) rfl rfl (bT (i:=0) E H rfl rfl rfl rfl U2 rfl) fun a E=>bd hm fun S M hm=>aX E (ws' (d:=25) E rfl rfl rfl rfl g) rfl rfl (cG E rfl rfl (GP _)) (Hc H M)<|?_
      rintro _ w ⟨rfl,H⟩ a E
      exact pk 2 E (kc 25 rfl g) rfl fun a E=>nt<|⟨_,_,E.to rfl,H,Y0,hm⟩
 ·clear E H hm
  rintro a w ⟨K,x,E,H,y,hm⟩
  unfold nM at hm
  refine wif E hm rfl (fun hm=>?_) fun hm=>?_
  ·refine sq<|pr 1 E rfl fun a E=>nt<|wp_ret<|aP<|bB E rfl rfl<|have H:=H.drop 0;?_
   cases hm
   exact ⟨rfl,H.reads y⟩
  ·refine wp_skip<|aD<|sq<|pr 1 E rfl fun a E=>nt<|aT (fun a w=>∃ N z,Env 83 a [(1,pt e 0),(3,.int .i64 N)]∧Sep w (Blk e 45 (jN x1)::Fo) z∧(∀ r,r ∈ rs→r ∈ z)∧sL x1 N=some r) ?_ ?_
   ·refine sq<|pr 1 E rfl fun a E=>lb E H 0 rfl rfl rfl rfl rfl rfl rfl U9 rfl fun a E=>pr 1 E rfl fun a E=>nt<|wif E hm rfl (fun hm=>?_) fun hm=>?_
    ·exact wp_region_lit<|pr 3 E rfl fun a E=>nt<|⟨_,_,E.to rfl,H,y,hm⟩
    ·exact wp_skip<|aD<|⟨_,_,E.to rfl,H,y,hm⟩
   ·clear E H hm
    rintro a w ⟨N,z,E,H,J,hm⟩
    unfold sL at hm
    refine aT (fun a w=>∃ O p,Env 83 a [(1,pt e 0),(3,.int .i64 O)]∧Sep w (Blk e 45 (jN x1)::Fo) p∧(∀ r,r ∈ rs→r ∈ p)∧sK x1 O=some r) ?_ ?_
    ·refine sq<|pr 1 E rfl fun a E=>lb E H 0 rfl rfl rfl rfl rfl rfl rfl U2 rfl fun a E=>pr 1 E rfl fun a E=>nt<|wif E hm rfl (fun hm=>?_) fun hm=>?_
     ·exact wp_region_lit<|pr 3 E rfl fun a E=>nt<|⟨_,_,E.to rfl,H,J,hm⟩
     ·exact wp_skip<|aD<|⟨_,_,E.to rfl,H,J,hm⟩
    ·clear E H hm
     rintro a w ⟨O,p,E,H,A,hm⟩
     unfold sK at hm
     refine aT (fun a w=>∃ B q,Env 83 a [(1,pt e 0),(3,.int .i64 B)]∧Sep w (Blk e 45 (jN x1)::Fo) q∧(∀ r,r ∈ rs→r ∈ q)∧sJ x1 B=some r) ?_ ?_
     ·refine sq<|pr 1 E rfl fun a E=>lb E H 0 rfl rfl rfl rfl rfl rfl rfl U2 rfl fun a E=>pr 1 E rfl fun a E=>nt<|wif E hm rfl (fun hm=>?_) fun hm=>?_
      ·exact wp_region_lit<|pr 3 E rfl fun a E=>nt<|⟨_,_,E.to rfl,H,A,hm⟩
      ·exact wp_skip<|aD<|⟨_,_,E.to rfl,H,A,hm⟩
     ·clear E H hm
      rintro a w ⟨B,q,E,H,C,hm⟩
      unfold sJ at hm
      refine aT (fun a w=>∃ D s,Env 83 a [(1,pt e 0),(3,.int .i64 D)]∧Sep w (Blk e 45 (jN x1)::Fo) s∧(∀ r,r ∈ rs→r ∈ s)∧sI x1 D=some r) ?_ ?_
      ·refine sq<|pr 1 E rfl fun a E=>lb E H 0 rfl rfl rfl rfl rfl rfl rfl U4 rfl fun a E=>nt<|wif E hm rfl (fun hm=>?_) fun hm=>?_
       ·exact wp_region_lit<|pr 3 E rfl fun a E=>nt<|⟨_,_,E.to rfl,H,C,hm⟩
       ·exact wp_skip<|aD<|⟨_,_,E.to rfl,H,C,hm⟩
      ·clear E H hm
       rintro a w ⟨D,s,E,H,F,hm⟩
       unfold sI at hm
       refine aT (fun a w=>∃ o t,Env 83 a [(1,pt e 0),(3,.int .i64 o)]∧Sep w (Blk e 45 (jN x1)::Fo) t∧(∀ r,r ∈ rs→r ∈ t)∧sH x1 o=some r) ?_ ?_
       ·refine sq<|pr 1 E rfl fun a E=>lb E H 0 rfl rfl rfl rfl rfl rfl rfl U9 rfl fun a E=>pr 1 E rfl fun a E=>nt<|wif E hm rfl (fun hm=>?_) fun hm=>?_
        ·exact wp_region_lit<|pr 3 E rfl fun a E=>nt<|⟨_,_,E.to rfl,H,F,hm⟩
        ·exact wp_skip<|aD<|⟨_,_,E.to rfl,H,F,hm⟩
       ·clear E H hm
        rintro a w ⟨o,t,E,H,G,hm⟩
        unfold sH at hm
        refine aT (fun a w=>∃ I u,Env 83 a [(1,pt e 0),(3,.int .i64 o),(4,.bool I)]∧Sep w (Blk e 45 (jN x1)::Fo) u∧(∀ r,r ∈ rs→r ∈ u)∧vI x1 o I=some r) ?_ ?_
        ·refine wp_region_lit<|pr 1 E rfl fun a E=>lb E H 0 rfl rfl rfl rfl rfl rfl rfl U2 rfl fun a E=>pr 2 E rfl fun a E=>cs hm (fun l hm=>?_) fun l hm=>?_
         ·exact pk 1 E (kc 58 rfl l) rfl fun a E=>aQ E (ws' (d:=58) E rfl rfl rfl rfl l) rfl rfl (bT (i:=0) E H rfl rfl rfl rfl U2 rfl) fun a E=>pk 3 E (kc 58 rfl l) rfl fun a E=>nt<|⟨_,_,E.to rfl,H,G,hm⟩
         ·exact pk 5 E (kc 58 rfl l) rfl fun a E=>nt<|⟨_,_,E.to rfl,H,G,hm⟩
        ·clear E H hm
         rintro a w ⟨I,u,E,H,n,hm⟩
         unfold vI at hm
         refine wp_seq<|dw [(0,0),(1,0),(2,0),(4,0),(5,0),(3,1),(6,0),(7,0),(8,0),(9,0),(10,0),(11,0),(12,0),(13,0),(14,0),(15,0),(16,0),(17,0),(18,0),(19,0),(20,2)] [0] [] H (by kernel_rfl) (fun _ _ _ h=>False.elim h.2) fun w W0 hI H=>fn 2 E rfl fun a E=>cs hm (fun b hm=>?_) fun b hm=>?_
         ·refine fk 2 E (kc 64 rfl b) rfl fun a E=>fb E rfl (ws' (d:=64) E rfl rfl rfl rfl b) rfl rfl rfl rfl m0 rfl U3 rfl fun a E=>cE rfl<|bd hm fun T P hm=>aX E (ws' (d:=64) E rfl rfl rfl rfl b) rfl rfl (cG E rfl rfl (GQ _)) (Ix H P)<|?_
          rintro _ w ⟨rfl,H⟩ a E
          refine nt<|?_
          refine ⟨⟨_,_,H,(aB m0 (aL)),(aN)⟩,?_⟩
          refine bd hm fun U Q hm=>cB E rfl (ws' (d:=64) E rfl rfl rfl rfl b) rfl rfl (fun w hW=>(Yo (vs:=[.int .i64 0,.int .i64 13,.int .i64 2,.int .i64 19,.int .i64 18,.int .i64 16,.int .i64 16,.int .i64 20]) E rfl rfl rfl CD rfl sz3 U3 rfl (Yp (Value.int .i64) (xs:=([0,13,2,19,18,16,16,20]:List Int)) Q))) fun a E=>?_
          refine fk 4 E (kc 64 rfl b) rfl fun a E=>cs hm (fun c hm=>?_) fun c hm=>?_
          ·refine fk 1 E (kc 73 rfl c) rfl fun a E=>fb E rfl (ws' (d:=73) E rfl rfl rfl rfl c) rfl rfl rfl rfl m0 rfl U3 rfl fun a E=>fk 2 E (kc 73 rfl c) rfl fun a E=>cs hm (fun m hm=>?_) fun m hm=>?_
           ·refine fk 5 E (kc' (kc 77 rfl m) 73 rfl c) rfl fun a E=>bQ rfl<|pr 1 E rfl fun a E=>nt<|bR<|?_
            clear hI
            refine aD<|wp_ret<|bB E rfl rfl<|have H:=H.drop 0;?_
            cases hm
            exact ⟨rfl,H.reads n⟩
           ·refine fk 1 E (kc 77 rfl m) rfl fun a E=>fb E rfl (ws' (d:=77) E rfl rfl rfl rfl m) rfl rfl rfl rfl m0 rfl U2 rfl fun a E=>fk 3 E (kc' (kc 77 rfl m) 73 rfl c) rfl fun a E=>bQ rfl<|pr 1 E rfl fun a E=>nt<|bR<|?_
            clear hI
            refine aD<|wp_ret<|bB E rfl rfl<|have H:=H.drop 0;?_
            cases hm
            exact ⟨rfl,H.reads n⟩
          ·refine fk 9 E (kc 73 rfl c) rfl fun a E=>bQ rfl<|pr 1 E rfl fun a E=>nt<|bR<|?_
           clear hI
           refine aD<|wp_ret<|bB E rfl rfl<|have H:=H.drop 0;?_
           cases hm
           exact ⟨rfl,H.reads n⟩
         ·refine fk 3 E (kc 64 rfl b) rfl fun a E=>cE rfl<|pk 1 E (kc 64 rfl b) rfl fun a E=>nt<|?_
          refine ⟨⟨_,_,H,(aB m0 (aL)),(aN)⟩,?_⟩
          refine fk 14 E (kc 64 rfl b) rfl fun a E=>bQ rfl<|pr 1 E rfl fun a E=>nt<|bR<|?_
          clear hI
          refine aD<|wp_ret<|bB E rfl rfl<|have H:=H.drop 0;?_
          cases hm
          exact ⟨rfl,H.reads n⟩

def v8(x1:dE):Option Bool:=
  (xO x1).bind fun b=>some (!b)
theorem Iz{x1:dE}(H:Sep w (Fo) rs){r:Bool}(hm:v8 x1=some r) :
    Calls Tryz.prog 66 [.agg (jN x1).toArray].toArray w (Ret fun v w'=>.bool r=v∧Sep w' (Fo) (rs)):=by
 unfold v8 at hm
 refine ent Tryz.func66 rfl Tryz.ntmps66 rfl rfl fun a E=>sq<|bS E H (wn rfl) rfl rfl rfl rfl rfl fun c w a H E=>pr 1 E rfl fun a E=>nx<|sv E rfl rfl rfl (cD (i:=0) (us:=(jN x1)) E H rfl rfl rfl rfl U45 rfl G3) fun a E=>bd hm fun d b hm=>xk E rfl rfl rfl rfl rfl BV (Cy H b) fun w H a E=>pr 2 E rfl fun a E=>?_
 refine nt<|wp_ret<|bB E rfl rfl<|have H:=H.drop 0;?_
 cases hm
 exact ⟨rfl,H.reads Y0⟩

def eM(c:List dE):Nat→Int→Option Int
  | 0,_=>none
  | e+1,b=>
    if (decide (b < (c.length:Int)))=true then ((idx c b).bind fun f=>(v8 f).bind fun d=>if d=true then (some (b)) else (eM c e (IntKind.i64.wrap (b+1)))) else (some ((-1)))
def jO(b:List dE):Option Int:=
  eM b (((b.length:Int) - 0:Int).toNat+1) 0
theorem x8{g:Value}{d:List dE}(H:Sep w (Fo) rs)(f:rSl sX g d ∈ rs){r:Int}(hm:jO d=some r) :
    Calls Tryz.prog 141 [g,.func (.func 66) #[] #[]].toArray w (Ret fun v w'=>.int .i64 r=v∧Sep w' (Fo) (rs)):=by
 unfold jO at hm
 refine ent Tryz.func141 rfl Tryz.ntmps141 rfl rfl fun a E=>sq<|pr 1 E rfl fun a E=>nt<|wp_seq<|sq<|pr 1 E rfl fun a E=>sv E rfl rfl rfl (dB E H rfl rfl f U22) fun a E=>pr 1 E rfl fun a E=>?_
 refine nt<|wp_block<|cA (fun c a w=>∃ i e,Env 19 a [(0,g),(1,.func (.func 66) #[] #[]),(7,.int .i64 (d.length:Int)),(8,.int .i64 i)]∧Sep w (Fo) e∧(∀ r,r ∈ rs→r ∈ e)∧eM d c i=some r) (((d.length:Int) - 0:Int).toNat+1) ?_ ?_
 ·exact ⟨_,_,E.to rfl,H,Y0,hm⟩
 ·clear E H hm
  rintro c a w ⟨i,e,E,H,b,hm⟩
  cases c with
  | zero=>exact (bW hm rfl).elim
  | succ c=>
   unfold eM at hm
   refine sq<|pr 1 E rfl fun a E=>nt<|wp_seq<|wif E hm rfl (fun hm=>?_) fun hm=>?_
   ·refine wp_skip<|aD<|wp_seq<|wp_block<|sq<|pr 2 E rfl fun a E=>nx<|pr 3 E rfl fun a E=>bd hm fun m k hm=>?_
    refine dF E H (wn rfl) rfl rfl rfl rfl rfl (b _ f) U22 G3 k fun q9 a H E=>ldf G2 E H rfl rfl rfl rfl rfl m0 U45 rfl G3 fun a E=>bd hm fun l j hm=>aX E (wn rfl) rfl rfl (bP E rfl rfl rfl (KH _)) (Iz H j)<|?_
    rintro _ w ⟨rfl,H⟩ a E
    refine nt<|wif E hm rfl (fun hm=>?_) fun hm=>?_
    ·refine sq<|pr 2 E rfl fun a E=>nt<|wp_ret<|bU<|aP<|aP<|bU<|aP<|?_
     refine bB E rfl rfl<|?_
     cases hm
     exact ⟨rfl,H.reads (Y1 b)⟩
    ·exact wp_skip<|bY<|aD<|wp_region_lit<|pr 2 E rfl fun a E=>nt<|⟨c,Nat.lt_succ_self c,_,_,E.to rfl,H,(Y1 b),hm⟩
   ·refine wp_exit<|bH<|bH<|dZ<|aD<|sq<|pr 1 E rfl fun a E=>nt<|wp_ret<|?_
    refine bB E rfl rfl<|?_
    cases hm
    exact ⟨rfl,H.reads b⟩

def iS(b:List dE):Option Bool:=
  (jO b).bind fun c=>some (decide (c ≥ 0))
theorem zP{b:Value}{c:List dE}(H:Sep w (Fo) rs)(d:rSl sX b c ∈ rs){r:Bool}(hm:iS c=some r) :
    Calls Tryz.prog 65 [b,.func (.func 66) #[] #[]].toArray w (Ret fun v w'=>.bool r=v∧Sep w' (Fo) (rs)):=by
 unfold iS at hm
 refine ent Tryz.func65 rfl Tryz.ntmps65 rfl rfl fun a E=>sq<|pr 1 E rfl fun a E=>nx<|pr 2 E rfl fun a E=>bd hm fun f e hm=>xk E rfl rfl rfl rfl rfl GO (x8 H d e) fun w H a E=>pr 2 E rfl fun a E=>nt<|?_
 refine wp_ret<|bB E rfl rfl<|?_
 cases hm
 exact ⟨rfl,H.reads Y0⟩

def s7(b:List dE):Option Bool:=
  (iS b).bind fun c=>if (decide ((b.length:Int) > 0))=true then (if (decide ((b.length:Int) ≤ 8))=true then (some (!c)) else (some (false))) else (some (false))
theorem Mw{f:Value}{g:List dE}(H:Sep w (Fo) rs)(c:rSl sX f g ∈ rs){r:Bool}(hm:s7 g=some r) :
    Calls Tryz.prog 26 [f].toArray w (Ret fun v w'=>.bool r=v∧Sep w' (Fo) (rs)):=by
 unfold s7 at hm
 refine ent Tryz.func26 rfl Tryz.ntmps26 rfl rfl fun a E=>sq<|pr 1 E rfl fun a E=>nx<|pr 1 E rfl fun a E=>bd hm fun j i hm=>xk E rfl rfl rfl rfl rfl KG (zP H c i) fun w H a E=>pr 1 E rfl fun a E=>nx<|?_
 refine pr 1 E rfl fun a E=>sv E rfl rfl rfl (dB E H rfl rfl c U22) fun a E=>pr 2 E rfl fun a E=>cs hm (fun b hm=>?_) fun b hm=>?_
 ·refine pk 1 E (kc 9 rfl b) rfl fun a E=>aQ E (ws' (d:=9) E rfl rfl rfl rfl b) rfl rfl (dB E H rfl rfl c U22) fun a E=>pk 3 E (kc 9 rfl b) rfl fun a E=>cs hm (fun e hm=>?_) fun e hm=>?_
  ·refine pk 4 E (kc 14 rfl e) rfl fun a E=>nt<|wp_ret<|bB E rfl rfl<|?_
   cases hm
   exact ⟨rfl,H.reads Y0⟩
  ·refine pk 4 E (kc 14 rfl e) rfl fun a E=>nt<|wp_ret<|bB E rfl rfl<|?_
   cases hm
   exact ⟨rfl,H.reads Y0⟩
 ·refine pk 9 E (kc 9 rfl b) rfl fun a E=>nt<|wp_ret<|bB E rfl rfl<|?_
  cases hm
  exact ⟨rfl,H.reads Y0⟩

def mX(b:List bL)(c:List bL):Option (List bL):=
  (ck (c.length+b.length ≤ LIM)).bind fun d=>some (c ++ b)
theorem uT{c d:Value}{e f:List bL}{b:Nat}(H:Sep w (Blk b 68 [d]::Row 71 cZ d f::Fo) rs)(g:rSl cZ c e ∈ rs){r:(List bL)}(hm:mX e f=some r) :
    Calls Tryz.prog 68 [c,pt b 0].toArray w (Ret fun v w'=>∃ j,.tuple #[]=v∧Sep w' (Blk b 68 [j]::Row 71 cZ j r::Fo) (rs)):=by
 unfold mX at hm
 refine ent Tryz.func68 rfl Tryz.ntmps68 rfl rfl fun a E=>wp_region_lit<|lb E H 0 rfl rfl rfl rfl rfl rfl rfl U68 rfl fun a E=>pr 1 E rfl fun a E=>bk hm fun k hm=>eU (i:=1) E H (wn rfl) rfl rfl rfl rfl rfl rfl (lD g) U68 GW rfl k rfl fun m w a H E=>?_
 obtain ⟨q10,l,rfl⟩:=H.rowform (i:=1) rfl
 refine bC (i:=0) E H (wn rfl) rfl rfl rfl rfl rfl rfl KK rfl rfl fun w H=>wpList_nil<|rL E rfl<|?_
 cases hm
 exact ⟨_,rfl,H.reads Y0⟩

def sG(x1:Int)(b:ByteArray)(c:ByteArray):Option bL:=
  some ((⟨x1,b,c,(ByteArray.mk #[]),0,0,false⟩:bL))
theorem s8{x1:Int}{k l:Nat}{b c:ByteArray}{d e f g j:Value}(H:Sep w (Blk k 9 [.string b]::Blk l 45 [d,.string c,e,f,g,j]::Fo) rs){r:bL}(hm:sG x1 b c=some r) :
    Calls Tryz.prog 70 [.int .i64 x1,pt k 0,pt l 0].toArray w (Ret fun v w'=>.agg (cM r).toArray=v∧Sep w' (Blk k 9 [.string b]::Blk l 45 [d,.string c,e,f,g,j]::Fo) (rs)):=by
 unfold sG at hm
 refine ent Tryz.func70 rfl Tryz.ntmps70 rfl rfl fun a E=>sq<|al E H rfl rfl rfl rfl Ec fun m w a H E=>nx<|pr 1 E rfl fun a E=>lb E H 1 rfl rfl rfl rfl rfl rfl rfl U9 rfl fun a E=>pr 1 E rfl fun a E=>lb E H 2 rfl rfl rfl rfl rfl rfl rfl U9 rfl fun a E=>sv E rfl rfl rfl (cN E rfl (E.evs rfl) (v:=.agg #[.int .i64 x1,.string b,.string c,.string (ByteArray.mk #[]),.int .i64 0,.int .i64 0,.bool false]) (by kernel_rfl)) fun a E=>?_
 refine bC (i:=0) E H (wn rfl) rfl rfl rfl rfl rfl rfl jT rfl rfl fun w H=>nt<|wp_ret<|eC E rfl (dH (i:=0) (us:=[.int .i64 x1,.string b,.string c,.string (ByteArray.mk #[]),.int .i64 0,.int .i64 0,.bool false]) H rfl rfl rfl U71 rfl jT)<|have H:=H.drop 0;?_
 cases hm
 exact ⟨rfl,H.reads Y0⟩

def xP(x1:Int)(b:ByteArray)(c:Int):Option bL:=
  some ((⟨x1,b,b,(ByteArray.mk #[]),0,c,false⟩:bL))
theorem P2{x1 c:Int}{g:Nat}{b:ByteArray}{j d e f:Value}(H:Sep w (Blk g 45 [j,.string b,d,e,.int .i64 c,f]::Fo) rs){r:bL}(hm:xP x1 b c=some r) :
    Calls Tryz.prog 71 [.int .i64 x1,pt g 0].toArray w (Ret fun v w'=>.agg (cM r).toArray=v∧Sep w' (Blk g 45 [j,.string b,d,e,.int .i64 c,f]::Fo) (rs)):=by
 unfold xP at hm
 refine ent Tryz.func71 rfl Tryz.ntmps71 rfl rfl fun a E=>sq<|al E H rfl rfl rfl rfl Ec fun k w a H E=>nx<|pr 2 E rfl fun a E=>lb E H 1 rfl rfl rfl rfl rfl rfl rfl U9 rfl fun a E=>pr 1 E rfl fun a E=>lb E H 1 rfl rfl rfl rfl rfl rfl rfl U9 rfl fun a E=>pr 1 E rfl fun a E=>?_
 refine lb E H 1 rfl rfl rfl rfl rfl rfl rfl U2 rfl fun a E=>sv E rfl rfl rfl (cN E rfl (E.evs rfl) (v:=.agg #[.int .i64 x1,.string b,.string b,.string (ByteArray.mk #[]),.int .i64 0,.int .i64 c,.bool false]) (by kernel_rfl)) fun a E=>bC (i:=0) E H (wn rfl) rfl rfl rfl rfl rfl rfl jT rfl rfl fun w H=>nt<|wp_ret<|eC E rfl (dH (i:=0) (us:=[.int .i64 x1,.string b,.string b,.string (ByteArray.mk #[]),.int .i64 0,.int .i64 c,.bool false]) H rfl rfl rfl U71 rfl jT)<|have H:=H.drop 0;?_
 cases hm
 exact ⟨rfl,H.reads Y0⟩

def xQ(x1:Int)(c:ByteArray)(d:ByteArray)(e:Int):Option bL:=
  (sG x1 c d).bind fun b=>some ((⟨b.Kind,b.Dir,b.Path,b.Data,e,b.Owner,b.Turns⟩:bL))
theorem P3{x1 c:Int}{l e d:Nat}{m n:ByteArray}{f g j k:Value}(H:Sep w (Blk l 136 [.func (.func 70) #[] #[pt e 0,pt d 0]]::Blk e 9 [.string m]::Blk d 45 [f,.string n,g,.int .i64 c,j,k]::Fo) rs){r:bL}(hm:xQ x1 m n c=some r) :
    Calls Tryz.prog 72 [.int .i64 x1,pt l 0,pt d 0].toArray w (Ret fun v w'=>.agg (cM r).toArray=v∧Sep w' (Blk l 136 [.func (.func 70) #[] #[pt e 0,pt d 0]]::Blk e 9 [.string m]::Blk d 45 [f,.string n,g,.int .i64 c,j,k]::Fo) (rs)):=by
 unfold xQ at hm
 refine ent Tryz.func72 rfl Tryz.ntmps72 rfl rfl fun a E=>sq<|al E H rfl rfl rfl rfl Ec fun p w a H E=>nx<|lb E H 1 rfl rfl rfl rfl rfl rfl rfl Kx rfl fun a E=>pr 1 E rfl fun a E=>have H:=H.frs [1,1,3,3] rfl;bd hm fun b o hm=>aX E (wn rfl) rfl rfl (bP E rfl rfl rfl (Kz _)) (s8 H o)<|?_
 rintro _ w ⟨rfl,H⟩ a E
 refine al E H rfl rfl rfl rfl Ec fun q w a H E=>bC (i:=0) E H (wn rfl) rfl rfl rfl rfl rfl rfl jT rfl rfl fun w H=>nx<|pr 1 E rfl fun a E=>lb E H 2 rfl rfl rfl rfl rfl rfl rfl U2 rfl fun a E=>pr 1 E rfl fun a E=>bC (i:=0) E H (wn rfl) rfl rfl rfl rfl rfl rfl sz2 rfl rfl fun w H=>nx<|sv E rfl rfl rfl (cD (i:=0) (us:=[.int .i64 b.Kind,.string b.Dir,.string b.Path,.string b.Data,.int .i64 c,.int .i64 b.Owner,.bool b.Turns]) E H rfl rfl rfl rfl U71 rfl jT) fun a E=>?_
 refine bC (i:=3) E H (wn rfl) rfl rfl rfl rfl rfl rfl jT rfl rfl fun w H=>nt<|wp_ret<|eC E rfl (dH (i:=3) (us:=[.int .i64 b.Kind,.string b.Dir,.string b.Path,.string b.Data,.int .i64 c,.int .i64 b.Owner,.bool b.Turns]) H rfl rfl rfl U71 rfl jT)<|have H:=H.drs [0,2];have H:=H.frs [1,1,2] rfl;?_
 cases hm
 exact ⟨rfl,H.reads Y0⟩

def eL(c:ByteArray):Nat→Int→Int→Option Int
  | 0,_,_=>none
  | d+1,x3,b=>
    if (decide (b ≥ 0))=true then ((idx c.data.toList b).bind fun e=>if ((e.toNat:Int) == x3)=true then (some (b)) else (eL c d x3 (IntKind.i64.wrap (b - 1)))) else (some ((-1)))
def gZ(b:ByteArray)(c:Int):Option Int:=
  eL b (((IntKind.i64.wrap ((b.size:Int) - 1)) - 0:Int).toNat+2) c (IntKind.i64.wrap ((b.size:Int) - 1))
theorem xW{c:ByteArray}{g:Int}(H:Sep w (Fo) rs){r:Int}(hm:gZ c g=some r) :
    Calls Tryz.prog 280 [.string c,.int .u8 g].toArray w (Ret fun v w'=>.int .i64 r=v∧Sep w' (Fo) (rs)):=by
 unfold gZ at hm
 refine ent Tryz.func280 rfl Tryz.ntmps280 rfl rfl fun a E=>sq<|pr 1 E rfl fun a E=>nt<|wp_seq<|sq<|pr 4 E rfl fun a E=>nt<|wp_block<|cA (fun b a w=>∃ x3 f d,Env 19 a [(0,.string c),(1,.int .u8 x3),(5,.int .i64 f)]∧Sep w (Fo) d∧(∀ r,r ∈ rs→r ∈ d)∧eL c b x3 f=some r) (((IntKind.i64.wrap ((c.size:Int) - 1)) - 0:Int).toNat+2) ?_ ?_
 ·exact X3 ⟨E.to rfl,H,Y0,hm⟩
 ·clear E H hm
  rintro b a w ⟨x3,f,d,E,H,e,hm⟩
  cases b with
  | zero=>exact (bW hm rfl).elim
  | succ b=>
   unfold eL at hm
   refine wp_seq<|sq<|pr 2 E rfl fun a E=>nt<|wif E hm rfl (fun hm=>?_) fun hm=>?_
   ·refine wp_skip<|aD<|wp_seq<|wp_block<|sq<|pr 2 E rfl fun a E=>bd hm fun j i hm=>sv E rfl rfl rfl (Kc E rfl rfl rfl U9 i) fun a E=>pr 2 E rfl fun a E=>?_
    refine nt<|wif E hm rfl (fun hm=>?_) fun hm=>?_
    ·refine sq<|pr 2 E rfl fun a E=>nt<|wp_ret<|bU<|aP<|aP<|bU<|aP<|?_
     refine bB E rfl rfl<|?_
     cases hm
     exact ⟨rfl,H.reads e⟩
    ·exact wp_skip<|bY<|aD<|wp_region_lit<|pr 3 E rfl fun a E=>nt<|⟨b,Nat.lt_succ_self b,X3 ⟨E.to rfl,H,e,hm⟩⟩
   ·refine wp_exit<|bH<|bH<|dZ<|aD<|sq<|pr 1 E rfl fun a E=>nt<|wp_ret<|?_
    refine bB E rfl rfl<|?_
    cases hm
    exact ⟨rfl,H.reads e⟩

def pD(b:ByteArray)(c:Int):Option Int:=
  (gZ b c).bind fun d=>some (d)
theorem L9{b:ByteArray}{c:Int}(H:Sep w (Fo) rs){r:Int}(hm:pD b c=some r) :
    Calls Tryz.prog 231 [.string b,.int .u8 c].toArray w (Ret fun v w'=>.int .i64 r=v∧Sep w' (Fo) (rs)):=by
 unfold pD at hm
 refine ent Tryz.func231 rfl Tryz.ntmps231 rfl rfl fun a E=>sq<|pr 1 E rfl fun a E=>nx<|pr 2 E rfl fun a E=>bd hm fun e d hm=>xk E rfl rfl rfl rfl rfl GT (xW H d) fun w H a E=>pr 1 E rfl fun a E=>nt<|?_
 refine wp_ret<|bB E rfl rfl<|?_
 cases hm
 exact ⟨rfl,H.reads Y0⟩

def xD(b:ByteArray)(d:Bool):Option (ByteArray×ByteArray×Bool):=
  if d=true then (some ((ByteArray.mk #[]),(ByteArray.mk #[]),false)) else ((pD b 47).bind fun c=>(ck (0 ≤ (max c 1)∧(max c 1) ≤ b.size)).bind fun e=>(ck (0 ≤ (IntKind.i64.wrap (c+1))∧(IntKind.i64.wrap (c+1)) ≤ b.size)).bind fun f=>some (b.extract 0 (max c 1).toNat,b.extract (IntKind.i64.wrap (c+1)).toNat b.size,true))
def zQ(b:ByteArray):Option (ByteArray×ByteArray×Bool):=
  (eP b).bind fun c=>if (!c)=true then (xD b true) else (xD b (sEq b (ByteArray.mk #[47])))
theorem Gc{d:ByteArray}(H:Sep w (Fo) rs){r:ByteArray×ByteArray×Bool}(hm:zQ d=some r) :
    Calls Tryz.prog 167 [.string d].toArray w (Ret fun v w'=>.tuple #[.string r.1,.string r.2.1,.bool r.2.2]=v∧Sep w' (Fo) (rs)):=by
 unfold zQ at hm
 refine ent Tryz.func167 rfl Tryz.ntmps167 rfl rfl fun a E=>sq<|pr 3 E rfl fun a E=>nt<|wp_seq<|aT (fun a w=>∃ f c,Env 23 a [(0,.string d),(12,.bool f)]∧Sep w (Fo) c∧(∀ r,r ∈ rs→r ∈ c)∧xD d f=some r) ?_ ?_
 ·refine wp_region_lit<|pr 1 E rfl fun a E=>bd hm fun l g hm=>xk E rfl rfl rfl rfl rfl A7 (iI H g) fun w H a E=>pr 2 E rfl fun a E=>cs hm (fun b hm=>?_) fun b hm=>?_
  ·exact pk 3 E (kc 9 rfl b) rfl fun a E=>nt<|⟨_,_,E.to rfl,H,Y0,hm⟩
  ·exact pk 3 E (kc 9 rfl b) rfl fun a E=>nt<|⟨_,_,E.to rfl,H,Y0,hm⟩
 ·clear E H hm
  rintro a w ⟨f,c,E,H,e,hm⟩
  unfold xD at hm
  refine wif E hm rfl (fun hm=>?_) fun hm=>?_
  ·refine sq<|pr 3 E rfl fun a E=>nt<|wp_ret<|aP<|Kb E rfl rfl rfl rfl<|?_
   cases hm
   exact ⟨rfl,H.reads e⟩
  ·refine wp_skip<|aD<|sq<|pr 1 E rfl fun a E=>bd hm fun m j hm=>xk E rfl rfl rfl rfl rfl GS (L9 H j) fun w H a E=>pr 1 E rfl fun a E=>nt<|wp_seq<|?_
   refine dw [(0,0),(1,0),(2,0),(3,0),(4,0),(5,0),(6,0),(7,0),(8,1),(9,2),(10,2)] [] [] H (by kernel_rfl) (fun _ _ _ h=>False.elim h.2) fun w W0 hI H=>fn 2 E rfl fun a E=>cB E rfl (wn rfl) rfl rfl (fun w hW=>(Wz (t:=0) E rfl rfl rfl)) fun a E=>?_
   refine bk hm fun k hm=>cB E rfl (wn rfl) rfl rfl (fun w hW=>(Aa E rfl rfl rfl U9 k)) fun a E=>?_
   refine fn 3 E rfl fun a E=>bk hm fun i hm=>cB E rfl (wn rfl) rfl rfl (fun w hW=>(Q9 E rfl rfl rfl U9 i)) fun a E=>?_
   refine cE rfl<|pr 1 E rfl fun a E=>nt<|?_
   refine ⟨⟨_,_,H,(aL),(aN)⟩,?_⟩
   refine bQ rfl<|pr 1 E rfl fun a E=>nt<|bQ rfl<|pr 1 E rfl fun a E=>nt<|bR<|?_
   clear hI
   refine aD<|wp_ret<|Kb E rfl rfl rfl rfl<|?_
   cases hm
   exact ⟨rfl,H.reads e⟩

def pA(c:ByteArray):Option (ByteArray×Bool):=
  (zQ c).bind fun b=>some (b.1,b.2.2)
theorem w3{b:ByteArray}(H:Sep w (Fo) rs){r:ByteArray×Bool}(hm:pA b=some r) :
    Calls Tryz.prog 115 [.string b].toArray w (Ret fun v w'=>.tuple #[.string r.1,.bool r.2]=v∧Sep w' (Fo) (rs)):=by
 unfold pA at hm
 refine ent Tryz.func115 rfl Tryz.ntmps115 rfl rfl fun a E=>sq<|pr 2 E rfl fun a E=>nx<|pr 1 E rfl fun a E=>bd hm fun d c hm=>xk E rfl rfl rfl rfl rfl Xg (Gc H c) fun w H a E=>pr 7 E rfl fun a E=>nx<|?_
 refine pr 4 E rfl fun a E=>nt<|wp_ret<|iE E rfl rfl rfl<|?_
 cases hm
 exact ⟨rfl,H.reads Y0⟩

def uB(c:ByteArray):Option ByteArray:=
  (pA c).bind fun b=>if b.2=true then (some (b.1)) else (some ((ByteArray.mk #[47])))
theorem Ak{b:ByteArray}(H:Sep w (Fo) rs){r:ByteArray}(hm:uB b=some r) :
    Calls Tryz.prog 69 [.string b].toArray w (Ret fun v w'=>.string r=v∧Sep w' (Fo) (rs)):=by
 unfold uB at hm
 refine ent Tryz.func69 rfl Tryz.ntmps69 rfl rfl fun a E=>sq<|pr 1 E rfl fun a E=>nt<|wp_seq<|sq<|pr 1 E rfl fun a E=>bd hm fun d c hm=>xk E rfl rfl rfl rfl rfl Ji (w3 H c) fun w H a E=>?_
 refine pr 5 E rfl fun a E=>nx<|pr 1 E rfl fun a E=>nt<|wif E hm rfl (fun hm=>?_) fun hm=>?_
 ·refine sq<|pr 2 E rfl fun a E=>nt<|wp_ret<|aP<|bB E rfl rfl<|?_
  cases hm
  exact ⟨rfl,H.reads Y0⟩
 ·refine wp_skip<|aD<|sq<|pr 1 E rfl fun a E=>nt<|wp_ret<|bB E rfl rfl<|?_
  cases hm
  exact ⟨rfl,H.reads Y0⟩

def lI(b:(List bL)):Option (List bL):=
  some (b)
def F3(x1:dE):Option (List bL):=
  (xO x1).bind fun x=>if (!x)=true then (some ([])) else ((uB x1.Path).bind fun c=>if (x1.Kind == 1)=true then ((sG 2 c x1.Path).bind fun d=>(uB c).bind fun e=>(mX ([(⟨1,e,c,(ByteArray.mk #[]),0,0,false⟩:bL),(⟨d.Kind,d.Dir,d.Path,x1.Data,d.Version,x1.Owner,x1.Turns⟩:bL)]:List bL) []).bind fun f=>lI f) else (if (x1.Kind == 2)=true then ((xQ 3 c x1.Path x1.Version).bind fun g=>(xP 4 x1.Path x1.Owner).bind fun i=>(mX ([g,i]:List bL) []).bind fun j=>lI j) else (if (x1.Kind == 3)=true then ((xQ 5 c x1.Path x1.Version).bind fun b=>(mX ([(⟨b.Kind,b.Dir,b.Path,x1.Data,b.Version,b.Owner,b.Turns⟩:bL)]:List bL) []).bind fun k=>lI k) else (if (x1.Kind == 4)=true then ((xQ 6 c x1.Path x1.Version).bind fun l=>(mX ([l]:List bL) []).bind fun m=>lI m) else (if (x1.Kind == 5)=true then ((sG 7 c x1.Path).bind fun n=>(mX ([n]:List bL) []).bind fun o=>lI o) else (if (x1.Kind == 6)=true then ((sG 8 c x1.Path).bind fun p=>(xP 9 x1.Path x1.Owner).bind fun q=>(mX ([p,q]:List bL) []).bind fun s=>lI s) else (if (x1.Kind == 7)=true then ((sG 8 c x1.Path).bind fun t=>(xP 10 x1.Path x1.Owner).bind fun u=>(mX ([t,u]:List bL) []).bind fun v=>lI v) else (lI []))))))))
theorem Si{x1:dE}(H:Sep w (Fo) rs){r:(List bL)}(hm:F3 x1=some r) :
    Calls Tryz.prog 27 [.agg (jN x1).toArray].toArray w (Ret fun v w'=>∃ T,T=v∧Sep w' (Row 71 cZ T r::Fo) (rs)):=by
 unfold F3 at hm
 refine ent Tryz.func27 rfl Tryz.ntmps27 rfl rfl fun a E=>sq<|bS E H (wn rfl) rfl rfl rfl rfl rfl fun d0 w a H E=>pr 1 E rfl fun a E=>nt<|wp_seq<|sq<|sv E rfl rfl rfl (cD (i:=0) (us:=(jN x1)) E H rfl rfl rfl rfl U45 rfl G3) fun a E=>bd hm fun d1 U hm=>?_
 refine xk E rfl rfl rfl rfl rfl BV (Cy H U) fun w H a E=>pr 1 E rfl fun a E=>nt<|wif E hm rfl (fun hm=>?_) fun hm=>?_
 ·refine sq<|pr 1 E rfl fun a E=>nt<|wp_ret<|aP<|bB E rfl rfl<|have H:=H.nilRow 71 cZ;have H:=H.drop 1;?_
  cases hm
  exact ⟨_,rfl,H.reads Y0⟩
 ·refine wp_skip<|aD<|sq<|al1 E H rfl rfl rfl rfl KJ rfl fun V w a H E=>nx<|sv E rfl rfl rfl (kH E rfl rfl rfl) fun a E=>pr 1 E rfl fun a E=>nx<|pr 1 E rfl fun a E=>?_
  refine lb E H 1 rfl rfl rfl rfl rfl rfl rfl U9 rfl fun a E=>bd hm fun s W hm=>xk E rfl rfl rfl rfl rfl Ux (Ak H W) fun w H a E=>al1 E H rfl rfl rfl rfl zr9 rfl fun d2 w a H E=>bC (i:=0) E H (wn rfl) rfl rfl rfl rfl rfl rfl sz9 rfl rfl fun w H=>nx<|sv E rfl rfl rfl (kH E rfl rfl rfl) fun a E=>al1 E H rfl rfl rfl rfl GU rfl fun d3 w a H E=>bC (i:=0) E H (wn rfl) rfl rfl rfl rfl rfl rfl GV rfl rfl fun w H=>?_
  refine nx<|sv E rfl rfl rfl (kH E rfl rfl rfl) fun a E=>pr 1 E rfl fun a E=>nx<|sv E rfl rfl rfl (kH E rfl rfl rfl) fun a E=>pr 1 E rfl fun a E=>nt<|aT (fun a w=>∃ t u q,Env 97 a [(3,pt V 0)]∧Sep w (Blk V 68 [t]::Row 71 cZ t u::Fo) q∧(∀ r,r ∈ rs→r ∈ q)∧lI u=some r) ?_ ?_
  ·refine sq<|pr 1 E rfl fun a E=>lb E H 3 rfl rfl rfl rfl rfl rfl rfl U3 rfl fun a E=>nt<|wp_block<|sq<|pr 2 E rfl fun a E=>nt<|wif E hm rfl (fun hm=>?_) fun hm=>?_
   ·refine sq<|lb E H 0 rfl rfl rfl rfl rfl rfl rfl Kx rfl fun a E=>have H:=H.frs [2,1,3,3] rfl;bd hm fun c y hm=>aX E (wn rfl) rfl rfl (bP E rfl rfl rfl (Kz _)) (s8 H y)<|?_
    rintro _ w ⟨rfl,H⟩ a E
    refine al E H rfl rfl rfl rfl Ec fun X w a H E=>bC (i:=0) E H (wn rfl) rfl rfl rfl rfl rfl rfl jT rfl rfl fun w H=>nt<|wp_seq<|dw [(0,0),(1,0),(2,0),(3,0),(4,0),(5,0),(6,0),(7,1),(8,0),(9,1),(10,2),(11,2)] [2] [] H (by kernel_rfl) (fun _ _ _ h=>False.elim h.2) fun w W0 hI H=>fn 1 E rfl fun a E=>fb E rfl (wn rfl) rfl rfl rfl rfl m0 rfl U9 rfl fun a E=>fn 1 E rfl fun a E=>fb E rfl (wn rfl) rfl rfl rfl rfl m0 rfl U2 rfl fun a E=>?_
    refine fn 1 E rfl fun a E=>fb E rfl (wn rfl) rfl rfl rfl rfl m0 rfl U4 rfl fun a E=>fn 1 E rfl fun a E=>cE rfl<|bC (i:=0) E H (wn rfl) rfl rfl rfl rfl rfl rfl sz9 rfl rfl fun w H=>nt<|?_
    refine ⟨⟨_,_,H,(aB mm2 (aL)),(aN)⟩,?_⟩
    refine fn 1 E rfl fun a E=>cE rfl<|bC (i:=0) E H (wn rfl) rfl rfl rfl rfl rfl rfl sz2 rfl rfl fun w H=>nt<|?_
    refine ⟨⟨_,_,H,(aB mm2 (aL)),(aN)⟩,?_⟩
    refine bQ rfl<|pr 1 E rfl fun a E=>nt<|bQ rfl<|bC (i:=0) E H (wn rfl) rfl rfl rfl rfl rfl rfl sz4 rfl rfl fun w H=>nt<|bR<|?_
    clear hI
    refine aD<|dw [(0,0),(1,0),(3,0),(5,0),(2,1),(4,0),(6,1),(7,1)] [0,1] [] H (by kernel_rfl) (fun _ _ _ h=>False.elim h.2) fun w W0 hI H=>fn 1 E rfl fun a E=>fb E rfl (wn rfl) rfl rfl rfl rfl mm1 rfl U9 rfl fun a E=>fb E rfl (wn rfl) rfl rfl rfl rfl mm1 rfl U9 rfl fun a E=>fbn E [.int .i64 c.Kind,.string c.Dir,.string c.Path,.string x1.Data,.int .i64 c.Version,.int .i64 x1.Owner,.bool x1.Turns] rfl (wn rfl) rfl rfl rfl rfl m0 rfl U71 rfl jT fun a E=>cE rfl<|bd hm fun p z hm=>xk E rfl rfl rfl rfl rfl Ux (Ak H z) fun w H a E=>?_
    refine nt<|?_
    refine ⟨⟨_,_,H,(aB m0 (aB mm1 (aL))),(aN)⟩,?_⟩
    refine cB E rfl (wn rfl) rfl rfl (fun w hW=>(cN E rfl (E.evs rfl) (v:=.agg #[.int .i64 1,.string p,.string s,.string (ByteArray.mk #[]),.int .i64 0,.int .i64 0,.bool false]) (by kernel_rfl))) fun a E=>?_
    refine cE rfl<|hG (e:=71) (d:=cZ) (cs:=[.int .i64 1,.string p,.string s,.string (ByteArray.mk #[]),.int .i64 0,.int .i64 0,.bool false,.int .i64 c.Kind,.string c.Dir,.string c.Path,.string x1.Data,.int .i64 c.Version,.int .i64 x1.Owner,.bool x1.Turns]) (xs:=[(⟨1,p,s,(ByteArray.mk #[]),0,0,false⟩:bL),(⟨c.Kind,c.Dir,c.Path,x1.Data,c.Version,x1.Owner,x1.Turns⟩:bL)]) E H (wn rfl) rfl rfl rfl (E.evs rfl) (by kernel_rfl) rfl rfl (fun ok hr=>(Rows.append (Rows.single (d:=cZ) (cs:=[.int .i64 1,.string p,.string s,.string (ByteArray.mk #[]),.int .i64 0,.int .i64 0,.bool false]) (x:=(⟨1,p,s,(ByteArray.mk #[]),0,0,false⟩:bL)) iA) (Rows.single (d:=cZ) (cs:=[.int .i64 c.Kind,.string c.Dir,.string c.Path,.string x1.Data,.int .i64 c.Version,.int .i64 x1.Owner,.bool x1.Turns]) (x:=(⟨c.Kind,c.Dir,c.Path,x1.Data,c.Version,x1.Owner,x1.Turns⟩:bL)) iA))) fun Y w a H E=>nt<|?_
    refine ⟨⟨_,_,H,(aB mm1 (aB mm2 (aL))),(aN)⟩,?_⟩
    refine cE rfl<|have H:=H.thaw (i:=0) rfl;have H:=H.nilRow 71 cZ;have H:=H.frs [4,4,4,4,4,5] rfl;bd hm fun Z A hm=>aX E (wn rfl) rfl rfl (bP E rfl rfl rfl (Ed _)) (uT H m0 A)<|?_
    rintro _ w ⟨b0,rfl,H⟩ a E
    refine nt<|?_
    refine ⟨⟨_,_,H,(aB mm2 (aB mm3 (aL))),(aN)⟩,?_⟩
    refine bR<|?_
    clear hI
    exact bY<|aD<|have H:=H.drs [2,2,2,2];X3 ⟨E.to rfl,H,(Y1 Y0),hm⟩
   ·refine sq<|pr 2 E rfl fun a E=>nt<|wif E hm rfl (fun hm=>?_) fun hm=>?_
    ·refine wp_region_lit<|pr 2 E rfl fun a E=>have H:=H.frs [2,3,3,3] rfl;bd hm fun f B hm=>aX E (wn rfl) rfl rfl (bP E rfl rfl rfl (Uy _)) (P3 H B)<|?_
     rintro _ w ⟨rfl,H⟩ a E
     refine pr 1 E rfl fun a E=>have H:=H.frs [3,2,2,3] rfl;bd hm fun g C hm=>aX E (wn rfl) rfl rfl (bP E rfl rfl rfl (Uz _)) (P2 H C)<|?_
     rintro _ w ⟨rfl,H⟩ a E
     refine hG (e:=71) (d:=cZ) (cs:=[.int .i64 f.Kind,.string f.Dir,.string f.Path,.string f.Data,.int .i64 f.Version,.int .i64 f.Owner,.bool f.Turns,.int .i64 g.Kind,.string g.Dir,.string g.Path,.string g.Data,.int .i64 g.Version,.int .i64 g.Owner,.bool g.Turns]) (xs:=[f,g]) E H (wn rfl) rfl rfl rfl (E.evs rfl) (by kernel_rfl) rfl rfl (fun ok hr=>(Rows.append (Rows.single (d:=cZ) (cs:=[.int .i64 f.Kind,.string f.Dir,.string f.Path,.string f.Data,.int .i64 f.Version,.int .i64 f.Owner,.bool f.Turns]) (x:=f) iA) (Rows.single (d:=cZ) (cs:=[.int .i64 g.Kind,.string g.Dir,.string g.Path,.string g.Data,.int .i64 g.Version,.int .i64 g.Owner,.bool g.Turns]) (x:=g) iA))) fun b1 w a H E=>have H:=H.thaw (i:=0) rfl;have H:=H.nilRow 71 cZ;have H:=H.frs [3,3,3,3,4] rfl;bd hm fun b2 D hm=>aX E (wn rfl) rfl rfl (bP E rfl rfl rfl (Ed _)) (uT H m0 D)<|?_
     rintro _ w ⟨b3,rfl,H⟩ a E
     exact wpList_nil<|bY<|aD<|have H:=H.drs [2,2,2];X3 ⟨E.to rfl,H,(Y1 Y0),hm⟩
    ·refine sq<|pr 2 E rfl fun a E=>nt<|wif E hm rfl (fun hm=>?_) fun hm=>?_
     ·refine sq<|pr 1 E rfl fun a E=>have H:=H.frs [2,3,3,3] rfl;bd hm fun b F hm=>aX E (wn rfl) rfl rfl (bP E rfl rfl rfl (Uy _)) (P3 H F)<|?_
      rintro _ w ⟨rfl,H⟩ a E
      refine al E H rfl rfl rfl rfl Ec fun b4 w a H E=>bC (i:=0) E H (wn rfl) rfl rfl rfl rfl rfl rfl jT rfl rfl fun w H=>nx<|pr 1 E rfl fun a E=>lb E H 3 rfl rfl rfl rfl rfl rfl rfl U9 rfl fun a E=>pr 1 E rfl fun a E=>bC (i:=0) E H (wn rfl) rfl rfl rfl rfl rfl rfl sz9 rfl rfl fun w H=>nt<|wp_region_lit<|?_
      refine pr 1 E rfl fun a E=>sv E rfl rfl rfl (cD (i:=0) (us:=[.int .i64 b.Kind,.string b.Dir,.string b.Path,.string x1.Data,.int .i64 b.Version,.int .i64 b.Owner,.bool b.Turns]) E H rfl rfl rfl rfl U71 rfl jT) fun a E=>hG (e:=71) (d:=cZ) (cs:=[.int .i64 b.Kind,.string b.Dir,.string b.Path,.string x1.Data,.int .i64 b.Version,.int .i64 b.Owner,.bool b.Turns]) (xs:=[(⟨b.Kind,b.Dir,b.Path,x1.Data,b.Version,b.Owner,b.Turns⟩:bL)]) E H (wn rfl) rfl rfl rfl (E.evs rfl) (by kernel_rfl) rfl rfl (fun ok hr=>(Rows.single (d:=cZ) (cs:=[.int .i64 b.Kind,.string b.Dir,.string b.Path,.string x1.Data,.int .i64 b.Version,.int .i64 b.Owner,.bool b.Turns]) (x:=(⟨b.Kind,b.Dir,b.Path,x1.Data,b.Version,b.Owner,b.Turns⟩:bL)) iA)) fun b5 w a H E=>have H:=H.thaw (i:=0) rfl;have H:=H.nilRow 71 cZ;have H:=H.frs [4,4,4,4,4,5] rfl;bd hm fun b6 G hm=>aX E (wn rfl) rfl rfl (bP E rfl rfl rfl (Ed _)) (uT H m0 G)<|?_
      rintro _ w ⟨b7,rfl,H⟩ a E
      exact wpList_nil<|bY<|aD<|have H:=H.drs [2,2,2,2];X3 ⟨E.to rfl,H,(Y1 Y0),hm⟩
     ·refine sq<|pr 2 E rfl fun a E=>nt<|wif E hm rfl (fun hm=>?_) fun hm=>?_
      ·refine wp_region_lit<|pr 2 E rfl fun a E=>have H:=H.frs [2,3,3,3] rfl;bd hm fun j I hm=>aX E (wn rfl) rfl rfl (bP E rfl rfl rfl (Uy _)) (P3 H I)<|?_
       rintro _ w ⟨rfl,H⟩ a E
       refine hG (e:=71) (d:=cZ) (cs:=[.int .i64 j.Kind,.string j.Dir,.string j.Path,.string j.Data,.int .i64 j.Version,.int .i64 j.Owner,.bool j.Turns]) (xs:=[j]) E H (wn rfl) rfl rfl rfl (E.evs rfl) (by kernel_rfl) rfl rfl (fun ok hr=>(Rows.single (d:=cZ) (cs:=[.int .i64 j.Kind,.string j.Dir,.string j.Path,.string j.Data,.int .i64 j.Version,.int .i64 j.Owner,.bool j.Turns]) (x:=j) iA)) fun b8 w a H E=>have H:=H.thaw (i:=0) rfl;have H:=H.nilRow 71 cZ;have H:=H.frs [3,3,3,3,4] rfl;bd hm fun b9 J hm=>aX E (wn rfl) rfl rfl (bP E rfl rfl rfl (Ed _)) (uT H m0 J)<|?_
       rintro _ w ⟨c0,rfl,H⟩ a E
       exact wpList_nil<|bY<|aD<|have H:=H.drs [2,2,2];X3 ⟨E.to rfl,H,(Y1 Y0),hm⟩
      ·refine sq<|pr 2 E rfl fun a E=>nt<|wif E hm rfl (fun hm=>?_) fun hm=>?_
       ·refine wp_region_lit<|pr 1 E rfl fun a E=>lb E H 0 rfl rfl rfl rfl rfl rfl rfl Kx rfl fun a E=>have H:=H.frs [2,1,3,3] rfl;bd hm fun k K hm=>aX E (wn rfl) rfl rfl (bP E rfl rfl rfl (Kz _)) (s8 H K)<|?_
        rintro _ w ⟨rfl,H⟩ a E
        refine hG (e:=71) (d:=cZ) (cs:=[.int .i64 k.Kind,.string k.Dir,.string k.Path,.string k.Data,.int .i64 k.Version,.int .i64 k.Owner,.bool k.Turns]) (xs:=[k]) E H (wn rfl) rfl rfl rfl (E.evs rfl) (by kernel_rfl) rfl rfl (fun ok hr=>(Rows.single (d:=cZ) (cs:=[.int .i64 k.Kind,.string k.Dir,.string k.Path,.string k.Data,.int .i64 k.Version,.int .i64 k.Owner,.bool k.Turns]) (x:=k) iA)) fun c1 w a H E=>have H:=H.thaw (i:=0) rfl;have H:=H.nilRow 71 cZ;have H:=H.frs [3,3,3,3,4] rfl;bd hm fun c2 L hm=>aX E (wn rfl) rfl rfl (bP E rfl rfl rfl (Ed _)) (uT H m0 L)<|?_
        rintro _ w ⟨c3,rfl,H⟩ a E
        exact wpList_nil<|bY<|aD<|have H:=H.drs [2,2,2];X3 ⟨E.to rfl,H,(Y1 Y0),hm⟩
       ·refine sq<|pr 2 E rfl fun a E=>nt<|wif E hm rfl (fun hm=>?_) fun hm=>?_
        ·refine wp_region_lit<|pr 1 E rfl fun a E=>lb E H 0 rfl rfl rfl rfl rfl rfl rfl Kx rfl fun a E=>have H:=H.frs [2,1,3,3] rfl;bd hm fun l M hm=>aX E (wn rfl) rfl rfl (bP E rfl rfl rfl (Kz _)) (s8 H M)<|?_
         rintro _ w ⟨rfl,H⟩ a E
         refine pr 1 E rfl fun a E=>have H:=H.frs [3,3,2,3] rfl;bd hm fun m N hm=>aX E (wn rfl) rfl rfl (bP E rfl rfl rfl (Uz _)) (P2 H N)<|?_
         rintro _ w ⟨rfl,H⟩ a E
         refine hG (e:=71) (d:=cZ) (cs:=[.int .i64 l.Kind,.string l.Dir,.string l.Path,.string l.Data,.int .i64 l.Version,.int .i64 l.Owner,.bool l.Turns,.int .i64 m.Kind,.string m.Dir,.string m.Path,.string m.Data,.int .i64 m.Version,.int .i64 m.Owner,.bool m.Turns]) (xs:=[l,m]) E H (wn rfl) rfl rfl rfl (E.evs rfl) (by kernel_rfl) rfl rfl (fun ok hr=>(Rows.append (Rows.single (d:=cZ) (cs:=[.int .i64 l.Kind,.string l.Dir,.string l.Path,.string l.Data,.int .i64 l.Version,.int .i64 l.Owner,.bool l.Turns]) (x:=l) iA) (Rows.single (d:=cZ) (cs:=[.int .i64 m.Kind,.string m.Dir,.string m.Path,.string m.Data,.int .i64 m.Version,.int .i64 m.Owner,.bool m.Turns]) (x:=m) iA))) fun c4 w a H E=>have H:=H.thaw (i:=0) rfl;have H:=H.nilRow 71 cZ;have H:=H.frs [3,3,3,3,4] rfl;bd hm fun c5 O hm=>aX E (wn rfl) rfl rfl (bP E rfl rfl rfl (Ed _)) (uT H m0 O)<|?_
         rintro _ w ⟨c6,rfl,H⟩ a E
         exact wpList_nil<|bY<|aD<|have H:=H.drs [2,2,2];X3 ⟨E.to rfl,H,(Y1 Y0),hm⟩
        ·refine sq<|pr 2 E rfl fun a E=>nt<|wif E hm rfl (fun hm=>?_) fun hm=>?_
         ·refine wp_region_lit<|pr 1 E rfl fun a E=>lb E H 0 rfl rfl rfl rfl rfl rfl rfl Kx rfl fun a E=>have H:=H.frs [2,1,3,3] rfl;bd hm fun n P hm=>aX E (wn rfl) rfl rfl (bP E rfl rfl rfl (Kz _)) (s8 H P)<|?_
          rintro _ w ⟨rfl,H⟩ a E
          refine pr 1 E rfl fun a E=>have H:=H.frs [3,3,2,3] rfl;bd hm fun o Q hm=>aX E (wn rfl) rfl rfl (bP E rfl rfl rfl (Uz _)) (P2 H Q)<|?_
          rintro _ w ⟨rfl,H⟩ a E
          refine hG (e:=71) (d:=cZ) (cs:=[.int .i64 n.Kind,.string n.Dir,.string n.Path,.string n.Data,.int .i64 n.Version,.int .i64 n.Owner,.bool n.Turns,.int .i64 o.Kind,.string o.Dir,.string o.Path,.string o.Data,.int .i64 o.Version,.int .i64 o.Owner,.bool o.Turns]) (xs:=[n,o]) E H (wn rfl) rfl rfl rfl (E.evs rfl) (by kernel_rfl) rfl rfl (fun ok hr=>(Rows.append (Rows.single (d:=cZ) (cs:=[.int .i64 n.Kind,.string n.Dir,.string n.Path,.string n.Data,.int .i64 n.Version,.int .i64 n.Owner,.bool n.Turns]) (x:=n) iA) (Rows.single (d:=cZ) (cs:=[.int .i64 o.Kind,.string o.Dir,.string o.Path,.string o.Data,.int .i64 o.Version,.int .i64 o.Owner,.bool o.Turns]) (x:=o) iA))) fun c7 w a H E=>have H:=H.thaw (i:=0) rfl;have H:=H.nilRow 71 cZ;have H:=H.frs [3,3,3,3,4] rfl;bd hm fun c8 R hm=>aX E (wn rfl) rfl rfl (bP E rfl rfl rfl (Ed _)) (uT H m0 R)<|?_
          rintro _ w ⟨c9,rfl,H⟩ a E
          exact wpList_nil<|bY<|aD<|have H:=H.drs [2,2,2];X3 ⟨E.to rfl,H,(Y1 Y0),hm⟩
         ·exact wp_skip<|bY<|aD<|have H:=H.nilRow 71 cZ;have H:=H.drs [1,1,2];have H:=H.frs [0,1] rfl;X3 ⟨E.to rfl,H,Y0,hm⟩
  ·clear E H hm
   rintro a w ⟨t,u,q,E,H,S,hm⟩
   unfold lI at hm
   refine sq<|lb E H 0 rfl rfl rfl rfl rfl rfl rfl U68 rfl fun a E=>pr 1 E rfl fun a E=>nt<|wp_ret<|bB E rfl rfl<|have H:=H.drop 0;?_
   cases hm
   exact ⟨_,rfl,H.reads S⟩

def tW(rec_1:(List cH)→Int→Option (List cH))(b:(List bL))(d:Int):Nat→(List cH)→Int→Option (List cH)
  | 0,_,_=>none
  | f+1,c,x20=>
    if (decide (x20 < (b.length:Int)))=true then ((idx b x20).bind fun e=>(ck (c.length+([(⟨d,e⟩:cH)]:List cH).length ≤ LIM)).bind fun g=>tW rec_1 b d f (c ++ ([(⟨d,e⟩:cH)]:List cH)) (IntKind.i64.wrap (x20+1))) else (rec_1 c (IntKind.i64.wrap (d+1)))
def rO(c:List dE):Nat→(List cH)→Int→Option (List cH)
  | 0,_,_=>none
  | g+1,e,d=>
    if (decide (d < (c.length:Int)))=true then ((idx c d).bind fun f=>(F3 f).bind fun b=>tW (rO c g) b d (((b.length:Int) - 0:Int).toNat+1) e 0) else (some (e))
def zR(b:List dE):Option (List cH):=
  (s7 b).bind fun c=>if (!c)=true then (some ([])) else (rO b (((b.length:Int) - 0:Int).toNat+1) [] 0)
theorem Gd{y:Value}{f:List dE}(H:Sep w (Fo) rs)(o:rSl sX y f ∈ rs){r:(List cH)}(hm:zR f=some r) :
    Calls Tryz.prog 7 [y].toArray w (Ret fun v w'=>∃ G,G=v∧Sep w' (Row 73 cF G r::Fo) (rs)):=by
 unfold zR at hm
 refine ent Tryz.func7 rfl Tryz.ntmps7 rfl rfl fun a E=>sq<|pr 1 E rfl fun a E=>nt<|wp_seq<|sq<|pr 1 E rfl fun a E=>bd hm fun Q I hm=>xk E rfl rfl rfl rfl rfl KF (Mw H o I) fun w H a E=>?_
 refine pr 1 E rfl fun a E=>nt<|wif E hm rfl (fun hm=>?_) fun hm=>?_
 ·refine sq<|pr 1 E rfl fun a E=>nt<|wp_ret<|aP<|bB E rfl rfl<|have H:=H.nilRow 73 cF;?_
  cases hm
  exact ⟨_,rfl,H.reads Y0⟩
 ·refine wp_skip<|aD<|sq<|pr 1 E rfl fun a E=>nt<|wp_seq<|sq<|pr 1 E rfl fun a E=>sv E rfl rfl rfl (dB E H rfl rfl o U22) fun a E=>?_
  refine pr 1 E rfl fun a E=>nt<|wp_block<|cA (fun g a w=>∃ A B c p,Env 34 a [(3,A),(11,y),(12,.int .i64 (f.length:Int)),(13,.int .i64 c)]∧Sep w (Row 73 cF A B::Fo) p∧(∀ r,r ∈ rs→r ∈ p)∧rO f g B c=some r) (((f.length:Int) - 0:Int).toNat+1) ?_ ?_
  ·exact have H:=H.nilRow 73 cF;X4 ⟨E.to rfl,H,Y0,hm⟩
  ·clear E H hm
   rintro g a w ⟨A,B,c,p,E,H,j,hm⟩
   cases g with
   | zero=>exact (bW hm rfl).elim
   | succ g=>
    unfold rO at hm
    refine sq<|pr 1 E rfl fun a E=>nt<|wp_seq<|wif E hm rfl (fun hm=>?_) fun hm=>?_
    ·refine wp_skip<|aD<|wp_seq<|wp_block<|sq<|pr 1 E rfl fun a E=>bd hm fun J C hm=>dF E H (wn rfl) rfl rfl rfl rfl rfl (j _ o) U22 G3 C fun q13 a H E=>ldf G2 E H rfl rfl rfl rfl rfl m0 U45 rfl G3 fun a E=>?_
     refine al E H rfl rfl rfl rfl CE fun K w a H E=>pr 1 E rfl fun a E=>bC (i:=0) E H (wn rfl) rfl rfl rfl rfl rfl rfl G3 rfl rfl fun w H=>nx<|sv E rfl rfl rfl (cD (i:=0) (us:=(jN J)) E H rfl rfl rfl rfl U45 rfl G3) fun a E=>bd hm fun m D hm=>cJ E rfl rfl rfl rfl rfl KI (Si H D)<|?_
     rintro _ w ⟨z,rfl,H⟩ a E
     refine sv E rfl rfl rfl (lC (i:=0) E H rfl rfl rfl U68) fun a E=>pr 1 E rfl fun a E=>nt<|wp_block<|cA (fun n a w=>∃ q s x20 k,Env 34 a [(3,q),(4,.int .i64 c),(11,y),(12,.int .i64 (f.length:Int)),(13,.int .i64 c),(19,z),(20,.int .i64 (m.length:Int)),(21,.int .i64 x20)]∧Sep w (Row 73 cF q s::Row 71 cZ z m::Fo) k∧(∀ r,r ∈ rs→r ∈ k)∧tW (rO f g) m c n s x20=some r) (((m.length:Int) - 0:Int).toNat+1) ?_ ?_
     ·exact have H:=H.drop 1;have H:=H.frs [0,1] rfl;X4 ⟨E.to rfl,H,(Y1 j),hm⟩
     ·clear E H hm
      rintro n a w ⟨q,s,x20,k,E,H,t,hm⟩
      cases n with
      | zero=>exact (bW hm rfl).elim
      | succ n=>
       unfold tW at hm
       refine sq<|pr 1 E rfl fun a E=>nt<|wp_seq<|wif E hm rfl (fun hm=>?_) fun hm=>?_
       ·refine wp_skip<|aD<|wp_seq<|wp_block<|sq<|bd hm fun b l hm=>?_
        obtain ⟨L,M,u⟩:=H.rowformNE (i:=1) rfl l
        refine sv E rfl rfl rfl (dL (d:=cZ) E u rfl rfl rfl rfl U68 jT l) fun a E=>sv E rfl rfl rfl (iF (i:=1) E H Fs u rfl rfl rfl l (us:=[.int .i64 b.Kind,.string b.Dir,.string b.Path,.string b.Data,.int .i64 b.Version,.int .i64 b.Owner,.bool b.Turns]) rfl U71 rfl jT) fun a E=>al E H rfl rfl rfl rfl Ec fun N w a H E=>bC (i:=0) E H (wn rfl) rfl rfl rfl rfl rfl rfl jT rfl rfl fun w H=>nt<|wp_region_lit<|pr 2 E rfl fun a E=>sv E rfl rfl rfl (cD (i:=0) (us:=(cM b)) E H rfl rfl rfl rfl U71 rfl jT) fun a E=>sv E rfl rfl rfl (cN E rfl (E.evs rfl) (v:=.agg #[.int .i64 c,.int .i64 b.Kind,.string b.Dir,.string b.Path,.string b.Data,.int .i64 b.Version,.int .i64 b.Owner,.bool b.Turns]) (by kernel_rfl)) fun a E=>?_
        refine sT (e:=73) (d:=cF) (cs:=[.int .i64 c,.int .i64 b.Kind,.string b.Dir,.string b.Path,.string b.Data,.int .i64 b.Version,.int .i64 b.Owner,.bool b.Turns]) (xs:=[(⟨c,b⟩:cH)]) E H (wn rfl) rfl rfl rfl (E.evs rfl) (by kernel_rfl) rfl (fun ok hr=>(Rows.single (d:=cF) (cs:=[.int .i64 c,.int .i64 b.Kind,.string b.Dir,.string b.Path,.string b.Data,.int .i64 b.Version,.int .i64 b.Owner,.bool b.Turns]) (x:=(⟨c,b⟩:cH)) R5)) fun O w a H E=>bk hm fun F hm=>eU (i:=1) E H (wn rfl) rfl rfl rfl rfl rfl rfl (lD m0) U40 GX rfl F rfl fun P w a H E=>pr 1 E rfl fun a E=>wpList_nil<|bY<|aD<|wp_region_lit<|pr 2 E rfl fun a E=>?_
        exact nt<|have H:=H.drop 0;⟨n,Nat.lt_succ_self n,X4 ⟨E.to rfl,H,(Y1 t),hm⟩⟩
       ·refine wp_exit<|bH<|bH<|dZ<|bY<|aD<|wp_region_lit<|pr 2 E rfl fun a E=>nt<|?_
        exact have H:=H.drop 1;⟨g,Nat.lt_succ_self g,X4 ⟨E.to rfl,H,t,hm⟩⟩
    ·refine wp_exit<|bH<|bH<|dZ<|aD<|sq<|pr 2 E rfl fun a E=>nt<|wp_ret<|?_
     refine bB E rfl rfl<|?_
     cases hm
     exact ⟨_,rfl,H.reads j⟩

def jP(b:ByteArray):Option (List cH):=
  (zR ([(⟨1,b,(ByteArray.mk #[]),0,0,false⟩:dE)]:List dE)).bind fun c=>some (c)
theorem oH{b:ByteArray}(H:Sep w (Fo) rs){r:(List cH)}(hm:jP b=some r) :
    Calls Tryz.prog 8 [.string b].toArray w (Ret fun v w'=>∃ c,c=v∧Sep w' (Row 73 cF c r::Fo) (rs)):=by
 unfold jP at hm
 refine ent Tryz.func8 rfl Tryz.ntmps8 rfl rfl fun a E=>sq<|pr 1 E rfl fun a E=>nx<|pr 1 E rfl fun a E=>sv E rfl rfl rfl (cN E rfl (E.evs rfl) (v:=.agg #[.int .i64 1,.string b,.string (ByteArray.mk #[]),.int .i64 0,.int .i64 0,.bool false]) (by kernel_rfl)) fun a E=>hG (e:=45) (d:=sX) (cs:=[.int .i64 1,.string b,.string (ByteArray.mk #[]),.int .i64 0,.int .i64 0,.bool false]) (xs:=[(⟨1,b,(ByteArray.mk #[]),0,0,false⟩:dE)]) E H (wn rfl) rfl rfl rfl (E.evs rfl) (by kernel_rfl) rfl rfl (fun ok hr=>(Rows.single (d:=sX) (cs:=[.int .i64 1,.string b,.string (ByteArray.mk #[]),.int .i64 0,.int .i64 0,.bool false]) (x:=(⟨1,b,(ByteArray.mk #[]),0,0,false⟩:dE)) O2)) fun g w a H E=>have H:=H.thaw (i:=0) rfl;bd hm fun j f hm=>?_
 refine cJ E rfl rfl rfl rfl rfl cf7 (Gd H m0 f)<|?_
 rintro _ w ⟨k,rfl,H⟩ a E
 refine pr 1 E rfl fun a E=>nt<|wp_ret<|bB E rfl rfl<|?_
 cases hm
 exact ⟨_,rfl,H.reads (Y1 Y0)⟩

def iP(rec_1:Int→Option Bool)(c:Int)(b:Bool):Option Bool:=
  if b=true then (some (false)) else (rec_1 (IntKind.i64.wrap (c+1)))
def fP(b:List aH):Nat→Int→Option Bool
  | 0,_=>none
  | d+1,c=>
    if (decide (c < (b.length:Int)))=true then ((idx b c).bind fun e=>(eP e.Prefix).bind fun f=>if (!f)=true then (iP (fP b d) c true) else (if (decide (e.Epoch < 0))=true then (iP (fP b d) c true) else (if (decide (e.Epoch > 281474976710656))=true then (iP (fP b d) c true) else (if (decide (e.State < 1))=true then (iP (fP b d) c true) else (if (decide (e.State > 3))=true then (iP (fP b d) c true) else (if (decide (c > 0))=true then ((idx b (IntKind.i64.wrap (c - 1))).bind fun g=>iP (fP b d) c (!(sLt g.Prefix e.Prefix))) else (iP (fP b d) c false))))))) else (some (decide ((b.length:Int) ≤ 32)))
def nD(b:List aH):Option Bool:=
  fP b (((b.length:Int) - 0:Int).toNat+1) 0
theorem xE{q:Value}{m:List aH}(H:Sep w (Fo) rs)(p:rSl aR q m ∈ rs){r:Bool}(hm:nD m=some r) :
    Calls Tryz.prog 33 [q].toArray w (Ret fun v w'=>.bool r=v∧Sep w' (Fo) (rs)):=by
 unfold nD at hm
 refine ent Tryz.func33 rfl Tryz.ntmps33 rfl rfl fun a E=>sq<|pr 1 E rfl fun a E=>nt<|wp_seq<|sq<|pr 1 E rfl fun a E=>sv E rfl rfl rfl (dB E H rfl rfl p U54) fun a E=>pr 1 E rfl fun a E=>?_
 refine nt<|wp_block<|cA (fun n a w=>∃ s t,Env 55 a [(0,q),(5,q),(6,.int .i64 (m.length:Int)),(7,.int .i64 s)]∧Sep w (Fo) t∧(∀ r,r ∈ rs→r ∈ t)∧fP m n s=some r) (((m.length:Int) - 0:Int).toNat+1) ?_ ?_
 ·exact ⟨_,_,E.to rfl,H,Y0,hm⟩
 ·clear E H hm
  rintro n a w ⟨s,t,E,H,c,hm⟩
  cases n with
  | zero=>exact (bW hm rfl).elim
  | succ n=>
   unfold fP at hm
   refine sq<|pr 1 E rfl fun a E=>nt<|wp_seq<|wif E hm rfl (fun hm=>?_) fun hm=>?_
   ·refine wp_skip<|aD<|wp_seq<|wp_block<|sq<|pr 1 E rfl fun a E=>bd hm fun L D hm=>dF E H (wn rfl) rfl rfl rfl rfl rfl (c _ p) U54 iU D fun q9 a H E=>ldf jL E H rfl rfl rfl rfl rfl m0 U60 rfl iU fun a E=>?_
    refine al E H rfl rfl rfl rfl Gx fun F w a H E=>pr 1 E rfl fun a E=>bC (i:=0) E H (wn rfl) rfl rfl rfl rfl rfl rfl iU rfl rfl fun w H=>nt<|aT (fun a w=>∃ u o,Env 55 a [(0,q),(5,q),(6,.int .i64 (m.length:Int)),(7,.int .i64 s),(50,.bool u)]∧Sep w (Fo) o∧(∀ r,r ∈ rs→r ∈ o)∧iP (fP m n) s u=some r) ?_ ?_
    ·obtain ⟨G,H⟩:=H.raw (t1 (c _ p))
     refine dw [(0,0),(1,0),(2,1),(3,0),(4,0),(5,0),(6,0),(7,0),(8,0),(9,0),(10,0),(11,0),(12,0),(13,0),(14,0),(15,0),(16,0),(17,0),(18,0),(19,0),(20,0),(21,0),(22,0),(23,0),(24,0),(25,0),(26,0),(27,0),(28,0),(29,0),(30,0),(31,0),(32,0),(33,0),(34,0),(35,0),(36,0),(37,0),(38,0)] [0] [0] H (by kernel_rfl) (fun _ _ _ h=>False.elim h.2) fun w W0 hI H=>fn 1 E rfl fun a E=>fb E rfl (wn rfl) rfl rfl rfl rfl m0 rfl U9 rfl fun a E=>cE rfl<|bd hm fun I y hm=>xk E rfl rfl rfl rfl rfl A7 (iI H y) fun w H a E=>nt<|?_
     refine ⟨⟨_,_,H,(aB m0 (aL)),(aA m0 (aN))⟩,?_⟩
     refine fn 2 E rfl fun a E=>cs hm (fun e hm=>?_) fun e hm=>?_
     ·refine fk 34 E (kc 16 rfl e) rfl fun a E=>bR<|?_
      clear hI
      exact aD<|have H:=H.drop 0;⟨_,_,E.to rfl,H,(Y2 c),hm⟩
     ·refine fk 1 E (kc 16 rfl e) rfl fun a E=>fb E rfl (ws' (d:=16) E rfl rfl rfl rfl e) rfl rfl rfl rfl m0 rfl U2 rfl fun a E=>fk 3 E (kc 16 rfl e) rfl fun a E=>cs hm (fun f hm=>?_) fun f hm=>?_
      ·refine fk 29 E (kc 21 rfl f) rfl fun a E=>bR<|?_
       clear hI
       exact aD<|have H:=H.drop 0;⟨_,_,E.to rfl,H,(Y2 c),hm⟩
      ·refine fk 1 E (kc 21 rfl f) rfl fun a E=>fb E rfl (ws' (d:=21) E rfl rfl rfl rfl f) rfl rfl rfl rfl m0 rfl U2 rfl fun a E=>fk 3 E (kc 21 rfl f) rfl fun a E=>cs hm (fun g hm=>?_) fun g hm=>?_
       ·refine fk 24 E (kc 26 rfl g) rfl fun a E=>bR<|?_
        clear hI
        exact aD<|have H:=H.drop 0;⟨_,_,E.to rfl,H,(Y2 c),hm⟩
       ·refine fk 1 E (kc 26 rfl g) rfl fun a E=>fb E rfl (ws' (d:=26) E rfl rfl rfl rfl g) rfl rfl rfl rfl m0 rfl U3 rfl fun a E=>fk 3 E (kc 26 rfl g) rfl fun a E=>cs hm (fun j hm=>?_) fun j hm=>?_
        ·refine fk 19 E (kc 31 rfl j) rfl fun a E=>bR<|?_
         clear hI
         exact aD<|have H:=H.drop 0;⟨_,_,E.to rfl,H,(Y2 c),hm⟩
        ·refine fk 1 E (kc 31 rfl j) rfl fun a E=>fb E rfl (ws' (d:=31) E rfl rfl rfl rfl j) rfl rfl rfl rfl m0 rfl U3 rfl fun a E=>fk 3 E (kc 31 rfl j) rfl fun a E=>cs hm (fun l hm=>?_) fun l hm=>?_
         ·refine fk 14 E (kc 36 rfl l) rfl fun a E=>bR<|?_
          clear hI
          exact aD<|have H:=H.drop 0;⟨_,_,E.to rfl,H,(Y2 c),hm⟩
         ·refine fk 3 E (kc 36 rfl l) rfl fun a E=>cs hm (fun b hm=>?_) fun b hm=>?_
          ·refine fk 3 E (kc 39 rfl b) rfl fun a E=>bd hm fun J z hm=>?_
           obtain ⟨q25,K,A,B⟩:=sW (P:=Tryz.prog) (k:=.i64) hI (sV (.head _)) U54 iU z
           refine cB E rfl (ws' (d:=39) E rfl rfl rfl rfl b) rfl rfl (fun w hW=>wF E rfl rfl rfl (A w)) fun a E=>?_
           have C:=yX B (fun _ _ _ h=>rB h)
           refine fk 1 E (kc 39 rfl b) rfl fun a E=>fa E rfl (ws' (d:=39) E rfl rfl rfl rfl b) rfl rfl rfl rfl C U9 rfl fun a E=>fk 1 E (kc 39 rfl b) rfl fun a E=>fb E rfl (ws' (d:=39) E rfl rfl rfl rfl b) rfl rfl rfl rfl m0 rfl U9 rfl fun a E=>fk 3 E (kc' (kc 39 rfl b) 36 rfl l) rfl fun a E=>bR<|?_
           clear hI
           exact aD<|have H:=H.drop 0;⟨_,_,E.to rfl,H,(Y2 c),hm⟩
          ·refine fk 11 E (kc' (kc 39 rfl b) 36 rfl l) rfl fun a E=>bR<|?_
           clear hI
           exact aD<|have H:=H.drop 0;⟨_,_,E.to rfl,H,(Y2 c),hm⟩
    ·clear E H hm
     rintro a w ⟨u,o,E,H,x,hm⟩
     unfold iP at hm
     refine wif E hm rfl (fun hm=>?_) fun hm=>?_
     ·refine sq<|pr 1 E rfl fun a E=>nt<|wp_ret<|bU<|aP<|aP<|bU<|aP<|?_
      refine bB E rfl rfl<|?_
      cases hm
      exact ⟨rfl,H.reads x⟩
     ·exact wp_skip<|bY<|aD<|wp_region_lit<|pr 2 E rfl fun a E=>nt<|⟨n,Nat.lt_succ_self n,_,_,E.to rfl,H,x,hm⟩
   ·refine wp_exit<|bH<|bH<|dZ<|aD<|sq<|pr 1 E rfl fun a E=>sv E rfl rfl rfl (dB E H rfl rfl (c _ p) U54) fun a E=>pr 2 E rfl fun a E=>?_
    refine nt<|wp_ret<|bB E rfl rfl<|?_
    cases hm
    exact ⟨rfl,H.reads c⟩

def vJ(x1:aF):Option ByteArray:=
  some (x1.Path)
theorem R8{x1:aF}(H:Sep w (Fo) rs){r:ByteArray}(hm:vJ x1=some r) :
    Calls Tryz.prog 81 [.agg (kJ x1).toArray].toArray w (Ret fun v w'=>.string r=v∧Sep w' (Fo) (rs)):=by
 unfold vJ at hm
 refine ent Tryz.func81 rfl Tryz.ntmps81 rfl rfl fun a E=>sq<|bS E H (wn rfl) rfl rfl rfl rfl rfl fun b w a H E=>pr 1 E rfl fun a E=>nx<|pr 1 E rfl fun a E=>lb E H 0 rfl rfl rfl rfl rfl rfl rfl U9 rfl fun a E=>pr 1 E rfl fun a E=>nt<|?_
 refine wp_ret<|bB E rfl rfl<|have H:=H.drop 0;?_
 cases hm
 exact ⟨rfl,H.reads Y0⟩

def kK(rec_1:Int→Option Bool)(b:Int)(c:Bool):Option Bool:=
  if c=true then (some (false)) else (rec_1 (IntKind.i64.wrap (b+1)))
def eY(c:List aF):Nat→Int→Option Bool
  | 0,_=>none
  | d+1,b=>
    if (decide (b < (c.length:Int)))=true then (if (decide (b > 0))=true then ((idx c (IntKind.i64.wrap (b - 1))).bind fun e=>(idx c b).bind fun f=>(vJ e).bind fun g=>(vJ f).bind fun i=>kK (eY c d) b (!(sLt g i))) else (kK (eY c d) b false)) else (some (true))
def qJ(b:List aF):Option Bool:=
  eY b (((b.length:Int) - 0:Int).toNat+1) 0
theorem P4{n:Value}{f:List aF}(H:Sep w (Fo) rs)(o:rSl aG n f ∈ rs){r:Bool}(hm:qJ f=some r) :
    Calls Tryz.prog 80 [n,.func (.func 81) #[] #[]].toArray w (Ret fun v w'=>.bool r=v∧Sep w' (Fo) (rs)):=by
 unfold qJ at hm
 refine ent Tryz.func80 rfl Tryz.ntmps80 rfl rfl fun a E=>sq<|pr 1 E rfl fun a E=>nt<|wp_seq<|sq<|pr 1 E rfl fun a E=>sv E rfl rfl rfl (dB E H rfl rfl o U28) fun a E=>pr 1 E rfl fun a E=>?_
 refine nt<|wp_block<|cA (fun g a w=>∃ j l,Env 30 a [(0,n),(1,.func (.func 81) #[] #[]),(7,.int .i64 (f.length:Int)),(8,.int .i64 j)]∧Sep w (Fo) l∧(∀ r,r ∈ rs→r ∈ l)∧eY f g j=some r) (((f.length:Int) - 0:Int).toNat+1) ?_ ?_
 ·exact ⟨_,_,E.to rfl,H,Y0,hm⟩
 ·clear E H hm
  rintro g a w ⟨j,l,E,H,i,hm⟩
  cases g with
  | zero=>exact (bW hm rfl).elim
  | succ g=>
   unfold eY at hm
   refine sq<|pr 1 E rfl fun a E=>nt<|wp_seq<|wif E hm rfl (fun hm=>?_) fun hm=>?_
   ·refine wp_skip<|aD<|wp_seq<|wp_block<|sq<|pr 2 E rfl fun a E=>nt<|aT (fun a w=>∃ q m,Env 30 a [(0,n),(1,.func (.func 81) #[] #[]),(7,.int .i64 (f.length:Int)),(8,.int .i64 j),(28,.bool q)]∧Sep w (Fo) m∧(∀ r,r ∈ rs→r ∈ m)∧kK (eY f g) j q=some r) ?_ ?_
    ·obtain ⟨C,H⟩:=H.raw (i _ o)
     refine dw [(0,0),(1,0),(2,0),(3,0),(4,0),(5,0),(6,0),(7,0),(8,0),(10,0),(11,0),(12,0),(13,0),(14,0),(9,1),(15,1),(16,0),(17,0)] [] [0] H (by kernel_rfl) (fun _ _ _ h=>False.elim h.2) fun w W0 hI H=>fn 3 E rfl fun a E=>cs hm (fun b hm=>?_) fun b hm=>?_
     ·refine fk 4 E (kc 13 rfl b) rfl fun a E=>bd hm fun c s hm=>?_
      obtain ⟨q14,D,t,u⟩:=sW (P:=Tryz.prog) (k:=.i64) hI (sV (.head _)) U28 kN s
      refine cB E rfl (ws' (d:=13) E rfl rfl rfl rfl b) rfl rfl (fun w hW=>wF E rfl rfl rfl (t w)) fun a E=>?_
      refine cB E rfl (ws' (d:=13) E rfl rfl rfl rfl b) rfl rfl (fun w hW=>gK E rfl rfl (Fb (cs:=[.string c.Path,.string c.Data,.int .i64 c.Version,.int .i64 c.Turn,.int .i64 c.Owner]) (DR.ir (Fd u)) (fun _ _ _ h=>A3 h) U62 rfl kN w hW)) fun a E=>?_
      refine fk 3 E (kc 13 rfl b) rfl fun a E=>bd hm fun e x hm=>?_
      obtain ⟨q20,F,y,z⟩:=sW (P:=Tryz.prog) (k:=.i64) hI (sV (.head _)) U28 kN x
      refine cB E rfl (ws' (d:=13) E rfl rfl rfl rfl b) rfl rfl (fun w hW=>wF E rfl rfl rfl (y w)) fun a E=>?_
      refine cB E rfl (ws' (d:=13) E rfl rfl rfl rfl b) rfl rfl (fun w hW=>gK E rfl rfl (Fb (cs:=[.string e.Path,.string e.Data,.int .i64 e.Version,.int .i64 e.Turn,.int .i64 e.Owner]) (DR.ir (Fd z)) (fun _ _ _ h=>A3 h) U62 rfl kN w hW)) fun a E=>?_
      refine cE rfl<|bd hm fun G A hm=>aX E (ws' (d:=13) E rfl rfl rfl rfl b) rfl rfl (bP E rfl rfl rfl (BQ _)) (R8 H A)<|?_
      rintro _ w ⟨rfl,H⟩ a E
      refine nt<|?_
      refine ⟨⟨_,_,H,(aL),(aA m0 (aN))⟩,?_⟩
      refine cE rfl<|bd hm fun I B hm=>aX E (ws' (d:=13) E rfl rfl rfl rfl b) rfl rfl (bP E rfl rfl rfl (BQ _)) (R8 H B)<|?_
      rintro _ w ⟨rfl,H⟩ a E
      refine nt<|?_
      refine ⟨⟨_,_,H,(aL),(aA m0 (aN))⟩,?_⟩
      refine fk 2 E (kc 13 rfl b) rfl fun a E=>bR<|?_
      clear hI
      exact aD<|⟨_,_,E.to rfl,H,(Y1 i),hm⟩
     ·refine fk 11 E (kc 13 rfl b) rfl fun a E=>cE rfl<|pk 1 E (kc 13 rfl b) rfl fun a E=>nt<|?_
      refine ⟨⟨_,_,H,(aL),(aA m0 (aN))⟩,?_⟩
      refine cE rfl<|pk 1 E (kc 13 rfl b) rfl fun a E=>nt<|?_
      refine ⟨⟨_,_,H,(aL),(aA m0 (aN))⟩,?_⟩
      refine fk 2 E (kc 13 rfl b) rfl fun a E=>bR<|?_
      clear hI
      exact aD<|⟨_,_,E.to rfl,H,(Y1 i),hm⟩
    ·clear E H hm
     rintro a w ⟨q,m,E,H,p,hm⟩
     unfold kK at hm
     refine wif E hm rfl (fun hm=>?_) fun hm=>?_
     ·refine sq<|pr 1 E rfl fun a E=>nt<|wp_ret<|bU<|aP<|aP<|bU<|aP<|?_
      refine bB E rfl rfl<|?_
      cases hm
      exact ⟨rfl,H.reads p⟩
     ·exact wp_skip<|bY<|aD<|wp_region_lit<|pr 2 E rfl fun a E=>nt<|⟨g,Nat.lt_succ_self g,_,_,E.to rfl,H,p,hm⟩
   ·refine wp_exit<|bH<|bH<|dZ<|aD<|sq<|pr 1 E rfl fun a E=>nt<|wp_ret<|?_
    refine bB E rfl rfl<|?_
    cases hm
    exact ⟨rfl,H.reads i⟩

def vK(x1:aI):Option ByteArray:=
  some (x1.Dir)
theorem R9{x1:aI}(H:Sep w (Fo) rs){r:ByteArray}(hm:vK x1=some r) :
    Calls Tryz.prog 83 [.agg #[.string x1.Dir,.int .i64 x1.Next]].toArray w (Ret fun v w'=>.string r=v∧Sep w' (Fo) (rs)):=by
 unfold vK at hm
 refine ent Tryz.func83 rfl Tryz.ntmps83 rfl rfl fun a E=>sq<|bS E H (wn rfl) rfl rfl rfl rfl rfl fun b w a H E=>pr 1 E rfl fun a E=>nx<|pr 1 E rfl fun a E=>lb E H 0 rfl rfl rfl rfl rfl rfl rfl U9 rfl fun a E=>pr 1 E rfl fun a E=>nt<|?_
 refine wp_ret<|bB E rfl rfl<|have H:=H.drop 0;?_
 cases hm
 exact ⟨rfl,H.reads Y0⟩

def kM(rec_1:Int→Option Bool)(b:Int)(c:Bool):Option Bool:=
  if c=true then (some (false)) else (rec_1 (IntKind.i64.wrap (b+1)))
def eZ(c:List aI):Nat→Int→Option Bool
  | 0,_=>none
  | d+1,b=>
    if (decide (b < (c.length:Int)))=true then (if (decide (b > 0))=true then ((idx c (IntKind.i64.wrap (b - 1))).bind fun e=>(idx c b).bind fun f=>(vK e).bind fun g=>(vK f).bind fun i=>kM (eZ c d) b (!(sLt g i))) else (kM (eZ c d) b false)) else (some (true))
def qK(b:List aI):Option Bool:=
  eZ b (((b.length:Int) - 0:Int).toNat+1) 0
theorem P5{l:Value}{c:List aI}(H:Sep w (Fo) rs)(m:rSl aK l c ∈ rs){r:Bool}(hm:qK c=some r) :
    Calls Tryz.prog 82 [l,.func (.func 83) #[] #[]].toArray w (Ret fun v w'=>.bool r=v∧Sep w' (Fo) (rs)):=by
 unfold qK at hm
 refine ent Tryz.func82 rfl Tryz.ntmps82 rfl rfl fun a E=>sq<|pr 1 E rfl fun a E=>nt<|wp_seq<|sq<|pr 1 E rfl fun a E=>sv E rfl rfl rfl (dB E H rfl rfl m U29) fun a E=>pr 1 E rfl fun a E=>?_
 refine nt<|wp_block<|cA (fun e a w=>∃ g i,Env 30 a [(0,l),(1,.func (.func 83) #[] #[]),(7,.int .i64 (c.length:Int)),(8,.int .i64 g)]∧Sep w (Fo) i∧(∀ r,r ∈ rs→r ∈ i)∧eZ c e g=some r) (((c.length:Int) - 0:Int).toNat+1) ?_ ?_
 ·exact ⟨_,_,E.to rfl,H,Y0,hm⟩
 ·clear E H hm
  rintro e a w ⟨g,i,E,H,f,hm⟩
  cases e with
  | zero=>exact (bW hm rfl).elim
  | succ e=>
   unfold eZ at hm
   refine sq<|pr 1 E rfl fun a E=>nt<|wp_seq<|wif E hm rfl (fun hm=>?_) fun hm=>?_
   ·refine wp_skip<|aD<|wp_seq<|wp_block<|sq<|pr 2 E rfl fun a E=>nt<|aT (fun a w=>∃ q j,Env 30 a [(0,l),(1,.func (.func 83) #[] #[]),(7,.int .i64 (c.length:Int)),(8,.int .i64 g),(28,.bool q)]∧Sep w (Fo) j∧(∀ r,r ∈ rs→r ∈ j)∧kM (eZ c e) g q=some r) ?_ ?_
    ·obtain ⟨C,H⟩:=H.raw (f _ m)
     refine dw [(0,0),(1,0),(2,0),(3,0),(4,0),(5,0),(6,0),(7,0),(8,0),(10,0),(11,0),(12,0),(13,0),(14,0),(9,1),(15,1),(16,0),(17,0)] [] [0] H (by kernel_rfl) (fun _ _ _ h=>False.elim h.2) fun w W0 hI H=>fn 3 E rfl fun a E=>cs hm (fun b hm=>?_) fun b hm=>?_
     ·refine fk 4 E (kc 13 rfl b) rfl fun a E=>bd hm fun n s hm=>?_
      obtain ⟨q14,D,t,u⟩:=sW (P:=Tryz.prog) (k:=.i64) hI (sV (.head _)) U29 rN s
      refine cB E rfl (ws' (d:=13) E rfl rfl rfl rfl b) rfl rfl (fun w hW=>wF E rfl rfl rfl (t w)) fun a E=>?_
      refine cB E rfl (ws' (d:=13) E rfl rfl rfl rfl b) rfl rfl (fun w hW=>gK E rfl rfl (Fb (cs:=[.string n.Dir,.int .i64 n.Next]) (DR.ir (Fd u)) (fun _ _ _ h=>A4 h) U85 rfl rN w hW)) fun a E=>?_
      refine fk 3 E (kc 13 rfl b) rfl fun a E=>bd hm fun o x hm=>?_
      obtain ⟨q20,F,y,z⟩:=sW (P:=Tryz.prog) (k:=.i64) hI (sV (.head _)) U29 rN x
      refine cB E rfl (ws' (d:=13) E rfl rfl rfl rfl b) rfl rfl (fun w hW=>wF E rfl rfl rfl (y w)) fun a E=>?_
      refine cB E rfl (ws' (d:=13) E rfl rfl rfl rfl b) rfl rfl (fun w hW=>gK E rfl rfl (Fb (cs:=[.string o.Dir,.int .i64 o.Next]) (DR.ir (Fd z)) (fun _ _ _ h=>A4 h) U85 rfl rN w hW)) fun a E=>?_
      refine cE rfl<|bd hm fun G A hm=>aX E (ws' (d:=13) E rfl rfl rfl rfl b) rfl rfl (bP E rfl rfl rfl (BR _)) (R9 H A)<|?_
      rintro _ w ⟨rfl,H⟩ a E
      refine nt<|?_
      refine ⟨⟨_,_,H,(aL),(aA m0 (aN))⟩,?_⟩
      refine cE rfl<|bd hm fun I B hm=>aX E (ws' (d:=13) E rfl rfl rfl rfl b) rfl rfl (bP E rfl rfl rfl (BR _)) (R9 H B)<|?_
      rintro _ w ⟨rfl,H⟩ a E
      refine nt<|?_
      refine ⟨⟨_,_,H,(aL),(aA m0 (aN))⟩,?_⟩
      refine fk 2 E (kc 13 rfl b) rfl fun a E=>bR<|?_
      clear hI
      exact aD<|⟨_,_,E.to rfl,H,(Y1 f),hm⟩
     ·refine fk 11 E (kc 13 rfl b) rfl fun a E=>cE rfl<|pk 1 E (kc 13 rfl b) rfl fun a E=>nt<|?_
      refine ⟨⟨_,_,H,(aL),(aA m0 (aN))⟩,?_⟩
      refine cE rfl<|pk 1 E (kc 13 rfl b) rfl fun a E=>nt<|?_
      refine ⟨⟨_,_,H,(aL),(aA m0 (aN))⟩,?_⟩
      refine fk 2 E (kc 13 rfl b) rfl fun a E=>bR<|?_
      clear hI
      exact aD<|⟨_,_,E.to rfl,H,(Y1 f),hm⟩
    ·clear E H hm
     rintro a w ⟨q,j,E,H,p,hm⟩
     unfold kM at hm
     refine wif E hm rfl (fun hm=>?_) fun hm=>?_
     ·refine sq<|pr 1 E rfl fun a E=>nt<|wp_ret<|bU<|aP<|aP<|bU<|aP<|?_
      refine bB E rfl rfl<|?_
      cases hm
      exact ⟨rfl,H.reads p⟩
     ·exact wp_skip<|bY<|aD<|wp_region_lit<|pr 2 E rfl fun a E=>nt<|⟨e,Nat.lt_succ_self e,_,_,E.to rfl,H,p,hm⟩
   ·refine wp_exit<|bH<|bH<|dZ<|aD<|sq<|pr 1 E rfl fun a E=>nt<|wp_ret<|?_
    refine bB E rfl rfl<|?_
    cases hm
    exact ⟨rfl,H.reads f⟩

def rP(x1:Int)(b:Int)(x3:Int):Option Bool:=
  if (decide (x1 ≥ b))=true then (some (decide (x1 ≤ x3))) else (some (false))
theorem G8{x1 c x3:Int}(H:Sep w (Fo) rs){r:Bool}(hm:rP x1 c x3=some r) :
    Calls Tryz.prog 79 [.int .i64 x1,.int .i64 c,.int .i64 x3].toArray w (Ret fun v w'=>.bool r=v∧Sep w' (Fo) (rs)):=by
 unfold rP at hm
 refine ent Tryz.func79 rfl Tryz.ntmps79 rfl rfl fun a E=>sq<|pr 1 E rfl fun a E=>nx<|pr 4 E rfl fun a E=>cs hm (fun b hm=>?_) fun b hm=>?_
 ·refine pk 5 E (kc 10 rfl b) rfl fun a E=>nt<|wp_ret<|bB E rfl rfl<|?_
  cases hm
  exact ⟨rfl,H.reads Y0⟩
 ·refine pk 5 E (kc 10 rfl b) rfl fun a E=>nt<|wp_ret<|bB E rfl rfl<|?_
  cases hm
  exact ⟨rfl,H.reads Y0⟩

def tX(d:ByteArray)(e:ByteArray)(x3:Int)(f:Int)(g:Int):Option Bool:=
  (eP d).bind fun i=>if i=true then (if (decide ((e.size:Int) ≤ 256))=true then ((rP x3 f 281474976710656).bind fun b=>if b=true then ((rP g 0 1099511627776).bind fun c=>some (c)) else (some (false))) else (some (false))) else (some (false))
theorem W6{i j:ByteArray}{x3 k l:Int}(H:Sep w (Fo) rs){r:Bool}(hm:tX i j x3 k l=some r) :
    Calls Tryz.prog 75 [.string i,.string j,.int .i64 x3,.int .i64 k,.int .i64 l].toArray w (Ret fun v w'=>.bool r=v∧Sep w' (Fo) (rs)):=by
 unfold tX at hm
 refine ent Tryz.func75 rfl Tryz.ntmps75 rfl rfl fun a E=>sq<|pr 1 E rfl fun a E=>nx<|pr 1 E rfl fun a E=>bd hm fun p m hm=>xk E rfl rfl rfl rfl rfl A7 (iI H m) fun w H a E=>pr 1 E rfl fun a E=>cs hm (fun e hm=>?_) fun e hm=>?_
 ·refine pk 5 E (kc 13 rfl e) rfl fun a E=>cs hm (fun c hm=>?_) fun c hm=>?_
  ·refine pk 2 E (kc 18 rfl c) rfl fun a E=>bd hm fun n f hm=>aX E (ws' (d:=18) E rfl rfl rfl rfl c) rfl rfl (cG E rfl rfl (Uw _)) (G8 H f)<|?_
   rintro _ w ⟨rfl,H⟩ a E
   refine pk 2 E (kc 18 rfl c) rfl fun a E=>cs hm (fun b hm=>?_) fun b hm=>?_
   ·refine pk 1 E (kc 23 rfl b) rfl fun a E=>bd hm fun o g hm=>aX E (ws' (d:=23) E rfl rfl rfl rfl b) rfl rfl (cG E rfl rfl (Uw _)) (G8 H g)<|?_
    rintro _ w ⟨rfl,H⟩ a E
    refine pk 2 E (kc 23 rfl b) rfl fun a E=>nt<|wp_ret<|bB E rfl rfl<|?_
    cases hm
    exact ⟨rfl,H.reads Y0⟩
   ·refine pk 4 E (kc 23 rfl b) rfl fun a E=>nt<|wp_ret<|bB E rfl rfl<|?_
    cases hm
    exact ⟨rfl,H.reads Y0⟩
  ·refine pk 9 E (kc 18 rfl c) rfl fun a E=>nt<|wp_ret<|bB E rfl rfl<|?_
   cases hm
   exact ⟨rfl,H.reads Y0⟩
 ·refine pk 14 E (kc 13 rfl e) rfl fun a E=>nt<|wp_ret<|bB E rfl rfl<|?_
  cases hm
  exact ⟨rfl,H.reads Y0⟩

def vL(x1:aF):Option Bool:=
  if (x1.Turn != 0)=true then (some (true)) else ((tX x1.Path x1.Data x1.Version 0 x1.Owner).bind fun b=>some (!b))
theorem Hd{x1:aF}(H:Sep w (Fo) rs){r:Bool}(hm:vL x1=some r) :
    Calls Tryz.prog 74 [.agg (kJ x1).toArray].toArray w (Ret fun v w'=>.bool r=v∧Sep w' (Fo) (rs)):=by
 unfold vL at hm
 refine ent Tryz.func74 rfl Tryz.ntmps74 rfl rfl fun a E=>sq<|bS E H (wn rfl) rfl rfl rfl rfl rfl fun e w a H E=>pr 1 E rfl fun a E=>nx<|pr 1 E rfl fun a E=>lb E H 0 rfl rfl rfl rfl rfl rfl rfl U2 rfl fun a E=>pr 2 E rfl fun a E=>cs hm (fun b hm=>?_) fun b hm=>?_
 ·refine pk 12 E (kc 6 rfl b) rfl fun a E=>nt<|wp_ret<|bB E rfl rfl<|have H:=H.drop 0;?_
  cases hm
  exact ⟨rfl,H.reads Y0⟩
 ·refine pk 1 E (kc 6 rfl b) rfl fun a E=>aQ E (ws' (d:=6) E rfl rfl rfl rfl b) rfl rfl (bT (i:=0) E H rfl rfl rfl rfl U9 rfl) fun a E=>pk 1 E (kc 6 rfl b) rfl fun a E=>aQ E (ws' (d:=6) E rfl rfl rfl rfl b) rfl rfl (bT (i:=0) E H rfl rfl rfl rfl U9 rfl) fun a E=>pk 1 E (kc 6 rfl b) rfl fun a E=>aQ E (ws' (d:=6) E rfl rfl rfl rfl b) rfl rfl (bT (i:=0) E H rfl rfl rfl rfl U2 rfl) fun a E=>pk 1 E (kc 6 rfl b) rfl fun a E=>aQ E (ws' (d:=6) E rfl rfl rfl rfl b) rfl rfl (bT (i:=0) E H rfl rfl rfl rfl U2 rfl) fun a E=>bd hm fun f c hm=>?_
  refine aX E (ws' (d:=6) E rfl rfl rfl rfl b) rfl rfl (cG E rfl rfl (BL _)) (W6 H c)<|?_
  rintro _ w ⟨rfl,H⟩ a E
  refine pk 3 E (kc 6 rfl b) rfl fun a E=>nt<|wp_ret<|bB E rfl rfl<|have H:=H.drop 0;?_
  cases hm
  exact ⟨rfl,H.reads Y0⟩

def dW(c:List aF):Nat→Int→Option Int
  | 0,_=>none
  | e+1,b=>
    if (decide (b < (c.length:Int)))=true then ((idx c b).bind fun f=>(vL f).bind fun d=>if d=true then (some (b)) else (dW c e (IntKind.i64.wrap (b+1)))) else (some ((-1)))
def iJ(b:List aF):Option Int:=
  dW b (((b.length:Int) - 0:Int).toNat+1) 0
theorem yY{g:Value}{d:List aF}(H:Sep w (Fo) rs)(f:rSl aG g d ∈ rs){r:Int}(hm:iJ d=some r) :
    Calls Tryz.prog 144 [g,.func (.func 74) #[] #[]].toArray w (Ret fun v w'=>.int .i64 r=v∧Sep w' (Fo) (rs)):=by
 unfold iJ at hm
 refine ent Tryz.func144 rfl Tryz.ntmps144 rfl rfl fun a E=>sq<|pr 1 E rfl fun a E=>nt<|wp_seq<|sq<|pr 1 E rfl fun a E=>sv E rfl rfl rfl (dB E H rfl rfl f U28) fun a E=>pr 1 E rfl fun a E=>?_
 refine nt<|wp_block<|cA (fun c a w=>∃ i e,Env 19 a [(0,g),(1,.func (.func 74) #[] #[]),(7,.int .i64 (d.length:Int)),(8,.int .i64 i)]∧Sep w (Fo) e∧(∀ r,r ∈ rs→r ∈ e)∧dW d c i=some r) (((d.length:Int) - 0:Int).toNat+1) ?_ ?_
 ·exact ⟨_,_,E.to rfl,H,Y0,hm⟩
 ·clear E H hm
  rintro c a w ⟨i,e,E,H,b,hm⟩
  cases c with
  | zero=>exact (bW hm rfl).elim
  | succ c=>
   unfold dW at hm
   refine sq<|pr 1 E rfl fun a E=>nt<|wp_seq<|wif E hm rfl (fun hm=>?_) fun hm=>?_
   ·refine wp_skip<|aD<|wp_seq<|wp_block<|sq<|pr 2 E rfl fun a E=>nx<|pr 3 E rfl fun a E=>bd hm fun m k hm=>?_
    refine dF E H (wn rfl) rfl rfl rfl rfl rfl (b _ f) U28 kN k fun q9 a H E=>ldf cQ E H rfl rfl rfl rfl rfl m0 U62 rfl kN fun a E=>bd hm fun l j hm=>aX E (wn rfl) rfl rfl (bP E rfl rfl rfl (KA _)) (Hd H j)<|?_
    rintro _ w ⟨rfl,H⟩ a E
    refine nt<|wif E hm rfl (fun hm=>?_) fun hm=>?_
    ·refine sq<|pr 2 E rfl fun a E=>nt<|wp_ret<|bU<|aP<|aP<|bU<|aP<|?_
     refine bB E rfl rfl<|?_
     cases hm
     exact ⟨rfl,H.reads (Y1 b)⟩
    ·exact wp_skip<|bY<|aD<|wp_region_lit<|pr 2 E rfl fun a E=>nt<|⟨c,Nat.lt_succ_self c,_,_,E.to rfl,H,(Y1 b),hm⟩
   ·refine wp_exit<|bH<|bH<|dZ<|aD<|sq<|pr 1 E rfl fun a E=>nt<|wp_ret<|?_
    refine bB E rfl rfl<|?_
    cases hm
    exact ⟨rfl,H.reads b⟩

def gS(b:List aF):Option Bool:=
  (iJ b).bind fun c=>some (decide (c ≥ 0))
theorem xF{b:Value}{c:List aF}(H:Sep w (Fo) rs)(d:rSl aG b c ∈ rs){r:Bool}(hm:gS c=some r) :
    Calls Tryz.prog 73 [b,.func (.func 74) #[] #[]].toArray w (Ret fun v w'=>.bool r=v∧Sep w' (Fo) (rs)):=by
 unfold gS at hm
 refine ent Tryz.func73 rfl Tryz.ntmps73 rfl rfl fun a E=>sq<|pr 1 E rfl fun a E=>nx<|pr 2 E rfl fun a E=>bd hm fun f e hm=>xk E rfl rfl rfl rfl rfl Pg (yY H d e) fun w H a E=>pr 2 E rfl fun a E=>nt<|?_
 refine wp_ret<|bB E rfl rfl<|?_
 cases hm
 exact ⟨rfl,H.reads Y0⟩

def vM(x1:aI):Option Bool:=
  (eP x1.Dir).bind fun b=>if (!b)=true then (some (true)) else ((rP x1.Next 1 10000).bind fun c=>some (!c))
theorem He{x1:aI}(H:Sep w (Fo) rs){r:Bool}(hm:vM x1=some r) :
    Calls Tryz.prog 77 [.agg #[.string x1.Dir,.int .i64 x1.Next]].toArray w (Ret fun v w'=>.bool r=v∧Sep w' (Fo) (rs)):=by
 unfold vM at hm
 refine ent Tryz.func77 rfl Tryz.ntmps77 rfl rfl fun a E=>sq<|bS E H (wn rfl) rfl rfl rfl rfl rfl fun f w a H E=>pr 1 E rfl fun a E=>nx<|pr 1 E rfl fun a E=>lb E H 0 rfl rfl rfl rfl rfl rfl rfl U9 rfl fun a E=>bd hm fun g c hm=>xk E rfl rfl rfl rfl rfl A7 (iI H c) fun w H a E=>?_
 refine pr 2 E rfl fun a E=>cs hm (fun b hm=>?_) fun b hm=>?_
 ·refine pk 6 E (kc 7 rfl b) rfl fun a E=>nt<|wp_ret<|bB E rfl rfl<|have H:=H.drop 0;?_
  cases hm
  exact ⟨rfl,H.reads Y0⟩
 ·refine pk 1 E (kc 7 rfl b) rfl fun a E=>aQ E (ws' (d:=7) E rfl rfl rfl rfl b) rfl rfl (bT (i:=0) E H rfl rfl rfl rfl U2 rfl) fun a E=>bd hm fun j e hm=>aX E (ws' (d:=7) E rfl rfl rfl rfl b) rfl rfl (cG E rfl rfl (Uw _)) (G8 H e)<|?_
  rintro _ w ⟨rfl,H⟩ a E
  refine pk 3 E (kc 7 rfl b) rfl fun a E=>nt<|wp_ret<|bB E rfl rfl<|have H:=H.drop 0;?_
  cases hm
  exact ⟨rfl,H.reads Y0⟩

def dX(c:List aI):Nat→Int→Option Int
  | 0,_=>none
  | e+1,b=>
    if (decide (b < (c.length:Int)))=true then ((idx c b).bind fun f=>(vM f).bind fun d=>if d=true then (some (b)) else (dX c e (IntKind.i64.wrap (b+1)))) else (some ((-1)))
def iK(b:List aI):Option Int:=
  dX b (((b.length:Int) - 0:Int).toNat+1) 0
theorem yZ{g:Value}{d:List aI}(H:Sep w (Fo) rs)(f:rSl aK g d ∈ rs){r:Int}(hm:iK d=some r) :
    Calls Tryz.prog 145 [g,.func (.func 77) #[] #[]].toArray w (Ret fun v w'=>.int .i64 r=v∧Sep w' (Fo) (rs)):=by
 unfold iK at hm
 refine ent Tryz.func145 rfl Tryz.ntmps145 rfl rfl fun a E=>sq<|pr 1 E rfl fun a E=>nt<|wp_seq<|sq<|pr 1 E rfl fun a E=>sv E rfl rfl rfl (dB E H rfl rfl f U29) fun a E=>pr 1 E rfl fun a E=>?_
 refine nt<|wp_block<|cA (fun c a w=>∃ i e,Env 19 a [(0,g),(1,.func (.func 77) #[] #[]),(7,.int .i64 (d.length:Int)),(8,.int .i64 i)]∧Sep w (Fo) e∧(∀ r,r ∈ rs→r ∈ e)∧dX d c i=some r) (((d.length:Int) - 0:Int).toNat+1) ?_ ?_
 ·exact ⟨_,_,E.to rfl,H,Y0,hm⟩
 ·clear E H hm
  rintro c a w ⟨i,e,E,H,b,hm⟩
  cases c with
  | zero=>exact (bW hm rfl).elim
  | succ c=>
   unfold dX at hm
   refine sq<|pr 1 E rfl fun a E=>nt<|wp_seq<|wif E hm rfl (fun hm=>?_) fun hm=>?_
   ·refine wp_skip<|aD<|wp_seq<|wp_block<|sq<|pr 2 E rfl fun a E=>nx<|pr 3 E rfl fun a E=>bd hm fun m k hm=>?_
    refine dF E H (wn rfl) rfl rfl rfl rfl rfl (b _ f) U29 rN k fun q9 a H E=>ldf eD E H rfl rfl rfl rfl rfl m0 U85 rfl rN fun a E=>bd hm fun l j hm=>aX E (wn rfl) rfl rfl (bP E rfl rfl rfl (KC _)) (He H j)<|?_
    rintro _ w ⟨rfl,H⟩ a E
    refine nt<|wif E hm rfl (fun hm=>?_) fun hm=>?_
    ·refine sq<|pr 2 E rfl fun a E=>nt<|wp_ret<|bU<|aP<|aP<|bU<|aP<|?_
     refine bB E rfl rfl<|?_
     cases hm
     exact ⟨rfl,H.reads (Y1 b)⟩
    ·exact wp_skip<|bY<|aD<|wp_region_lit<|pr 2 E rfl fun a E=>nt<|⟨c,Nat.lt_succ_self c,_,_,E.to rfl,H,(Y1 b),hm⟩
   ·refine wp_exit<|bH<|bH<|dZ<|aD<|sq<|pr 1 E rfl fun a E=>nt<|wp_ret<|?_
    refine bB E rfl rfl<|?_
    cases hm
    exact ⟨rfl,H.reads b⟩

def gT(b:List aI):Option Bool:=
  (iK b).bind fun c=>some (decide (c ≥ 0))
theorem xG{b:Value}{c:List aI}(H:Sep w (Fo) rs)(d:rSl aK b c ∈ rs){r:Bool}(hm:gT c=some r) :
    Calls Tryz.prog 76 [b,.func (.func 77) #[] #[]].toArray w (Ret fun v w'=>.bool r=v∧Sep w' (Fo) (rs)):=by
 unfold gT at hm
 refine ent Tryz.func76 rfl Tryz.ntmps76 rfl rfl fun a E=>sq<|pr 1 E rfl fun a E=>nx<|pr 2 E rfl fun a E=>bd hm fun f e hm=>xk E rfl rfl rfl rfl rfl GN (yZ H d e) fun w H a E=>pr 2 E rfl fun a E=>nt<|?_
 refine wp_ret<|bB E rfl rfl<|?_
 cases hm
 exact ⟨rfl,H.reads Y0⟩

def mY(x1:aW):Option Bool:=
  (gS x1.Nodes).bind fun d=>(gT x1.Turns).bind fun e=>if (!d)=true then (if (!e)=true then ((qJ x1.Nodes).bind fun b=>if b=true then ((qK x1.Turns).bind fun c=>some (c)) else (some (false))) else (some (false))) else (some (false))
theorem B2{x1:aW}{m n:Value}(H:Sep w (Fo) rs)(f:rSl aG m x1.Nodes ∈ rs)(g:rSl aK n x1.Turns ∈ rs){r:Bool}(hm:mY x1=some r) :
    Calls Tryz.prog 32 [.agg #[m,n]].toArray w (Ret fun v w'=>.bool r=v∧Sep w' (Fo) (rs)):=by
 unfold mY at hm
 refine ent Tryz.func32 rfl Tryz.ntmps32 rfl rfl fun a E=>sq<|bS E H (wn rfl) rfl rfl rfl rfl rfl fun s w a H E=>pr 1 E rfl fun a E=>nx<|pr 1 E rfl fun a E=>lb E H 0 rfl rfl rfl rfl rfl rfl rfl U28 rfl fun a E=>bd hm fun t o hm=>xk E rfl rfl rfl rfl rfl BF (xF H f o) fun w H a E=>?_
 refine pr 1 E rfl fun a E=>nx<|pr 1 E rfl fun a E=>lb E H 0 rfl rfl rfl rfl rfl rfl rfl U29 rfl fun a E=>bd hm fun u j hm=>xk E rfl rfl rfl rfl rfl KB (xG H g j) fun w H a E=>pr 1 E rfl fun a E=>nx<|pr 3 E rfl fun a E=>cs hm (fun e hm=>?_) fun e hm=>?_
 ·refine pk 4 E (kc 13 rfl e) rfl fun a E=>cs hm (fun b hm=>?_) fun b hm=>?_
  ·refine pk 1 E (kc 17 rfl b) rfl fun a E=>aQ E (ws' (d:=17) E rfl rfl rfl rfl b) rfl rfl (bT (i:=0) E H rfl rfl rfl rfl U28 rfl) fun a E=>bd hm fun p k hm=>aX E (ws' (d:=17) E rfl rfl rfl rfl b) rfl rfl (cG E rfl rfl (KD _)) (P4 H f k)<|?_
   rintro _ w ⟨rfl,H⟩ a E
   refine pk 2 E (kc 17 rfl b) rfl fun a E=>cs hm (fun c hm=>?_) fun c hm=>?_
   ·refine pk 1 E (kc 22 rfl c) rfl fun a E=>aQ E (ws' (d:=22) E rfl rfl rfl rfl c) rfl rfl (bT (i:=0) E H rfl rfl rfl rfl U29 rfl) fun a E=>bd hm fun q l hm=>aX E (ws' (d:=22) E rfl rfl rfl rfl c) rfl rfl (cG E rfl rfl (KE _)) (P5 H g l)<|?_
    rintro _ w ⟨rfl,H⟩ a E
    refine pk 2 E (kc 22 rfl c) rfl fun a E=>nt<|wp_ret<|bB E rfl rfl<|have H:=H.drop 0;?_
    cases hm
    exact ⟨rfl,H.reads Y0⟩
   ·refine pk 5 E (kc 22 rfl c) rfl fun a E=>nt<|wp_ret<|bB E rfl rfl<|have H:=H.drop 0;?_
    cases hm
    exact ⟨rfl,H.reads Y0⟩
  ·refine pk 10 E (kc 17 rfl b) rfl fun a E=>nt<|wp_ret<|bB E rfl rfl<|have H:=H.drop 0;?_
   cases hm
   exact ⟨rfl,H.reads Y0⟩
 ·refine pk 14 E (kc 13 rfl e) rfl fun a E=>nt<|wp_ret<|bB E rfl rfl<|have H:=H.drop 0;?_
  cases hm
  exact ⟨rfl,H.reads Y0⟩

def zS(x1:aW)(c:List aH)(b:Bool):Option (Option ((List aF)×(List aI)×(List aH))):=
  if b=true then (some none) else (some (some (x1.Nodes,x1.Turns,c)))
def E7(x1:aW)(b:List aH):Option (Option ((List aF)×(List aI)×(List aH))):=
  (mY x1).bind fun c=>if (!c)=true then (zS x1 b true) else ((nD b).bind fun d=>zS x1 b (!d))
theorem Cz{x1:aW}{n o x:Value}{u:List aH}(H:Sep w (Fo) rs)(p:rSl aG n x1.Nodes ∈ rs)(q:rSl aK o x1.Turns ∈ rs)(s:rSl aR x u ∈ rs){r:Option ((List aF)×(List aI)×(List aH))}(hm:E7 x1 u=some r) :
    Calls Tryz.prog 12 [.agg #[n,o],x].toArray w (Ret fun v w'=>(r=none∧.pointer none=v∧Sep w' (Fo) rs)∨∃ y,r=some y∧∃ f B C D j l m,pt f 0=v∧Sep w' (Blk f 82 [B,C,D,.slice none 0 0,.slice none 0 0,.slice none 0 0,.map (some j),.map (some l),.map (some m)]::cC Tryz.prog 2 (kyI .i64) bI true j []::cC Tryz.prog 2 (kyI .i64) cW true l []::cC Tryz.prog 2 (kyI .i64) bI true m []::Fo) (rSl aG B y.1::rSl aK C y.2.1::rSl aR D y.2.2::rs)):=by
 unfold E7 at hm
 refine ent Tryz.func12 rfl Tryz.ntmps12 rfl rfl fun a E=>sq<|bS E H (wn rfl) rfl rfl rfl rfl rfl fun F w a H E=>pr 1 E rfl fun a E=>nt<|wp_seq<|aT (fun a w=>∃ t e,Env 20 a [(1,x),(2,pt F 0),(12,.bool t)]∧Sep w (Blk F 31 [n,o]::Fo) e∧(∀ r,r ∈ rs→r ∈ e)∧zS x1 u t=some r) ?_ ?_
 ·refine wp_region_lit<|sv E rfl rfl rfl (cD (i:=0) (us:=[n,o]) E H rfl rfl rfl rfl U31 rfl dP) fun a E=>bd hm fun O z hm=>xk E rfl rfl rfl rfl rfl Pf (B2 H p q z) fun w H a E=>pr 2 E rfl fun a E=>cs hm (fun c hm=>?_) fun c hm=>?_
  ·exact pk 4 E (kc 8 rfl c) rfl fun a E=>nt<|⟨_,_,E.to rfl,H,Y0,hm⟩
  ·refine pk 1 E (kc 8 rfl c) rfl fun a E=>bd hm fun P A hm=>aX E (ws' (d:=8) E rfl rfl rfl rfl c) rfl rfl (cG E rfl rfl (Kw _)) (xE H s A)<|?_
   rintro _ w ⟨rfl,H⟩ a E
   exact pk 2 E (kc 8 rfl c) rfl fun a E=>nt<|⟨_,_,E.to rfl,H,Y0,hm⟩
 ·clear E H hm
  rintro a w ⟨t,e,E,H,b,hm⟩
  unfold zS at hm
  refine wif E hm rfl (fun hm=>?_) fun hm=>?_
  ·refine sq<|pr 1 E rfl fun a E=>nt<|wp_ret<|aP<|bB E rfl rfl<|have H:=H.drop 0;?_
   cases hm
   exact .inl ⟨rfl,rfl,H.reads (b)⟩
  ·refine wp_skip<|aD<|sq<|sv E rfl rfl rfl (cD (i:=0) (us:=[n,o]) E H rfl rfl rfl rfl U31 rfl dP) fun a E=>pr 1 E rfl fun a E=>xN (k:=2) (K:=(kyI .i64)) (d:=bI) (g:=true) E H (wn rfl) rfl rfl rfl fun G w a H E=>xN (k:=2) (K:=(kyI .i64)) (d:=cW) (g:=true) E H (wn rfl) rfl rfl rfl fun I w a H E=>xN (k:=2) (K:=(kyI .i64)) (d:=bI) (g:=true) E H (wn rfl) rfl rfl rfl fun J w a H E=>?_
   obtain ⟨q16,L,rfl⟩:=H.slform (b _ p)
   obtain ⟨q18,M,rfl⟩:=H.slform (b _ q)
   obtain ⟨q20,N,rfl⟩:=H.slform (b _ s)
   refine sv E rfl rfl rfl (cN E rfl (E.evs rfl) (v:=.agg #[(.slice q16 x1.Nodes.length L),(.slice q18 x1.Turns.length M),(.slice q20 u.length N),.slice none 0 0,.slice none 0 0,.slice none 0 0,.map (some G),.map (some I),.map (some J)]) (by kernel_rfl)) fun a E=>bS E H (wn rfl) rfl rfl rfl rfl rfl fun Q w a H E=>pr 1 E rfl fun a E=>nt<|wp_ret<|bB E rfl rfl<|have H:=H.drop 4;have H:=H.frs [1,2,3,3] rfl;?_
   cases hm
   exact .inr ⟨_,rfl,X7 ⟨rfl,H.reads (aA (b _ p) (aA (b _ q) (aA (b _ s) (b))))⟩⟩

def zA:Option (Option ((List aF)×(List aI)×(List aH))):=
  (E7 (⟨([(⟨(ByteArray.mk #[47]),(ByteArray.mk #[]),0,0,0⟩:aF)]:List aF),[]⟩:aW) ([(⟨(ByteArray.mk #[47]),1,1⟩:aH)]:List aH)).bind fun c=>Do c (some none) fun b=>some (some (b.1,b.2.1,b.2.2))
theorem F4(H:Sep w (Fo) rs){r:Option ((List aF)×(List aI)×(List aH))}(hm:zA=some r) :
    Calls Tryz.prog 5 [].toArray w (Ret fun v w'=>(r=none∧.pointer none=v∧Sep w' (Fo) rs)∨∃ y,r=some y∧∃ b j k l c f g,pt b 0=v∧Sep w' (Blk b 82 [j,k,l,.slice none 0 0,.slice none 0 0,.slice none 0 0,.map (some c),.map (some f),.map (some g)]::cC Tryz.prog 2 (kyI .i64) bI true c []::cC Tryz.prog 2 (kyI .i64) cW true f []::cC Tryz.prog 2 (kyI .i64) bI true g []::Fo) (rSl aG j y.1::rSl aK k y.2.1::rSl aR l y.2.2::rs)):=by
 unfold zA at hm
 refine ent Tryz.func5 rfl Tryz.ntmps5 rfl rfl fun a E=>sq<|pr 1 E rfl fun a E=>nx<|sv E rfl rfl rfl (cN E rfl (E.evs rfl) (v:=.agg #[.string (ByteArray.mk #[47]),.string (ByteArray.mk #[]),.int .i64 0,.int .i64 0,.int .i64 0]) (by kernel_rfl)) fun a E=>hG (e:=62) (d:=aG) (cs:=[.string (ByteArray.mk #[47]),.string (ByteArray.mk #[]),.int .i64 0,.int .i64 0,.int .i64 0]) (xs:=[(⟨(ByteArray.mk #[47]),(ByteArray.mk #[]),0,0,0⟩:aF)]) E H (wn rfl) rfl rfl rfl (E.evs rfl) (by kernel_rfl) rfl rfl (fun ok hr=>(Rows.single (d:=aG) (cs:=[.string (ByteArray.mk #[47]),.string (ByteArray.mk #[]),.int .i64 0,.int .i64 0,.int .i64 0]) (x:=(⟨(ByteArray.mk #[47]),(ByteArray.mk #[]),0,0,0⟩:aF)) xB)) fun t w a H E=>?_
 obtain ⟨q2,x3,rfl⟩:=H.rowform (i:=0) rfl
 refine sv E rfl rfl rfl (cN E rfl (E.evs rfl) (v:=.agg #[(.slice q2 ([(⟨(ByteArray.mk #[47]),(ByteArray.mk #[]),0,0,0⟩:aF)]:List aF).length x3),.slice none 0 0]) (by kernel_rfl)) fun a E=>sv E rfl rfl rfl (cN E rfl (E.evs rfl) (v:=.agg #[.string (ByteArray.mk #[47]),.int .i64 1,.int .i64 1]) (by kernel_rfl)) fun a E=>hG (e:=60) (d:=aR) (cs:=[.string (ByteArray.mk #[47]),.int .i64 1,.int .i64 1]) (xs:=[(⟨(ByteArray.mk #[47]),1,1⟩:aH)]) E H (wn rfl) rfl rfl rfl (E.evs rfl) (by kernel_rfl) rfl rfl (fun ok hr=>(Rows.single (d:=aR) (cs:=[.string (ByteArray.mk #[47]),.int .i64 1,.int .i64 1]) (x:=(⟨(ByteArray.mk #[47]),1,1⟩:aH)) vF)) fun u w a H E=>have H:=H.thaw (i:=1) rfl;have H:=H.nilSl aK;have H:=H.thaw (i:=0) rfl;bd hm fun z m hm=>cJ E rfl rfl rfl rfl rfl BD (Cz (x1:=(⟨([(⟨(ByteArray.mk #[47]),(ByteArray.mk #[]),0,0,0⟩:aF)]:List aF),[]⟩:aW)) H mm2 mm1 m0 m)<|?_
 rintro _ w (⟨rfl,rfl,H⟩ | ⟨n,rfl,A,B,C,o,p,q,s,rfl,H⟩) a E
 ·replace hm:=Fh hm
  refine pr 1 E rfl fun a E=>nt<|wp_ret<|bB E rfl rfl<|?_
  cases hm
  exact .inl ⟨rfl,rfl,H.reads (fun r hr=>(t3 hr))⟩
 ·replace hm:=Fi hm
  refine pr 1 E rfl fun a E=>nt<|wp_ret<|bB E rfl rfl<|?_
  cases hm
  exact .inr ⟨_,rfl,X7 ⟨rfl,H.reads (aA m0 (aA mm1 (aA mm2 (fun r hr=>(t6 hr)))))⟩⟩

def uC(b:ByteArray):Option Bool:=
  if (sEq b (ByteArray.mk #[]))=true then (some (true)) else ((eP b).bind fun c=>some (c))
theorem N4{c:ByteArray}(H:Sep w (Fo) rs){r:Bool}(hm:uC c=some r) :
    Calls Tryz.prog 64 [.string c].toArray w (Ret fun v w'=>.bool r=v∧Sep w' (Fo) (rs)):=by
 unfold uC at hm
 refine ent Tryz.func64 rfl Tryz.ntmps64 rfl rfl fun a E=>sq<|pr 1 E rfl fun a E=>nx<|pr 3 E rfl fun a E=>cs hm (fun b hm=>?_) fun b hm=>?_
 ·refine pk 4 E (kc 5 rfl b) rfl fun a E=>nt<|wp_ret<|bB E rfl rfl<|?_
  cases hm
  exact ⟨rfl,H.reads Y0⟩
 ·refine pk 1 E (kc 5 rfl b) rfl fun a E=>bd hm fun f e hm=>aX E (ws' (d:=5) E rfl rfl rfl rfl b) rfl rfl (cG E rfl rfl (A7 _)) (iI H e)<|?_
  rintro _ w ⟨rfl,H⟩ a E
  refine pk 2 E (kc 5 rfl b) rfl fun a E=>nt<|wp_ret<|bB E rfl rfl<|?_
  cases hm
  exact ⟨rfl,H.reads Y0⟩

def mJ(rec_1:Int→Option Bool)(c:Int)(b:Bool):Option Bool:=
  if b=true then (some (false)) else (rec_1 (IntKind.i64.wrap (c+1)))
def iX(b:List Int):Nat→Int→Option Bool
  | 0,_=>none
  | d+1,c=>
    if (decide (c < (b.length:Int)))=true then ((idx b c).bind fun e=>if (decide (e < 0))=true then (mJ (iX b d) c true) else (mJ (iX b d) c (decide (e > 281474976710656)))) else (some (true))
def sZ(b:List Int):Option Bool:=
  iX b (((b.length:Int) - 0:Int).toNat+1) 0
theorem Ej{l:Value}{b:List Int}(H:Sep w (Fo) rs)(m:rSl (kI .i64) l b ∈ rs){r:Bool}(hm:sZ b=some r) :
    Calls Tryz.prog 63 [l].toArray w (Ret fun v w'=>.bool r=v∧Sep w' (Fo) (rs)):=by
 unfold sZ at hm
 refine ent Tryz.func63 rfl Tryz.ntmps63 rfl rfl fun a E=>sq<|pr 1 E rfl fun a E=>nt<|wp_seq<|sq<|pr 1 E rfl fun a E=>sv E rfl rfl rfl (dB E H rfl rfl m U34) fun a E=>pr 1 E rfl fun a E=>?_
 refine nt<|wp_block<|cA (fun c a w=>∃ g i,Env 18 a [(5,l),(6,.int .i64 (b.length:Int)),(7,.int .i64 g)]∧Sep w (Fo) i∧(∀ r,r ∈ rs→r ∈ i)∧iX b c g=some r) (((b.length:Int) - 0:Int).toNat+1) ?_ ?_
 ·exact ⟨_,_,E.to rfl,H,Y0,hm⟩
 ·clear E H hm
  rintro c a w ⟨g,i,E,H,f,hm⟩
  cases c with
  | zero=>exact (bW hm rfl).elim
  | succ c=>
   unfold iX at hm
   refine sq<|pr 1 E rfl fun a E=>nt<|wp_seq<|wif E hm rfl (fun hm=>?_) fun hm=>?_
   ·refine wp_skip<|aD<|wp_seq<|wp_block<|sq<|bd hm fun o n hm=>dF E H (wn rfl) rfl rfl rfl rfl rfl (f _ m) U34 sz2 n fun q9 a H E=>sv E rfl rfl rfl (nB E H rfl rfl m0 U2 rfl) fun a E=>pr 1 E rfl fun a E=>?_
    refine nt<|aT (fun a w=>∃ j d,Env 18 a [(5,l),(6,.int .i64 (b.length:Int)),(7,.int .i64 g),(16,.bool j)]∧Sep w (Fo) d∧(∀ r,r ∈ rs→r ∈ d)∧mJ (iX b c) g j=some r) ?_ ?_
    ·refine wp_region_lit<|pr 3 E rfl fun a E=>cs hm (fun e hm=>?_) fun e hm=>?_
     ·exact pk 3 E (kc 13 rfl e) rfl fun a E=>nt<|⟨_,_,E.to rfl,H,(Y1 f),hm⟩
     ·exact pk 3 E (kc 13 rfl e) rfl fun a E=>nt<|⟨_,_,E.to rfl,H,(Y1 f),hm⟩
    ·clear E H hm
     rintro a w ⟨j,d,E,H,k,hm⟩
     unfold mJ at hm
     refine wif E hm rfl (fun hm=>?_) fun hm=>?_
     ·refine sq<|pr 1 E rfl fun a E=>nt<|wp_ret<|bU<|aP<|aP<|bU<|aP<|?_
      refine bB E rfl rfl<|?_
      cases hm
      exact ⟨rfl,H.reads k⟩
     ·exact wp_skip<|bY<|aD<|wp_region_lit<|pr 2 E rfl fun a E=>nt<|⟨c,Nat.lt_succ_self c,_,_,E.to rfl,H,k,hm⟩
   ·refine wp_exit<|bH<|bH<|dZ<|aD<|sq<|pr 1 E rfl fun a E=>nt<|wp_ret<|?_
    refine bB E rfl rfl<|?_
    cases hm
    exact ⟨rfl,H.reads f⟩

def tY(x1:bL)(b:ByteArray):Option Bool:=
  (tX x1.Path x1.Data x1.Version (-1) x1.Owner).bind fun c=>if c=true then (if (sEq x1.Dir b)=true then (if (decide (x1.Kind ≥ 1))=true then (if (decide (x1.Kind ≤ 10))=true then (if (x1.Kind != 2)=true then (some (true)) else (some (!(sEq x1.Path (ByteArray.mk #[47]))))) else (some (false))) else (some (false))) else (some (false))) else (some (false))
def tZ(x1:bL)(c:ByteArray)(b:Bool):Option Bool:=
  if b=true then (tY x1 x1.Path) else (tY x1 c)
def zT(x1:bL):Option Bool:=
  (uB x1.Path).bind fun b=>if (x1.Kind == 4)=true then (tZ x1 b true) else (if (x1.Kind == 9)=true then (tZ x1 b true) else (tZ x1 b (x1.Kind == 10)))
theorem Ge{x1:bL}(H:Sep w (Fo) rs){r:Bool}(hm:zT x1=some r) :
    Calls Tryz.prog 61 [.agg (cM x1).toArray].toArray w (Ret fun v w'=>.bool r=v∧Sep w' (Fo) (rs)):=by
 unfold zT at hm
 refine ent Tryz.func61 rfl Tryz.ntmps61 rfl rfl fun a E=>sq<|bS E H (wn rfl) rfl rfl rfl rfl rfl fun q w a H E=>pr 1 E rfl fun a E=>nx<|pr 1 E rfl fun a E=>lb E H 0 rfl rfl rfl rfl rfl rfl rfl U9 rfl fun a E=>bd hm fun t u hm=>xk E rfl rfl rfl rfl rfl Ux (Ak H u) fun w H a E=>?_
 refine pr 1 E rfl fun a E=>nt<|aT (fun a w=>∃ s n,Env 57 a [(1,pt q 0),(3,.string s)]∧Sep w (Blk q 71 (cM x1)::Fo) n∧(∀ r,r ∈ rs→r ∈ n)∧tY x1 s=some r) ?_ ?_
 ·refine aT (fun a w=>∃ o m,Env 57 a [(1,pt q 0),(3,.string t),(19,.bool o)]∧Sep w (Blk q 71 (cM x1)::Fo) m∧(∀ r,r ∈ rs→r ∈ m)∧tZ x1 t o=some r) ?_ ?_
  ·refine wp_region_lit<|pr 1 E rfl fun a E=>lb E H 0 rfl rfl rfl rfl rfl rfl rfl U3 rfl fun a E=>pr 2 E rfl fun a E=>cs hm (fun c hm=>?_) fun c hm=>?_
   ·exact pk 9 E (kc 10 rfl c) rfl fun a E=>nt<|⟨_,_,E.to rfl,H,Y0,hm⟩
   ·refine pk 1 E (kc 10 rfl c) rfl fun a E=>aQ E (ws' (d:=10) E rfl rfl rfl rfl c) rfl rfl (bT (i:=0) E H rfl rfl rfl rfl U3 rfl) fun a E=>pk 3 E (kc 10 rfl c) rfl fun a E=>cs hm (fun e hm=>?_) fun e hm=>?_
    ·exact pk 4 E (kc 15 rfl e) rfl fun a E=>nt<|⟨_,_,E.to rfl,H,Y0,hm⟩
    ·exact pk 1 E (kc 15 rfl e) rfl fun a E=>aQ E (ws' (d:=15) E rfl rfl rfl rfl e) rfl rfl (bT (i:=0) E H rfl rfl rfl rfl U3 rfl) fun a E=>pk 2 E (kc 15 rfl e) rfl fun a E=>nt<|⟨_,_,E.to rfl,H,Y0,hm⟩
  ·clear E H hm
   rintro a w ⟨o,m,E,H,p,hm⟩
   unfold tZ at hm
   refine wif E hm rfl (fun hm=>?_) fun hm=>?_
   ·exact wp_region_lit<|pr 1 E rfl fun a E=>lb E H 0 rfl rfl rfl rfl rfl rfl rfl U9 rfl fun a E=>pr 1 E rfl fun a E=>nt<|⟨_,_,E.to rfl,H,p,hm⟩
   ·exact wp_skip<|aD<|⟨_,_,E.to rfl,H,p,hm⟩
 ·clear E H hm
  rintro a w ⟨s,n,E,H,l,hm⟩
  unfold tY at hm
  refine sq<|pr 1 E rfl fun a E=>lb E H 0 rfl rfl rfl rfl rfl rfl rfl U9 rfl fun a E=>pr 1 E rfl fun a E=>lb E H 0 rfl rfl rfl rfl rfl rfl rfl U9 rfl fun a E=>pr 1 E rfl fun a E=>lb E H 0 rfl rfl rfl rfl rfl rfl rfl U2 rfl fun a E=>pr 1 E rfl fun a E=>lb E H 0 rfl rfl rfl rfl rfl rfl rfl U2 rfl fun a E=>?_
  refine bd hm fun y x hm=>xk E rfl rfl rfl rfl rfl BL (W6 H x) fun w H a E=>pr 1 E rfl fun a E=>cs hm (fun f hm=>?_) fun f hm=>?_
  ·refine pk 1 E (kc 31 rfl f) rfl fun a E=>aQ E (ws' (d:=31) E rfl rfl rfl rfl f) rfl rfl (bT (i:=0) E H rfl rfl rfl rfl U9 rfl) fun a E=>pk 4 E (kc 31 rfl f) rfl fun a E=>cs hm (fun g hm=>?_) fun g hm=>?_
   ·refine pk 1 E (kc 37 rfl g) rfl fun a E=>aQ E (ws' (d:=37) E rfl rfl rfl rfl g) rfl rfl (bT (i:=0) E H rfl rfl rfl rfl U3 rfl) fun a E=>pk 3 E (kc 37 rfl g) rfl fun a E=>cs hm (fun j hm=>?_) fun j hm=>?_
    ·refine pk 1 E (kc 42 rfl j) rfl fun a E=>aQ E (ws' (d:=42) E rfl rfl rfl rfl j) rfl rfl (bT (i:=0) E H rfl rfl rfl rfl U3 rfl) fun a E=>pk 3 E (kc 42 rfl j) rfl fun a E=>cs hm (fun b hm=>?_) fun b hm=>?_
     ·refine pk 1 E (kc 47 rfl b) rfl fun a E=>aQ E (ws' (d:=47) E rfl rfl rfl rfl b) rfl rfl (bT (i:=0) E H rfl rfl rfl rfl U3 rfl) fun a E=>pk 2 E (kc 47 rfl b) rfl fun a E=>cs hm (fun k hm=>?_) fun k hm=>?_
      ·refine pk 6 E (kc' (kc 51 rfl k) 47 rfl b) rfl fun a E=>nt<|wp_ret<|bB E rfl rfl<|have H:=H.drop 0;?_
       cases hm
       exact ⟨rfl,H.reads l⟩
      ·refine pk 1 E (kc 51 rfl k) rfl fun a E=>aQ E (ws' (d:=51) E rfl rfl rfl rfl k) rfl rfl (bT (i:=0) E H rfl rfl rfl rfl U9 rfl) fun a E=>pk 4 E (kc' (kc 51 rfl k) 47 rfl b) rfl fun a E=>nt<|wp_ret<|bB E rfl rfl<|have H:=H.drop 0;?_
       cases hm
       exact ⟨rfl,H.reads l⟩
     ·refine pk 10 E (kc 47 rfl b) rfl fun a E=>nt<|wp_ret<|bB E rfl rfl<|have H:=H.drop 0;?_
      cases hm
      exact ⟨rfl,H.reads l⟩
    ·refine pk 15 E (kc 42 rfl j) rfl fun a E=>nt<|wp_ret<|bB E rfl rfl<|have H:=H.drop 0;?_
     cases hm
     exact ⟨rfl,H.reads l⟩
   ·refine pk 20 E (kc 37 rfl g) rfl fun a E=>nt<|wp_ret<|bB E rfl rfl<|have H:=H.drop 0;?_
    cases hm
    exact ⟨rfl,H.reads l⟩
  ·refine pk 26 E (kc 31 rfl f) rfl fun a E=>nt<|wp_ret<|bB E rfl rfl<|have H:=H.drop 0;?_
   cases hm
   exact ⟨rfl,H.reads l⟩

def jQ(b:ByteArray)(c:ByteArray):Option Bool:=
  if (decide ((b.size:Int) ≥ (c.size:Int)))=true then ((ck (0 ≤ (IntKind.i64.wrap ((b.size:Int) - (c.size:Int)))∧(IntKind.i64.wrap ((b.size:Int) - (c.size:Int))) ≤ b.size)).bind fun d=>some (sEq (b.extract (IntKind.i64.wrap ((b.size:Int) - (c.size:Int))).toNat b.size) c)) else (some (false))
theorem x9{c e:ByteArray}(H:Sep w (Fo) rs){r:Bool}(hm:jQ c e=some r) :
    Calls Tryz.prog 248 [.string c,.string e].toArray w (Ret fun v w'=>.bool r=v∧Sep w' (Fo) (rs)):=by
 unfold jQ at hm
 refine ent Tryz.func248 rfl Tryz.ntmps248 rfl rfl fun a E=>sq<|pr 1 E rfl fun a E=>nx<|pr 6 E rfl fun a E=>cs hm (fun b hm=>?_) fun b hm=>?_
 ·refine pk 6 E (kc 10 rfl b) rfl fun a E=>bk hm fun f hm=>aQ E (ws' (d:=10) E rfl rfl rfl rfl b) rfl rfl (Q9 E rfl rfl rfl U9 f) fun a E=>pk 4 E (kc 10 rfl b) rfl fun a E=>nt<|wp_ret<|bB E rfl rfl<|?_
  cases hm
  exact ⟨rfl,H.reads Y0⟩
 ·refine pk 11 E (kc 10 rfl b) rfl fun a E=>nt<|wp_ret<|bB E rfl rfl<|?_
  cases hm
  exact ⟨rfl,H.reads Y0⟩

def jC(b:ByteArray)(c:ByteArray):Option ByteArray:=
  (jQ b c).bind fun d=>if d=true then ((ck (0 ≤ (IntKind.i64.wrap ((b.size:Int) - (c.size:Int)))∧(IntKind.i64.wrap ((b.size:Int) - (c.size:Int))) ≤ b.size)).bind fun e=>some (b.extract 0 (IntKind.i64.wrap ((b.size:Int) - (c.size:Int))).toNat)) else (some (b))
theorem s9{b c:ByteArray}(H:Sep w (Fo) rs){r:ByteArray}(hm:jC b c=some r) :
    Calls Tryz.prog 201 [.string b,.string c].toArray w (Ret fun v w'=>.string r=v∧Sep w' (Fo) (rs)):=by
 unfold jC at hm
 refine ent Tryz.func201 rfl Tryz.ntmps201 rfl rfl fun a E=>sq<|pr 1 E rfl fun a E=>nt<|wp_seq<|sq<|pr 2 E rfl fun a E=>bd hm fun f d hm=>xk E rfl rfl rfl rfl rfl GZ (x9 H d) fun w H a E=>?_
 refine nt<|wif E hm rfl (fun hm=>?_) fun hm=>?_
 ·refine sq<|pr 6 E rfl fun a E=>bk hm fun e hm=>sv E rfl rfl rfl (Aa E rfl rfl rfl U9 e) fun a E=>pr 1 E rfl fun a E=>nt<|wp_ret<|aP<|bB E rfl rfl<|?_
  cases hm
  exact ⟨rfl,H.reads Y0⟩
 ·refine wp_skip<|aD<|sq<|pr 2 E rfl fun a E=>nt<|wp_ret<|bB E rfl rfl<|?_
  cases hm
  exact ⟨rfl,H.reads Y0⟩

def fQ(b:ByteArray)(c:ByteArray):Option ByteArray:=
  (jC b c).bind fun d=>some (d)
theorem B3{b c:ByteArray}(H:Sep w (Fo) rs){r:ByteArray}(hm:fQ b c=some r) :
    Calls Tryz.prog 140 [.string b,.string c].toArray w (Ret fun v w'=>.string r=v∧Sep w' (Fo) (rs)):=by
 unfold fQ at hm
 refine ent Tryz.func140 rfl Tryz.ntmps140 rfl rfl fun a E=>sq<|pr 1 E rfl fun a E=>nx<|pr 2 E rfl fun a E=>bd hm fun e d hm=>xk E rfl rfl rfl rfl rfl GY (s9 H d) fun w H a E=>pr 1 E rfl fun a E=>nt<|?_
 refine wp_ret<|bB E rfl rfl<|?_
 cases hm
 exact ⟨rfl,H.reads Y0⟩

def zB(d:ByteArray)(e:ByteArray)(f:Bool):Option Bool:=
  if f=true then (some (false)) else ((fQ d (ByteArray.mk #[47])).bind fun g=>(iW e g).bind fun b=>if b.2=true then (if (sEq b.1 (ByteArray.mk #[]))=true then (some (true)) else ((idx b.1.data.toList 0).bind fun c=>some ((c.toNat:Int) == 47))) else (some (false)))
def zC(b:ByteArray)(c:ByteArray):Option Bool:=
  (eP b).bind fun d=>if (!d)=true then (zB c b true) else ((eP c).bind fun e=>zB c b (!e))
theorem Al{i j:ByteArray}(H:Sep w (Fo) rs){r:Bool}(hm:zC i j=some r) :
    Calls Tryz.prog 62 [.string i,.string j].toArray w (Ret fun v w'=>.bool r=v∧Sep w' (Fo) (rs)):=by
 unfold zC at hm
 refine ent Tryz.func62 rfl Tryz.ntmps62 rfl rfl fun a E=>sq<|pr 1 E rfl fun a E=>nt<|wp_seq<|aT (fun a w=>∃ k g,Env 32 a [(0,.string i),(1,.string j),(14,.bool k)]∧Sep w (Fo) g∧(∀ r,r ∈ rs→r ∈ g)∧zB j i k=some r) ?_ ?_
 ·refine wp_region_lit<|pr 1 E rfl fun a E=>bd hm fun q l hm=>xk E rfl rfl rfl rfl rfl A7 (iI H l) fun w H a E=>pr 2 E rfl fun a E=>cs hm (fun b hm=>?_) fun b hm=>?_
  ·exact pk 4 E (kc 10 rfl b) rfl fun a E=>nt<|⟨_,_,E.to rfl,H,Y0,hm⟩
  ·refine pk 1 E (kc 10 rfl b) rfl fun a E=>bd hm fun s m hm=>aX E (ws' (d:=10) E rfl rfl rfl rfl b) rfl rfl (cG E rfl rfl (A7 _)) (iI H m)<|?_
   rintro _ w ⟨rfl,H⟩ a E
   exact pk 2 E (kc 10 rfl b) rfl fun a E=>nt<|⟨_,_,E.to rfl,H,Y0,hm⟩
 ·clear E H hm
  rintro a w ⟨k,g,E,H,f,hm⟩
  unfold zB at hm
  refine wif E hm rfl (fun hm=>?_) fun hm=>?_
  ·refine sq<|pr 1 E rfl fun a E=>nt<|wp_ret<|aP<|bB E rfl rfl<|?_
   cases hm
   exact ⟨rfl,H.reads f⟩
  ·refine wp_skip<|aD<|sq<|pr 2 E rfl fun a E=>bd hm fun u o hm=>xk E rfl rfl rfl rfl rfl Xh (B3 H o) fun w H a E=>bd hm fun x p hm=>xk E rfl rfl rfl rfl rfl Xe (C3 H p) fun w H a E=>pr 5 E rfl fun a E=>?_
   refine nx<|pr 2 E rfl fun a E=>cs hm (fun c hm=>?_) fun c hm=>?_
   ·refine pk 3 E (kc 23 rfl c) rfl fun a E=>cs hm (fun e hm=>?_) fun e hm=>?_
    ·refine pk 6 E (kc' (kc 26 rfl e) 23 rfl c) rfl fun a E=>nt<|wp_ret<|bB E rfl rfl<|?_
     cases hm
     exact ⟨rfl,H.reads f⟩
    ·refine pk 1 E (kc 26 rfl e) rfl fun a E=>bd hm fun t n hm=>aQ E (ws' (d:=26) E rfl rfl rfl rfl e) rfl rfl (Kc E rfl rfl rfl U9 n) fun a E=>pk 4 E (kc' (kc 26 rfl e) 23 rfl c) rfl fun a E=>nt<|wp_ret<|bB E rfl rfl<|?_
     cases hm
     exact ⟨rfl,H.reads f⟩
   ·refine pk 9 E (kc 23 rfl c) rfl fun a E=>nt<|wp_ret<|bB E rfl rfl<|?_
    cases hm
    exact ⟨rfl,H.reads f⟩

def lJ(rec_1:Int→Int→Option Bool)(b:cH)(c:Int)(d:Bool):Option Bool:=
  if d=true then (some (false)) else (rec_1 b.Op (IntKind.i64.wrap (c+1)))
def nN(rec_2:Int→Option Bool)(b:Int)(c:Bool):Option Bool:=
  if c=true then (some (false)) else (rec_2 (IntKind.i64.wrap (b+1)))
def jJ(x1:aV)(b:Bool):Option Bool:=
  if b=true then (if (decide ((x1.Gone.length:Int) ≤ 32))=true then ((mY x1.Store).bind fun c=>if c=true then (if (decide ((x1.Store.Nodes.length:Int) ≤ 512))=true then (some (decide ((x1.Store.Turns.length:Int) ≤ 512))) else (some (false))) else (some (false))) else (some (false))) else (some (false))
def iL(x1:aV)(b:Bool):Option Bool:=
  if b=true then ((sZ ([x1.Id,x1.Txn,x1.Age,x1.Epoch,x1.Watch.Session,x1.Watch.Num]:List Int)).bind fun c=>if c=true then ((uC x1.Prefix).bind fun d=>if d=true then ((uC x1.Watch.Path).bind fun e=>jJ x1 e) else (jJ x1 false)) else (jJ x1 false)) else (jJ x1 false)
def fS(x1:aV):Nat→Int→Option Bool
  | 0,_=>none
  | d+1,b=>
    if (decide (b < (x1.Gone.length:Int)))=true then ((idx x1.Gone b).bind fun c=>(zC c x1.Prefix).bind fun e=>if (!e)=true then (nN (fS x1 d) b true) else (if (sEq c x1.Prefix)=true then (nN (fS x1 d) b true) else (if (decide (b > 0))=true then ((idx x1.Gone (IntKind.i64.wrap (b - 1))).bind fun f=>nN (fS x1 d) b (!(sLt f c))) else (nN (fS x1 d) b false)))) else (if (decide (x1.Kind ≥ 1))=true then (if (decide (x1.Kind ≤ 13))=true then (if (decide (x1.To ≥ 0))=true then (if (decide (x1.To < 4))=true then (iL x1 (decide ((x1.Pieces.length:Int) ≤ 16))) else (iL x1 false)) else (iL x1 false)) else (iL x1 false)) else (iL x1 false))
def fH(x1:aV):Nat→Int→Int→Option Bool
  | 0,_,_=>none
  | d+1,e,c=>
    if (decide (c < (x1.Pieces.length:Int)))=true then ((idx x1.Pieces c).bind fun b=>if (decide (b.Op < e))=true then (lJ (fH x1 d) b c true) else (if (decide (b.Op ≥ 8))=true then (lJ (fH x1 d) b c true) else ((zT b.Part).bind fun f=>if (!f)=true then (lJ (fH x1 d) b c true) else (lJ (fH x1 d) b c (decide (b.Part.Version ≥ 281474976710656)))))) else (fS x1 (((x1.Gone.length:Int) - 0:Int).toNat+1) 0)
def oI(x1:aV):Option Bool:=
  fH x1 (((x1.Pieces.length:Int) - 0:Int).toNat+1) 0 0
theorem Gf{x1:aV}{F I J G:Value}(H:Sep w (Fo) rs)(W:rSl cF F x1.Pieces ∈ rs)(b5:rSl aG I x1.Store.Nodes ∈ rs)(b6:rSl aK J x1.Store.Turns ∈ rs)(V:rSl kS G x1.Gone ∈ rs){r:Bool}(hm:oI x1=some r) :
    Calls Tryz.prog 23 [.agg (aS x1 F I J G).toArray].toArray w (Ret fun v w'=>.bool r=v∧Sep w' (Fo) (rs)):=by
 unfold oI at hm
 refine ent Tryz.func23 rfl Tryz.ntmps23 rfl rfl fun a E=>sq<|bS E H (wn rfl) rfl rfl rfl rfl rfl fun g w a H E=>pr 1 E rfl fun a E=>nx<|pr 1 E rfl fun a E=>nt<|wp_seq<|sq<|?_
 refine pr 1 E rfl fun a E=>lb E H 0 rfl rfl rfl rfl rfl rfl rfl U40 rfl fun a E=>sv E rfl rfl rfl (dB E H rfl rfl W U40) fun a E=>pr 1 E rfl fun a E=>nt<|wp_block<|cA (fun N a w=>∃ X L O,Env 154 a [(1,pt g 0),(3,.int .i64 X),(10,F),(11,.int .i64 (x1.Pieces.length:Int)),(12,.int .i64 L)]∧Sep w (Blk g 43 (aS x1 F I J G)::Fo) O∧(∀ r,r ∈ rs→r ∈ O)∧fH x1 N X L=some r) (((x1.Pieces.length:Int) - 0:Int).toNat+1) ?_ ?_
 ·exact X3 ⟨E.to rfl,H,Y0,hm⟩
 ·clear E H hm
  rintro N a w ⟨X,L,O,E,H,k,hm⟩
  cases N with
  | zero=>exact (bW hm rfl).elim
  | succ N=>
   unfold fH at hm
   refine sq<|pr 1 E rfl fun a E=>nt<|wp_seq<|wif E hm rfl (fun hm=>?_) fun hm=>?_
   ·refine wp_skip<|aD<|wp_seq<|wp_block<|sq<|bd hm fun Y b8 hm=>dF E H (wn rfl) rfl rfl rfl rfl rfl (k _ W) U40 G5 b8 fun q17 a H E=>ldf wJ E H rfl rfl rfl rfl rfl m0 U73 rfl G5 fun a E=>al E H rfl rfl rfl rfl Pk fun b7 w a H E=>?_
    refine bC (i:=0) E H (wn rfl) rfl rfl rfl rfl rfl rfl G5 rfl rfl fun w H=>nt<|wp_seq<|aT (fun a w=>∃ Z P,Env 154 a [(1,pt g 0),(5,pt b7 0),(10,F),(11,.int .i64 (x1.Pieces.length:Int)),(12,.int .i64 L),(36,.bool Z)]∧Sep w (Blk g 43 (aS x1 F I J G)::Blk b7 73 (Cw Y)::Fo) P∧(∀ r,r ∈ rs→r ∈ P)∧lJ (fH x1 N) Y L Z=some r) ?_ ?_
    ·refine wp_region_lit<|pr 1 E rfl fun a E=>lb E H 0 rfl rfl rfl rfl rfl rfl rfl U3 rfl fun a E=>pr 3 E rfl fun a E=>cs hm (fun u hm=>?_) fun u hm=>?_
     ·exact pk 16 E (kc 20 rfl u) rfl fun a E=>nt<|have H:=H.frs [0,1] rfl;⟨_,_,E.to rfl,H,(Y1 k),hm⟩
     ·refine pk 1 E (kc 20 rfl u) rfl fun a E=>aQ E (ws' (d:=20) E rfl rfl rfl rfl u) rfl rfl (bT (i:=0) E H rfl rfl rfl rfl U3 rfl) fun a E=>pk 3 E (kc 20 rfl u) rfl fun a E=>cs hm (fun l hm=>?_) fun l hm=>?_
      ·exact pk 11 E (kc 25 rfl l) rfl fun a E=>nt<|have H:=H.frs [0,1] rfl;⟨_,_,E.to rfl,H,(Y1 k),hm⟩
      ·refine pk 1 E (kc 25 rfl l) rfl fun a E=>aQ E (ws' (d:=25) E rfl rfl rfl rfl l) rfl rfl (cD (i:=0) (us:=(cM Y.Part)) E H rfl rfl rfl rfl U71 rfl jT) fun a E=>bd hm fun c7 b9 hm=>aX E (ws' (d:=25) E rfl rfl rfl rfl l) rfl rfl (cG E rfl rfl (CM _)) (Ge H b9)<|?_
       rintro _ w ⟨rfl,H⟩ a E
       refine pk 3 E (kc 25 rfl l) rfl fun a E=>cs hm (fun y hm=>?_) fun y hm=>?_
       ·exact pk 5 E (kc 31 rfl y) rfl fun a E=>nt<|have H:=H.frs [0,1] rfl;⟨_,_,E.to rfl,H,(Y1 k),hm⟩
       ·exact pk 2 E (kc 31 rfl y) rfl fun a E=>aQ E (ws' (d:=31) E rfl rfl rfl rfl y) rfl rfl (bT (i:=0) E H rfl rfl rfl rfl U2 rfl) fun a E=>pk 2 E (kc 31 rfl y) rfl fun a E=>nt<|have H:=H.frs [0,1] rfl;⟨_,_,E.to rfl,H,(Y1 k),hm⟩
    ·clear E H hm
     rintro a w ⟨Z,P,E,H,b0,hm⟩
     unfold lJ at hm
     refine wif E hm rfl (fun hm=>?_) fun hm=>?_
     ·refine sq<|pr 1 E rfl fun a E=>nt<|wp_ret<|aP<|bU<|aP<|aP<|bU<|?_
      refine aP<|bB E rfl rfl<|have H:=H.drs [0,0];?_
      cases hm
      exact ⟨rfl,H.reads b0⟩
     ·refine wp_skip<|aD<|wp_region_lit<|pr 1 E rfl fun a E=>lb E H 1 rfl rfl rfl rfl rfl rfl rfl U3 rfl fun a E=>pr 1 E rfl fun a E=>wpList_nil<|bY<|aD<|?_
      exact wp_region_lit<|pr 2 E rfl fun a E=>nt<|have H:=H.drop 1;⟨N,Nat.lt_succ_self N,X3 ⟨E.to rfl,H,b0,hm⟩⟩
   ·refine wp_exit<|bH<|bH<|dZ<|aD<|wp_seq<|sq<|pr 1 E rfl fun a E=>lb E H 0 rfl rfl rfl rfl rfl rfl rfl U41 rfl fun a E=>?_
    refine sv E rfl rfl rfl (dB E H rfl rfl (k _ V) U41) fun a E=>pr 1 E rfl fun a E=>nt<|wp_block<|cA (fun Q a w=>∃ M R,Env 154 a [(1,pt g 0),(41,G),(42,.int .i64 (x1.Gone.length:Int)),(43,.int .i64 M)]∧Sep w (Blk g 43 (aS x1 F I J G)::Fo) R∧(∀ r,r ∈ rs→r ∈ R)∧fS x1 Q M=some r) (((x1.Gone.length:Int) - 0:Int).toNat+1) ?_ ?_
    ·exact ⟨_,_,E.to rfl,H,k,hm⟩
    ·clear E H hm
     rintro Q a w ⟨M,R,E,H,c,hm⟩
     cases Q with
     | zero=>exact (bW hm rfl).elim
     | succ Q=>
      unfold fS at hm
      refine sq<|pr 1 E rfl fun a E=>nt<|wp_seq<|wif E hm rfl (fun hm=>?_) fun hm=>?_
      ·refine wp_skip<|aD<|wp_seq<|wp_block<|sq<|pr 1 E rfl fun a E=>bd hm fun c8 c0 hm=>dF E H (wn rfl) rfl rfl rfl rfl rfl (c _ V) U41 sz9 c0 fun q32 a H E=>sv E rfl rfl rfl (nB E H rfl rfl m0 U9 rfl) fun a E=>?_
       refine pr 2 E rfl fun a E=>nt<|aT (fun a w=>∃ b1 S,Env 154 a [(1,pt g 0),(41,G),(42,.int .i64 (x1.Gone.length:Int)),(43,.int .i64 M),(72,.bool b1)]∧Sep w (Blk g 43 (aS x1 F I J G)::Fo) S∧(∀ r,r ∈ rs→r ∈ S)∧nN (fS x1 Q) M b1=some r) ?_ ?_
       ·refine wp_region_lit<|pr 2 E rfl fun a E=>lb E H 0 rfl rfl rfl rfl rfl rfl rfl U9 rfl fun a E=>bd hm fun c9 c1 hm=>xk E rfl rfl rfl rfl rfl Va (Al H c1) fun w H a E=>pr 2 E rfl fun a E=>cs hm (fun z hm=>?_) fun z hm=>?_
        ·exact pk 19 E (kc 53 rfl z) rfl fun a E=>nt<|⟨_,_,E.to rfl,H,(Y1 c),hm⟩
        ·refine pk 2 E (kc 53 rfl z) rfl fun a E=>aQ E (ws' (d:=53) E rfl rfl rfl rfl z) rfl rfl (bT (i:=0) E H rfl rfl rfl rfl U9 rfl) fun a E=>pk 3 E (kc 53 rfl z) rfl fun a E=>cs hm (fun A hm=>?_) fun A hm=>?_
         ·exact pk 13 E (kc 59 rfl A) rfl fun a E=>nt<|⟨_,_,E.to rfl,H,(Y1 c),hm⟩
         ·refine pk 3 E (kc 59 rfl A) rfl fun a E=>cs hm (fun j hm=>?_) fun j hm=>?_
          ·exact pk 1 E (kc 62 rfl j) rfl fun a E=>aQ E (ws' (d:=62) E rfl rfl rfl rfl j) rfl rfl (bT (i:=0) E H rfl rfl rfl rfl U41 rfl) fun a E=>pk 2 E (kc 62 rfl j) rfl fun a E=>bd hm fun d0 c2 hm=>dF E H (ws' (d:=62) E rfl rfl rfl rfl j) rfl rfl rfl rfl rfl (t1 (c _ V)) U41 sz9 c2 fun q43 a H E=>aQ E (ws' (d:=62) E rfl rfl rfl rfl j) rfl rfl (nB E H rfl rfl m0 U9 rfl) fun a E=>pk 4 E (kc' (kc 62 rfl j) 59 rfl A) rfl fun a E=>nt<|⟨_,_,E.to rfl,H,(Y2 c),hm⟩
          ·exact pk 10 E (kc' (kc 62 rfl j) 59 rfl A) rfl fun a E=>nt<|⟨_,_,E.to rfl,H,(Y1 c),hm⟩
       ·clear E H hm
        rintro a w ⟨b1,S,E,H,b2,hm⟩
        unfold nN at hm
        refine wif E hm rfl (fun hm=>?_) fun hm=>?_
        ·refine sq<|pr 1 E rfl fun a E=>nt<|wp_ret<|bU<|aP<|aP<|bU<|aP<|?_
         refine bB E rfl rfl<|have H:=H.drop 0;?_
         cases hm
         exact ⟨rfl,H.reads b2⟩
        ·exact wp_skip<|bY<|aD<|wp_region_lit<|pr 2 E rfl fun a E=>nt<|⟨Q,Nat.lt_succ_self Q,_,_,E.to rfl,H,b2,hm⟩
      ·refine wp_exit<|bH<|bH<|dZ<|aD<|aT (fun a w=>∃ b3 T,Env 154 a [(1,pt g 0),(8,.bool b3)]∧Sep w (Blk g 43 (aS x1 F I J G)::Fo) T∧(∀ r,r ∈ rs→r ∈ T)∧iL x1 b3=some r) ?_ ?_
       ·refine wp_region_lit<|pr 1 E rfl fun a E=>lb E H 0 rfl rfl rfl rfl rfl rfl rfl U3 rfl fun a E=>pr 2 E rfl fun a E=>cs hm (fun B hm=>?_) fun B hm=>?_
        ·refine pk 1 E (kc 77 rfl B) rfl fun a E=>aQ E (ws' (d:=77) E rfl rfl rfl rfl B) rfl rfl (bT (i:=0) E H rfl rfl rfl rfl U3 rfl) fun a E=>pk 3 E (kc 77 rfl B) rfl fun a E=>cs hm (fun C hm=>?_) fun C hm=>?_
         ·refine pk 1 E (kc 82 rfl C) rfl fun a E=>aQ E (ws' (d:=82) E rfl rfl rfl rfl C) rfl rfl (bT (i:=0) E H rfl rfl rfl rfl U3 rfl) fun a E=>pk 3 E (kc 82 rfl C) rfl fun a E=>cs hm (fun D hm=>?_) fun D hm=>?_
          ·refine pk 1 E (kc 87 rfl D) rfl fun a E=>aQ E (ws' (d:=87) E rfl rfl rfl rfl D) rfl rfl (bT (i:=0) E H rfl rfl rfl rfl U3 rfl) fun a E=>pk 3 E (kc 87 rfl D) rfl fun a E=>cs hm (fun m hm=>?_) fun m hm=>?_
           ·exact pk 1 E (kc 92 rfl m) rfl fun a E=>aQ E (ws' (d:=92) E rfl rfl rfl rfl m) rfl rfl (bT (i:=0) E H rfl rfl rfl rfl U40 rfl) fun a E=>aQ E (ws' (d:=92) E rfl rfl rfl rfl m) rfl rfl (dB E H rfl rfl (c _ W) U40) fun a E=>pk 3 E (kc 92 rfl m) rfl fun a E=>nt<|⟨_,_,E.to rfl,H,c,hm⟩
           ·exact pk 6 E (kc 92 rfl m) rfl fun a E=>nt<|⟨_,_,E.to rfl,H,c,hm⟩
          ·exact pk 11 E (kc 87 rfl D) rfl fun a E=>nt<|⟨_,_,E.to rfl,H,c,hm⟩
         ·exact pk 16 E (kc 82 rfl C) rfl fun a E=>nt<|⟨_,_,E.to rfl,H,c,hm⟩
        ·exact pk 21 E (kc 77 rfl B) rfl fun a E=>nt<|⟨_,_,E.to rfl,H,c,hm⟩
       ·clear E H hm
        rintro a w ⟨b3,T,E,H,K,hm⟩
        unfold iL at hm
        refine aT (fun a w=>∃ b4 U,Env 154 a [(1,pt g 0),(8,.bool b4)]∧Sep w (Blk g 43 (aS x1 F I J G)::Fo) U∧(∀ r,r ∈ rs→r ∈ U)∧jJ x1 b4=some r) ?_ ?_
        ·refine wp_region_lit<|pr 2 E rfl fun a E=>cs hm (fun b hm=>?_) fun b hm=>?_
         ·refine pk 1 E (kc 99 rfl b) rfl fun a E=>aQ E (ws' (d:=99) E rfl rfl rfl rfl b) rfl rfl (bT (i:=0) E H rfl rfl rfl rfl U2 rfl) fun a E=>pk 1 E (kc 99 rfl b) rfl fun a E=>aQ E (ws' (d:=99) E rfl rfl rfl rfl b) rfl rfl (bT (i:=0) E H rfl rfl rfl rfl U2 rfl) fun a E=>pk 1 E (kc 99 rfl b) rfl fun a E=>aQ E (ws' (d:=99) E rfl rfl rfl rfl b) rfl rfl (bT (i:=0) E H rfl rfl rfl rfl U2 rfl) fun a E=>pk 1 E (kc 99 rfl b) rfl fun a E=>aQ E (ws' (d:=99) E rfl rfl rfl rfl b) rfl rfl (bT (i:=0) E H rfl rfl rfl rfl U2 rfl) fun a E=>pk 2 E (kc 99 rfl b) rfl fun a E=>?_
          refine aQ E (ws' (d:=99) E rfl rfl rfl rfl b) rfl rfl (bT (i:=0) E H rfl rfl rfl rfl U2 rfl) fun a E=>pk 2 E (kc 99 rfl b) rfl fun a E=>aQ E (ws' (d:=99) E rfl rfl rfl rfl b) rfl rfl (bT (i:=0) E H rfl rfl rfl rfl U2 rfl) fun a E=>hG (e:=2) (d:=(kI .i64)) (cs:=[.int .i64 x1.Id,.int .i64 x1.Txn,.int .i64 x1.Age,.int .i64 x1.Epoch,.int .i64 x1.Watch.Session,.int .i64 x1.Watch.Num]) (xs:=[x1.Id,x1.Txn,x1.Age,x1.Epoch,x1.Watch.Session,x1.Watch.Num]) E H (ws' (d:=99) E rfl rfl rfl rfl b) rfl rfl rfl (E.evs rfl) (by kernel_rfl) rfl rfl (fun ok hr=>(Rows.append (Rows.append (Rows.append (Rows.append (Rows.append (Rows.single (d:=(kI .i64)) (cs:=[.int .i64 x1.Id]) (x:=x1.Id) rfl) (Rows.single (d:=(kI .i64)) (cs:=[.int .i64 x1.Txn]) (x:=x1.Txn) rfl)) (Rows.single (d:=(kI .i64)) (cs:=[.int .i64 x1.Age]) (x:=x1.Age) rfl)) (Rows.single (d:=(kI .i64)) (cs:=[.int .i64 x1.Epoch]) (x:=x1.Epoch) rfl)) (Rows.single (d:=(kI .i64)) (cs:=[.int .i64 x1.Watch.Session]) (x:=x1.Watch.Session) rfl)) (Rows.single (d:=(kI .i64)) (cs:=[.int .i64 x1.Watch.Num]) (x:=x1.Watch.Num) rfl))) fun d1 w a H E=>have H:=H.thaw (i:=0) rfl;bd hm fun d2 c3 hm=>aX E (ws' (d:=99) E rfl rfl rfl rfl b) rfl rfl (cG E rfl rfl (KO _)) (Ej H m0 c3)<|?_
          rintro _ w ⟨rfl,H⟩ a E
          refine pk 2 E (kc 99 rfl b) rfl fun a E=>cs hm (fun n hm=>?_) fun n hm=>?_
          ·refine pk 1 E (kc 117 rfl n) rfl fun a E=>aQ E (ws' (d:=117) E rfl rfl rfl rfl n) rfl rfl (bT (i:=0) E H rfl rfl rfl rfl U9 rfl) fun a E=>bd hm fun d3 c4 hm=>aX E (ws' (d:=117) E rfl rfl rfl rfl n) rfl rfl (cG E rfl rfl (CU _)) (N4 H c4)<|?_
           rintro _ w ⟨rfl,H⟩ a E
           refine pk 2 E (kc 117 rfl n) rfl fun a E=>cs hm (fun o hm=>?_) fun o hm=>?_
           ·refine pk 2 E (kc 122 rfl o) rfl fun a E=>aQ E (ws' (d:=122) E rfl rfl rfl rfl o) rfl rfl (bT (i:=0) E H rfl rfl rfl rfl U9 rfl) fun a E=>bd hm fun d4 c5 hm=>aX E (ws' (d:=122) E rfl rfl rfl rfl o) rfl rfl (cG E rfl rfl (CU _)) (N4 H c5)<|?_
            rintro _ w ⟨rfl,H⟩ a E
            exact pk 2 E (kc 122 rfl o) rfl fun a E=>nt<|⟨_,_,E.to rfl,H,(Y1 K),hm⟩
           ·exact pk 6 E (kc 122 rfl o) rfl fun a E=>nt<|⟨_,_,E.to rfl,H,(Y1 K),hm⟩
          ·exact pk 11 E (kc 117 rfl n) rfl fun a E=>nt<|⟨_,_,E.to rfl,H,(Y1 K),hm⟩
         ·exact pk 29 E (kc 99 rfl b) rfl fun a E=>nt<|⟨_,_,E.to rfl,H,K,hm⟩
        ·clear E H hm
         rintro a w ⟨b4,U,E,H,f,hm⟩
         unfold jJ at hm
         refine sq<|pr 2 E rfl fun a E=>cs hm (fun p hm=>?_) fun p hm=>?_
         ·refine pk 1 E (kc 129 rfl p) rfl fun a E=>aQ E (ws' (d:=129) E rfl rfl rfl rfl p) rfl rfl (bT (i:=0) E H rfl rfl rfl rfl U41 rfl) fun a E=>aQ E (ws' (d:=129) E rfl rfl rfl rfl p) rfl rfl (dB E H rfl rfl (f _ V) U41) fun a E=>pk 3 E (kc 129 rfl p) rfl fun a E=>cs hm (fun q hm=>?_) fun q hm=>?_
          ·refine pk 1 E (kc 135 rfl q) rfl fun a E=>aQ E (ws' (d:=135) E rfl rfl rfl rfl q) rfl rfl (cD (i:=0) (us:=[I,J]) E H rfl rfl rfl rfl U31 rfl dP) fun a E=>bd hm fun d5 c6 hm=>aX E (ws' (d:=135) E rfl rfl rfl rfl q) rfl rfl (cG E rfl rfl (Pf _)) (B2 H (f _ b5) (f _ b6) c6)<|?_
           rintro _ w ⟨rfl,H⟩ a E
           refine pk 2 E (kc 135 rfl q) rfl fun a E=>cs hm (fun s hm=>?_) fun s hm=>?_
           ·refine pk 2 E (kc 140 rfl s) rfl fun a E=>aQ E (ws' (d:=140) E rfl rfl rfl rfl s) rfl rfl (bT (i:=0) E H rfl rfl rfl rfl U28 rfl) fun a E=>aQ E (ws' (d:=140) E rfl rfl rfl rfl s) rfl rfl (dB E H rfl rfl (f _ b5) U28) fun a E=>pk 3 E (kc 140 rfl s) rfl fun a E=>cs hm (fun t hm=>?_) fun t hm=>?_
            ·refine pk 2 E (kc 147 rfl t) rfl fun a E=>aQ E (ws' (d:=147) E rfl rfl rfl rfl t) rfl rfl (bT (i:=0) E H rfl rfl rfl rfl U29 rfl) fun a E=>aQ E (ws' (d:=147) E rfl rfl rfl rfl t) rfl rfl (dB E H rfl rfl (f _ b6) U29) fun a E=>pk 3 E (kc 147 rfl t) rfl fun a E=>nt<|wp_ret<|bB E rfl rfl<|have H:=H.drop 0;?_
             cases hm
             exact ⟨rfl,H.reads f⟩
            ·refine pk 7 E (kc 147 rfl t) rfl fun a E=>nt<|wp_ret<|bB E rfl rfl<|have H:=H.drop 0;?_
             cases hm
             exact ⟨rfl,H.reads f⟩
           ·refine pk 14 E (kc 140 rfl s) rfl fun a E=>nt<|wp_ret<|bB E rfl rfl<|have H:=H.drop 0;?_
            cases hm
            exact ⟨rfl,H.reads f⟩
          ·refine pk 19 E (kc 135 rfl q) rfl fun a E=>nt<|wp_ret<|bB E rfl rfl<|have H:=H.drop 0;?_
           cases hm
           exact ⟨rfl,H.reads f⟩
         ·refine pk 25 E (kc 129 rfl p) rfl fun a E=>nt<|wp_ret<|bB E rfl rfl<|have H:=H.drop 0;?_
          cases hm
          exact ⟨rfl,H.reads f⟩

def eH(x1:Int):Option aE:=
  some ((⟨x1,0,false,0,[],(⟨[],[]⟩:aW),[],[],[]⟩:aE))
theorem eS{x1:Int}(H:Sep w (Fo) rs){r:aE}(hm:eH x1=some r) :
    Calls Tryz.prog 24 [.int .i64 x1].toArray w (Ret fun v w'=>∃ b c d e f g,.agg (bA r b c d e f g).toArray=v∧Sep w' (Fo) (rSl bE b r.Results::rSl aG c r.Store.Nodes::rSl aK d r.Store.Turns::rSl aU e r.Events::rSl bN f r.Mounts::rSl (kI .i64) g r.Wounded::rs)):=by
 unfold eH at hm
 refine ent Tryz.func24 rfl Tryz.ntmps24 rfl rfl fun a E=>sq<|al E H rfl rfl rfl rfl iO fun j w a H E=>nx<|pr 1 E rfl fun a E=>sv E rfl rfl rfl (cN E rfl (E.evs rfl) (v:=.agg #[.int .i64 x1,.int .i64 0,.bool false,.int .i64 0,.slice none 0 0,.slice none 0 0,.slice none 0 0,.slice none 0 0,.slice none 0 0,.slice none 0 0]) (by kernel_rfl)) fun a E=>bC (i:=0) E H (wn rfl) rfl rfl rfl rfl rfl rfl bV rfl rfl fun w H=>nt<|wp_ret<|?_
 refine eC E rfl (dH (i:=0) (us:=[.int .i64 x1,.int .i64 0,.bool false,.int .i64 0,.slice none 0 0,.slice none 0 0,.slice none 0 0,.slice none 0 0,.slice none 0 0,.slice none 0 0]) H rfl rfl rfl U36 rfl bV)<|have H:=H.nilSl bE;have H:=H.nilSl aG;have H:=H.nilSl aK;have H:=H.nilSl aU;have H:=H.nilSl bN;have H:=H.nilSl (kI .i64);have H:=H.drop 0;?_
 cases hm
 exact X6 ⟨rfl,H.reads (aA mm5 (aA mm4 (aA mm3 (aA mm2 (aA mm1 (aA m0 (fun r hr=>(t6 hr))))))))⟩

def pE(x20:aV)(b:(List ((Int)×aE))):Option (aE×(List ((Int)×aE))):=
  (Pe (kyI .i64) b x20.Txn qP).bind fun c=>some (c,b)
def tN(x20:aV)(b:List ((Int)×aE))(c:Bool):Option (aE×(List ((Int)×aE))):=
  if (!c)=true then (if ((b.length:Int) == 128)=true then ((eH 2).bind fun d=>some (d,b)) else ((mpt (kyI .i64) b x20.Txn (⟨0,0,x20.Yes,x20.Epoch,[],(⟨[],[]⟩:aW),[],[],[]⟩:aE)).bind fun e=>pE x20 e)) else (pE x20 b)
def wK(b:List ((Int)×aE))(x20:aV):Option (aE×(List ((Int)×aE))):=
  (K5 (kyI .i64) b x20.Txn qP).bind fun c=>tN x20 b c.2
theorem U6{d b:Nat}{y:List ((Int)×aE)}{x20:aV}{o p q s e f g j k l m n:Value}(H:Sep w (Blk d 82 [e,f,g,j,k,l,m,n,.map (some b)]::cC Tryz.prog 2 (kyI .i64) bI true b y::Fo) rs){r:aE×(List ((Int)×aE))}(hm:wK y x20=some r) :
    Calls Tryz.prog 16 [pt d 0,.agg (aS x20 o p q s).toArray].toArray w (Ret fun v w'=>∃ J L M N O P,.agg (bA r.1 J L M N O P).toArray=v∧Sep w' (Blk d 82 [e,f,g,j,k,l,m,n,.map (some b)]::cC Tryz.prog 2 (kyI .i64) bI true b r.2::Fo) (rSl bE J r.1.Results::rSl aG L r.1.Store.Nodes::rSl aK M r.1.Store.Turns::rSl aU N r.1.Events::rSl bN O r.1.Mounts::rSl (kI .i64) P r.1.Wounded::rs)):=by
 unfold wK at hm
 refine ent Tryz.func16 rfl Tryz.ntmps16 rfl rfl fun a E=>sq<|bS E H (wn rfl) rfl rfl rfl rfl rfl fun c w a H E=>al E H rfl rfl rfl rfl iO fun z w a H E=>nt<|aT (fun a w=>∃ A t,Env 44 a [(0,pt d 0),(3,pt c 0),(4,pt z 0)]∧Sep w (Blk d 82 [e,f,g,j,k,l,m,n,.map (some b)]::Blk c 43 (aS x20 o p q s)::Blk z 36 bO::cC Tryz.prog 2 (kyI .i64) bI true b A::Fo) t∧(∀ r,r ∈ rs→r ∈ t)∧pE x20 A=some r) ?_ ?_
 ·refine aT (fun a w=>∃ B u,Env 44 a [(0,pt d 0),(3,pt c 0),(4,pt z 0),(6,.bool B)]∧Sep w (Blk d 82 [e,f,g,j,k,l,m,n,.map (some b)]::Blk c 43 (aS x20 o p q s)::Blk z 36 bO::cC Tryz.prog 2 (kyI .i64) bI true b y::Fo) u∧(∀ r,r ∈ rs→r ∈ u)∧tN x20 y B=some r) ?_ ?_
  ·refine bd hm fun c2 C hm=>?_
   have hI:eK [Blk c 43 (aS x20 o p q s),Blk d 82 [e,f,g,j,k,l,m,n,.map (some b)]] [] { w with drawn:=w.drawn+1 }:=⟨_,_,H.kept (Kp.drawn _ w _),(aB mm1 (aB mm2 (aL))),(aN)⟩
   refine lZ _ (.go 0 0 (.go 1 0 (.go 2 0 (.go 3 0 (.go 4 0 (.go 5 0 (.alt 6 (.go 7 0 (.go 8 0 (.go 9 0 (.go 10 1 (.go 11 1 (.go 12 2 .nil)))))) 10 (.go 6 1 (.go 7 0 (.go 8 0 (.go 9 0 (.go 11 1 (.go 12 2 .nil))))))))))))) [12] mI (by kernel_rfl) (fun _ _ _ h=>False.elim h.2) hI<|have H:=H.kept (Kp.drawn _ w (w.drawn+1));?_
   generalize ({ w with drawn:=w.drawn+1 }:World)=w at H hI ⊢
   replace hI:∃ W,eK [Blk c 43 (aS x20 o p q s),Blk d 82 [e,f,g,j,k,l,m,n,.map (some b)]] [] W:=⟨_,hI⟩
   obtain ⟨W0,hI⟩:=hI
   refine aZ E rfl (wn rfl) rfl rfl (fun w hW=>(bD E rfl rfl)) fun a E=>aZ E rfl (wn rfl) rfl rfl (fun w hW=>(wE E rfl rfl)) fun a E=>aZ E rfl (wn rfl) rfl rfl (fun w hW=>lB E rfl rfl (v:=pt d 8) (Sb _ _)) fun a E=>aZ E rfl (wn rfl) rfl rfl (fun w hW=>gK E rfl rfl (mE mm1 rfl U79 rfl w hW)) fun a E=>aZ E rfl (wn rfl) rfl rfl (fun w hW=>lB E rfl rfl (v:=pt c 2) (Ft _ _)) fun a E=>aZ E rfl (wn rfl) rfl rfl (fun w hW=>gK E rfl rfl (mE m0 rfl U2 rfl w hW)) fun a E=>?_
   refine mS rfl rfl ?_ ?_
   ·refine oD (i:=3) (K:=(kyI .i64)) E H (wn rfl) rfl rfl rfl rfl rfl rfl (fD U2) U79 A8 K8 C fun c3 a H E=>?_
    obtain ⟨c4,c5,c6,c7,c8,c9,rfl,h⟩:=lF H;clear H;have H:=h
    refine nt<|?_
    refine ⟨⟨_,_,H,(aB mm1 (aB mm2 (aL))),(aN)⟩,?_⟩
    refine aZ E rfl (wn rfl) rfl rfl (fun w hW=>(bD E rfl rfl)) fun a E=>aZ E rfl (wn rfl) rfl rfl (fun w hW=>(dK E rfl rfl rfl)) fun a E=>aZ E rfl (wn rfl) rfl rfl (fun w hW=>(dK E rfl rfl rfl)) fun a E=>cP rfl<|al E H rfl rfl rfl rfl iO fun d0 w a H E=>nt<|?_
    refine ⟨⟨_,_,H,(aB mm2 (aB mm3 (aL))),(aN)⟩,?_⟩
    refine cP rfl<|bC (i:=0) E H (wn rfl) rfl rfl rfl rfl rfl rfl bV rfl (bF H mm5 mm4 mm3 mm2 mm1 m0) fun w H=>nt<|?_
    refine ⟨⟨_,_,H,(aB mm2 (aB mm3 (aL))),(aN)⟩,?_⟩
    refine dA rfl<|pr 1 E rfl fun a E=>nt<|eV<|?_
    clear hI
    exact aD<|have H:=H.drop 0;have H:=H.frs [3,1,2,3] rfl;⟨_,_,E.to rfl,H,(Y7 Y0),hm⟩
   ·refine al E H rfl rfl rfl rfl iO fun d1 w a H E=>nt<|?_
    refine ⟨⟨_,_,H,(aB mm2 (aB mm3 (aL))),(aN)⟩,?_⟩
    refine cP rfl<|oD (i:=4) (K:=(kyI .i64)) E H (wn rfl) rfl rfl rfl rfl rfl rfl (fD U2) U79 A8 K8 C fun b5 a H E=>?_
    obtain ⟨b6,b7,b8,b9,c0,c1,rfl,h⟩:=lF H;clear H;have H:=h
    refine nt<|?_
    refine ⟨⟨_,_,H,(aB mm2 (aB mm3 (aL))),(aN)⟩,?_⟩
    refine aZ E rfl (wn rfl) rfl rfl (fun w hW=>(bD E rfl rfl)) fun a E=>aZ E rfl (wn rfl) rfl rfl (fun w hW=>(dK E rfl rfl rfl)) fun a E=>aZ E rfl (wn rfl) rfl rfl (fun w hW=>(dK E rfl rfl rfl)) fun a E=>cP rfl<|bC (i:=0) E H (wn rfl) rfl rfl rfl rfl rfl rfl bV rfl (bF H mm5 mm4 mm3 mm2 mm1 m0) fun w H=>nt<|?_
    refine ⟨⟨_,_,H,(aB mm2 (aB mm3 (aL))),(aN)⟩,?_⟩
    refine dA rfl<|pr 1 E rfl fun a E=>nt<|eV<|?_
    clear hI
    exact aD<|have H:=H.drop 0;have H:=H.frs [3,1,2,3] rfl;⟨_,_,E.to rfl,H,(Y7 Y0),hm⟩
  ·clear E H hm
   rintro a w ⟨B,u,E,H,x,hm⟩
   unfold tN at hm
   refine sq<|pr 2 E rfl fun a E=>nt<|wif E hm rfl (fun hm=>?_) fun hm=>?_
   ·refine wp_seq<|sq<|pr 3 E rfl fun a E=>lb E H 0 rfl rfl rfl rfl rfl rfl rfl U79 rfl fun a E=>sv E rfl rfl rfl (F2 (i:=3) E H rfl rfl rfl U79) fun a E=>pr 1 E rfl fun a E=>nt<|wif E hm rfl (fun hm=>?_) fun hm=>?_
    ·refine sq<|bd hm fun Q D hm=>cJ E rfl rfl rfl rfl rfl xU (eS H D)<|?_
     rintro _ w ⟨R,S,T,U,V,X,rfl,H⟩ a E
     refine bC (i:=2) E H (wn rfl) rfl rfl rfl rfl rfl rfl bV rfl (bF H m0 mm1 mm2 mm3 mm4 mm5) fun w H=>nt<|wp_ret<|aP<|aP<|eC E rfl (dH (i:=2) (us:=(bA Q R S T U V X)) H rfl rfl rfl U36 rfl bV)<|have H:=H.drs [1,1];?_
     cases hm
     exact X6 ⟨rfl,H.reads (aA m0 (aA mm1 (aA mm2 (aA mm3 (aA mm4 (aA mm5 (fun r hr=>(t6 (x r hr)))))))))⟩
    ·refine wp_skip<|aD<|dw [(0,0),(1,0),(2,0),(3,0),(4,0),(5,0),(6,0),(7,0),(8,0),(9,0),(10,0),(11,2)] [0,1] [] H (by kernel_rfl) (fun _ _ _ h=>False.elim h.2) fun w W0 hI H=>fn 3 E rfl fun a E=>fb E rfl (wn rfl) rfl rfl rfl rfl m0 rfl U79 rfl fun a E=>fn 1 E rfl fun a E=>fb E rfl (wn rfl) rfl rfl rfl rfl mm1 rfl U2 rfl fun a E=>fn 1 E rfl fun a E=>fb E rfl (wn rfl) rfl rfl rfl rfl mm1 rfl U4 rfl fun a E=>?_
     refine fn 1 E rfl fun a E=>fb E rfl (wn rfl) rfl rfl rfl rfl mm1 rfl U2 rfl fun a E=>cB E rfl (wn rfl) rfl rfl (fun w hW=>(cN E rfl (E.evs rfl) (v:=.agg #[.int .i64 0,.int .i64 0,.bool x20.Yes,.int .i64 x20.Epoch,.slice none 0 0,.slice none 0 0,.slice none 0 0,.slice none 0 0,.slice none 0 0,.slice none 0 0]) (by kernel_rfl))) fun a E=>?_
     refine bQ rfl<|bd hm fun d2 F hm=>C9 (i:=3) (K:=(kyI .i64)) (v:=(⟨0,0,x20.Yes,x20.Epoch,[],(⟨[],[]⟩:aW),[],[],[]⟩:aE)) (cs:=[.int .i64 0,.int .i64 0,.bool x20.Yes,.int .i64 x20.Epoch,.slice none 0 0,.slice none 0 0,.slice none 0 0,.slice none 0 0,.slice none 0 0,.slice none 0 0]) E H (wn rfl) rfl rfl rfl rfl rfl rfl (fD U2) U79 F (fun ok hr=>(oF (Sl.nil _ _ _) (Sl.nil _ _ _) (Sl.nil _ _ _) (Sl.nil _ _ _) (Sl.nil _ _ _) (Sl.nil _ _ _))) fun w H=>nt<|bR<|?_
     clear hI
     exact aD<|⟨_,_,E.to rfl,H,x,hm⟩
   ·exact wp_skip<|aD<|⟨_,_,E.to rfl,H,x,hm⟩
 ·clear E H hm
  rintro a w ⟨A,t,E,H,G,hm⟩
  unfold pE at hm
  refine wp_seq<|dw [(0,0),(1,0),(2,0),(3,0),(4,0),(5,0),(6,1),(7,2)] [0,1] [] H (by kernel_rfl) (fun _ _ _ h=>False.elim h.2) fun w W0 hI H=>fn 3 E rfl fun a E=>fb E rfl (wn rfl) rfl rfl rfl rfl m0 rfl U79 rfl fun a E=>fn 1 E rfl fun a E=>fb E rfl (wn rfl) rfl rfl rfl rfl mm1 rfl U2 rfl fun a E=>cE rfl<|bd hm fun Y I hm=>Rv (i:=3) (K:=(kyI .i64)) E H (wn rfl) rfl rfl rfl rfl rfl rfl (fD U2) U79 A8 K8 I fun d3 a H E=>?_
  obtain ⟨Z,b0,b1,b2,b3,b4,rfl,h⟩:=lF H;clear H;have H:=h
  refine nt<|?_
  refine ⟨⟨_,_,H,(aB m0 (aB mm1 (aL))),(aN)⟩,?_⟩
  refine bQ rfl<|bC (i:=2) E H (wn rfl) rfl rfl rfl rfl rfl rfl bV rfl (bF H mm5 mm4 mm3 mm2 mm1 m0) fun w H=>nt<|bR<|?_
  clear hI
  refine aD<|wp_ret<|eC E rfl (dH (i:=2) (us:=(bA Y Z b0 b1 b2 b3 b4)) H rfl rfl rfl U36 rfl bV)<|have H:=H.drs [1,1];?_
  cases hm
  exact X6 ⟨rfl,H.reads (aA mm5 (aA mm4 (aA mm3 (aA mm2 (aA mm1 (aA m0 (fun r hr=>(t7 (G r hr)))))))))⟩

def xH(rec_1:Int→Int→Option Int)(b:Int)(c:Int):Option Int:=
  rec_1 c (IntKind.i64.wrap (b+1))
def uA(rec_1:Int→Int→Option Int)(b:Int)(d:Int)(c:Bool):Option Int:=
  if c=true then (xH rec_1 b b) else (xH rec_1 b d)
def lO(b:List aH)(e:ByteArray):Nat→Int→Int→Option Int
  | 0,_,_=>none
  | g+1,c,d=>
    if (decide (d < (b.length:Int)))=true then ((idx b d).bind fun f=>(zC e f.Prefix).bind fun i=>if i=true then (if (decide (c < 0))=true then (uA (lO b e g) d c true) else ((idx b c).bind fun j=>uA (lO b e g) d c (decide ((f.Prefix.size:Int) > (j.Prefix.size:Int))))) else (uA (lO b e g) d c false)) else ((nD b).bind fun k=>if (!k)=true then (some ((-1))) else (some (c)))
def qL(b:List aH)(c:ByteArray):Option Int:=
  lO b c (((b.length:Int) - 0:Int).toNat+1) (-1) 0
theorem wL{g:Value}{f:List aH}{j:ByteArray}(H:Sep w (Fo) rs)(p:rSl aR g f ∈ rs){r:Int}(hm:qL f j=some r) :
    Calls Tryz.prog 45 [g,.string j].toArray w (Ret fun v w'=>.int .i64 r=v∧Sep w' (Fo) (rs)):=by
 unfold qL at hm
 refine ent Tryz.func45 rfl Tryz.ntmps45 rfl rfl fun a E=>sq<|pr 1 E rfl fun a E=>nx<|pr 1 E rfl fun a E=>nt<|wp_seq<|sq<|pr 1 E rfl fun a E=>?_
 refine sv E rfl rfl rfl (dB E H rfl rfl p U54) fun a E=>pr 1 E rfl fun a E=>nt<|wp_block<|cA (fun l a w=>∃ q m s,Env 41 a [(0,g),(1,.string j),(5,.int .i64 q),(8,g),(9,.int .i64 (f.length:Int)),(10,.int .i64 m)]∧Sep w (Fo) s∧(∀ r,r ∈ rs→r ∈ s)∧lO f j l q m=some r) (((f.length:Int) - 0:Int).toNat+1) ?_ ?_
 ·exact X3 ⟨E.to rfl,H,Y0,hm⟩
 ·clear E H hm
  rintro l a w ⟨q,m,s,E,H,c,hm⟩
  cases l with
  | zero=>exact (bW hm rfl).elim
  | succ l=>
   unfold lO at hm
   refine sq<|pr 1 E rfl fun a E=>nt<|wp_seq<|wif E hm rfl (fun hm=>?_) fun hm=>?_
   ·refine wp_skip<|aD<|aT (fun a w=>∃ x n,Env 41 a [(0,g),(1,.string j),(5,.int .i64 x),(8,g),(9,.int .i64 (f.length:Int)),(10,.int .i64 m)]∧Sep w (Fo) n∧(∀ r,r ∈ rs→r ∈ n)∧xH (lO f j l) m x=some r) ?_ ?_
    ·refine wp_block<|sq<|pr 1 E rfl fun a E=>bd hm fun I y hm=>dF E H (wn rfl) rfl rfl rfl rfl rfl (c _ p) U54 iU y fun q14 a H E=>ldf jL E H rfl rfl rfl rfl rfl m0 U60 rfl iU fun a E=>al E H rfl rfl rfl rfl Gx fun J w a H E=>pr 1 E rfl fun a E=>bC (i:=0) E H (wn rfl) rfl rfl rfl rfl rfl rfl iU rfl rfl fun w H=>?_
     refine nt<|aT (fun a w=>∃ t o,Env 41 a [(0,g),(1,.string j),(5,.int .i64 q),(6,.int .i64 m),(8,g),(9,.int .i64 (f.length:Int)),(10,.int .i64 m),(34,.bool t)]∧Sep w (Fo) o∧(∀ r,r ∈ rs→r ∈ o)∧uA (lO f j l) m q t=some r) ?_ ?_
     ·obtain ⟨K,H⟩:=H.raw (t1 (c _ p))
      refine dw [(0,0),(1,0),(2,0),(3,1),(4,0),(5,0),(6,0),(7,0),(8,0),(9,0),(10,0),(11,0),(12,0),(13,0),(14,0),(15,0),(16,0),(17,0),(18,0),(19,0)] [0] [0] H (by kernel_rfl) (fun _ _ _ h=>False.elim h.2) fun w W0 hI H=>fn 2 E rfl fun a E=>fb E rfl (wn rfl) rfl rfl rfl rfl m0 rfl U9 rfl fun a E=>cE rfl<|bd hm fun L z hm=>xk E rfl rfl rfl rfl rfl Va (Al H z) fun w H a E=>nt<|?_
      refine ⟨⟨_,_,H,(aB m0 (aL)),(aA m0 (aN))⟩,?_⟩
      refine fn 1 E rfl fun a E=>cs hm (fun e hm=>?_) fun e hm=>?_
      ·refine fk 3 E (kc 19 rfl e) rfl fun a E=>cs hm (fun b hm=>?_) fun b hm=>?_
       ·refine fk 12 E (kc' (kc 22 rfl b) 19 rfl e) rfl fun a E=>bR<|?_
        clear hI
        exact aD<|have H:=H.drop 0;⟨_,_,E.to rfl,H,(Y2 c),hm⟩
       ·refine fk 1 E (kc 22 rfl b) rfl fun a E=>fb E rfl (ws' (d:=22) E rfl rfl rfl rfl b) rfl rfl rfl rfl m0 rfl U9 rfl fun a E=>fk 3 E (kc 22 rfl b) rfl fun a E=>bd hm fun M A hm=>?_
        obtain ⟨q26,N,B,C⟩:=sW (P:=Tryz.prog) (k:=.i64) hI (sV (.head _)) U54 iU A
        refine cB E rfl (ws' (d:=22) E rfl rfl rfl rfl b) rfl rfl (fun w hW=>wF E rfl rfl rfl (B w)) fun a E=>?_
        have D:=yX C (fun _ _ _ h=>rB h)
        refine fk 1 E (kc 22 rfl b) rfl fun a E=>fa E rfl (ws' (d:=22) E rfl rfl rfl rfl b) rfl rfl rfl rfl D U9 rfl fun a E=>fk 4 E (kc' (kc 22 rfl b) 19 rfl e) rfl fun a E=>bR<|?_
        clear hI
        exact aD<|have H:=H.drop 0;⟨_,_,E.to rfl,H,(Y2 c),hm⟩
      ·refine fk 15 E (kc 19 rfl e) rfl fun a E=>bR<|?_
       clear hI
       exact aD<|have H:=H.drop 0;⟨_,_,E.to rfl,H,(Y2 c),hm⟩
     ·clear E H hm
      rintro a w ⟨t,o,E,H,u,hm⟩
      unfold uA at hm
      refine wif E hm rfl (fun hm=>?_) fun hm=>?_
      ·exact wp_region_lit<|pr 2 E rfl fun a E=>wpList_nil<|bY<|aD<|⟨_,_,E.to rfl,H,u,hm⟩
      ·exact wp_skip<|bY<|aD<|⟨_,_,E.to rfl,H,u,hm⟩
    ·clear E H hm
     rintro a w ⟨x,n,E,H,F,hm⟩
     unfold xH at hm
     exact wp_region_lit<|pr 2 E rfl fun a E=>nt<|⟨l,Nat.lt_succ_self l,X3 ⟨E.to rfl,H,F,hm⟩⟩
   ·refine wp_exit<|bH<|bH<|dZ<|aD<|wp_seq<|sq<|pr 1 E rfl fun a E=>bd hm fun O G hm=>?_
    refine xk E rfl rfl rfl rfl rfl Kw (xE H (c _ p) G) fun w H a E=>pr 1 E rfl fun a E=>nt<|wif E hm rfl (fun hm=>?_) fun hm=>?_
    ·refine sq<|pr 1 E rfl fun a E=>nt<|wp_ret<|aP<|bB E rfl rfl<|?_
     cases hm
     exact ⟨rfl,H.reads c⟩
    ·refine wp_skip<|aD<|sq<|pr 2 E rfl fun a E=>nt<|wp_ret<|bB E rfl rfl<|?_
     cases hm
     exact ⟨rfl,H.reads c⟩

def w4(e:ByteArray)(b:List aH)(f:ByteArray):Option Bool:=
  (qL b e).bind fun c=>if (decide (c ≥ 0))=true then ((idx b c).bind fun d=>some (sEq d.Prefix f)) else (some (false))
theorem W7{o e:ByteArray}{f g:Nat}{i:Value}{p:List aH}(H:Sep w (Blk f 54 [i]::Blk g 9 [.string e]::Fo) rs)(c:rSl aR i p ∈ rs){r:Bool}(hm:w4 o p e=some r) :
    Calls Tryz.prog 112 [.string o,pt f 0,pt g 0].toArray w (Ret fun v w'=>.bool r=v∧Sep w' (Blk f 54 [i]::Blk g 9 [.string e]::Fo) (rs)):=by
 unfold w4 at hm
 refine ent Tryz.func112 rfl Tryz.ntmps112 rfl rfl fun a E=>sq<|pr 1 E rfl fun a E=>nx<|lb E H 0 rfl rfl rfl rfl rfl rfl rfl U54 rfl fun a E=>pr 1 E rfl fun a E=>bd hm fun x q hm=>xk E rfl rfl rfl rfl rfl Ef (wL H c q) fun w H a E=>pr 1 E rfl fun a E=>?_
 refine nt<|wp_seq<|?_
 obtain ⟨s,H⟩:=H.raw c
 refine dw [(0,0),(1,0),(2,0),(3,0),(4,0),(5,0),(6,0),(7,0),(8,0),(9,0),(10,0),(11,2)] [0,1] [0] H (by kernel_rfl) (fun _ _ _ h=>False.elim h.2) fun w W0 hI H=>fn 3 E rfl fun a E=>cs hm (fun b hm=>?_) fun b hm=>?_
 ·refine fb E rfl (ws' (d:=11) E rfl rfl rfl rfl b) rfl rfl rfl rfl m0 rfl U54 rfl fun a E=>fk 1 E (kc 11 rfl b) rfl fun a E=>bd hm fun t j hm=>?_
  obtain ⟨q14,u,l,m⟩:=sW (P:=Tryz.prog) (k:=.i64) hI (sV (.head _)) U54 iU j
  refine cB E rfl (ws' (d:=11) E rfl rfl rfl rfl b) rfl rfl (fun w hW=>wF E rfl rfl rfl (l w)) fun a E=>?_
  have n:=yX m (fun _ _ _ h=>rB h)
  refine fk 1 E (kc 11 rfl b) rfl fun a E=>fa E rfl (ws' (d:=11) E rfl rfl rfl rfl b) rfl rfl rfl rfl n U9 rfl fun a E=>fb E rfl (ws' (d:=11) E rfl rfl rfl rfl b) rfl rfl rfl rfl mm1 rfl U9 rfl fun a E=>fk 2 E (kc 11 rfl b) rfl fun a E=>bQ rfl<|pr 1 E rfl fun a E=>nt<|bR<|?_
  clear hI
  refine aD<|wp_ret<|bB E rfl rfl<|?_
  cases hm
  exact ⟨rfl,H.reads (Y1 Y0)⟩
 ·refine fk 8 E (kc 11 rfl b) rfl fun a E=>bQ rfl<|pr 1 E rfl fun a E=>nt<|bR<|?_
  clear hI
  refine aD<|wp_ret<|bB E rfl rfl<|?_
  cases hm
  exact ⟨rfl,H.reads (Y1 Y0)⟩

def wM(d:List aH)(e:ByteArray)(b:ByteArray):Option Bool:=
  (w4 b d e).bind fun c=>some (c)
def G9(x1:aF)(c:List aH)(d:ByteArray):Option Bool:=
  (pA x1.Path).bind fun b=>if (!b.2)=true then (wM c d (ByteArray.mk #[47])) else (wM c d b.1)
theorem Ja{x1:aF}{e c d:Nat}{j:Value}{k:List aH}{f:ByteArray}(H:Sep w (Blk e 96 [.func (.func 112) #[] #[pt c 0,pt d 0]]::Blk c 54 [j]::Blk d 9 [.string f]::Fo) rs)(n:rSl aR j k ∈ rs){r:Bool}(hm:G9 x1 k f=some r) :
    Calls Tryz.prog 114 [.agg (kJ x1).toArray,pt e 0].toArray w (Ret fun v w'=>.bool r=v∧Sep w' (Blk e 96 [.func (.func 112) #[] #[pt c 0,pt d 0]]::Blk c 54 [j]::Blk d 9 [.string f]::Fo) (rs)):=by
 unfold G9 at hm
 refine ent Tryz.func114 rfl Tryz.ntmps114 rfl rfl fun a E=>sq<|bS E H (wn rfl) rfl rfl rfl rfl rfl fun q w a H E=>pr 1 E rfl fun a E=>nx<|pr 1 E rfl fun a E=>lb E H 0 rfl rfl rfl rfl rfl rfl rfl U9 rfl fun a E=>bd hm fun o l hm=>xk E rfl rfl rfl rfl rfl Ji (w3 H l) fun w H a E=>?_
 refine pr 5 E rfl fun a E=>nt<|aT (fun a w=>∃ g b,Env 17 a [(1,pt e 0),(4,.string g)]∧Sep w (Blk e 96 [.func (.func 112) #[] #[pt c 0,pt d 0]]::Blk c 54 [j]::Blk d 9 [.string f]::Fo) b∧(∀ r,r ∈ rs→r ∈ b)∧wM k f g=some r) ?_ ?_
 ·refine sq<|pr 2 E rfl fun a E=>nt<|wif E hm rfl (fun hm=>?_) fun hm=>?_
  ·exact wp_region_lit<|pr 1 E rfl fun a E=>nt<|have H:=H.drop 0;⟨_,_,E.to rfl,H,Y0,hm⟩
  ·exact wp_skip<|aD<|have H:=H.drop 0;⟨_,_,E.to rfl,H,Y0,hm⟩
 ·clear E H hm
  rintro a w ⟨g,b,E,H,i,hm⟩
  unfold wM at hm
  refine sq<|lb E H 0 rfl rfl rfl rfl rfl rfl rfl U96 rfl fun a E=>pr 1 E rfl fun a E=>have H:=H.frs [0,2,2] rfl;bd hm fun p m hm=>aX E (wn rfl) rfl rfl (bP E rfl rfl rfl (Xu _)) (W7 H (i _ n) m)<|?_
  rintro _ w ⟨rfl,H⟩ a E
  refine pr 1 E rfl fun a E=>nt<|wp_ret<|bB E rfl rfl<|have H:=H.frs [1,1,2] rfl;?_
  cases hm
  exact ⟨rfl,H.reads i⟩

def nE(rec_1:(List aF)→(List aF)→Int→Option ((List aF)×(List aF)))(b:Int)(c:(List aF))(d:(List aF)):Option ((List aF)×(List aF)):=
  rec_1 c d (IntKind.i64.wrap (b+1))
def iB(f:List aF)(g:List aH)(i:ByteArray):Nat→(List aF)→(List aF)→Int→Option ((List aF)×(List aF))
  | 0,_,_,_=>none
  | j+1,c,d,e=>
    if (decide (e < (f.length:Int)))=true then ((idx f e).bind fun b=>(G9 b g i).bind fun k=>if k=true then ((ck (c.length+([b]:List aF).length ≤ LIM)).bind fun l=>nE (iB f g i j) e (c ++ ([b]:List aF)) d) else ((ck (d.length+([b]:List aF).length ≤ LIM)).bind fun m=>nE (iB f g i j) e c (d ++ ([b]:List aF)))) else (some (c,d))
def tO(b:List aF)(c:List aH)(d:ByteArray):Option ((List aF)×(List aF)):=
  iB b c d (((b.length:Int) - 0:Int).toNat+1) [] [] 0
theorem M1{D q:Value}{k:List aF}{l f g:Nat}{F:List aH}{m:ByteArray}(H:Sep w (Blk l 96 [.func (.func 112) #[] #[pt f 0,pt g 0]]::Blk f 54 [q]::Blk g 9 [.string m]::Fo) rs)(G:rSl aG D k ∈ rs)(I:rSl aR q F ∈ rs){r:(List aF)×(List aF)}(hm:tO k F m=some r) :
    Calls Tryz.prog 113 [D,.func (.func 114) #[] #[pt l 0]].toArray w (Ret fun v w'=>∃ O P,.tuple #[O,P]=v∧Sep w' (Row 62 aG O r.1::Row 62 aG P r.2::Blk l 96 [.func (.func 112) #[] #[pt f 0,pt g 0]]::Blk f 54 [q]::Blk g 9 [.string m]::Fo) (rs)):=by
 unfold tO at hm
 refine ent Tryz.func113 rfl Tryz.ntmps113 rfl rfl fun a E=>sq<|pr 2 E rfl fun a E=>nx<|pr 2 E rfl fun a E=>nt<|wp_seq<|sq<|pr 1 E rfl fun a E=>?_
 refine sv E rfl rfl rfl (dB E H rfl rfl G U28) fun a E=>pr 1 E rfl fun a E=>nt<|wp_block<|cA (fun n a w=>∃ s t u y j o,Env 30 a [(1,.func (.func 114) #[] #[pt l 0]),(6,s),(7,t),(10,D),(11,.int .i64 (k.length:Int)),(12,.int .i64 j)]∧Sep w (Blk l 96 [.func (.func 112) #[] #[pt f 0,pt g 0]]::Row 62 aG s u::Row 62 aG t y::Blk f 54 [q]::Blk g 9 [.string m]::Fo) o∧(∀ r,r ∈ rs→r ∈ o)∧iB k F m n u y j=some r) (((k.length:Int) - 0:Int).toNat+1) ?_ ?_
 ·exact have H:=H.nilRow 62 aG;have H:=H.nilRow 62 aG;have H:=H.frs [4,4,2,3,4] rfl;X6 ⟨E.to rfl,H,Y0,hm⟩
 ·clear E H hm
  rintro n a w ⟨s,t,u,y,j,o,E,H,c,hm⟩
  cases n with
  | zero=>exact (bW hm rfl).elim
  | succ n=>
   unfold iB at hm
   refine sq<|pr 1 E rfl fun a E=>nt<|wp_seq<|wif E hm rfl (fun hm=>?_) fun hm=>?_
   ·refine wp_skip<|aD<|aT (fun a w=>∃ z A B C p,Env 30 a [(1,.func (.func 114) #[] #[pt l 0]),(6,z),(7,A),(10,D),(11,.int .i64 (k.length:Int)),(12,.int .i64 j)]∧Sep w (Blk l 96 [.func (.func 112) #[] #[pt f 0,pt g 0]]::Row 62 aG z B::Row 62 aG A C::Blk f 54 [q]::Blk g 9 [.string m]::Fo) p∧(∀ r,r ∈ rs→r ∈ p)∧nE (iB k F m n) j B C=some r) ?_ ?_
    ·refine wp_block<|sq<|bd hm fun b J hm=>dF E H (wn rfl) rfl rfl rfl rfl rfl (c _ G) U28 kN J fun q26 a H E=>ldf cQ E H rfl rfl rfl rfl rfl m0 U62 rfl kN fun a E=>al E H rfl rfl rfl rfl Vg fun Q w a H E=>bC (i:=0) E H (wn rfl) rfl rfl rfl rfl rfl rfl kN rfl rfl fun w H=>nx<|pr 1 E rfl fun a E=>?_
     refine sv E rfl rfl rfl (cD (i:=0) (us:=(kJ b)) E H rfl rfl rfl rfl U62 rfl kN) fun a E=>have H:=H.frs [3,3,2,5,5,5] rfl;bd hm fun R K hm=>aX E (wn rfl) rfl rfl (bP E rfl rfl rfl (JB _)) (Ja H (t1 (c _ I)) K)<|?_
     rintro _ w ⟨rfl,H⟩ a E
     refine nt<|wif E hm rfl (fun hm=>?_) fun hm=>?_
     ·refine wp_region_lit<|pr 1 E rfl fun a E=>sv E rfl rfl rfl (cD (i:=3) (us:=(kJ b)) E H rfl rfl rfl rfl U62 rfl kN) fun a E=>sT (e:=62) (d:=aG) (cs:=[.string b.Path,.string b.Data,.int .i64 b.Version,.int .i64 b.Turn,.int .i64 b.Owner]) (xs:=[b]) E H (wn rfl) rfl rfl rfl (E.evs rfl) (by kernel_rfl) rfl (fun ok hr=>(Rows.single (d:=aG) (cs:=[.string b.Path,.string b.Data,.int .i64 b.Version,.int .i64 b.Turn,.int .i64 b.Owner]) (x:=b) xB)) fun S w a H E=>bk hm fun L hm=>eU (i:=4) E H (wn rfl) rfl rfl rfl rfl rfl rfl (lD m0) U28 Jp rfl L rfl fun T w a H E=>pr 1 E rfl fun a E=>wpList_nil<|bY<|?_
      exact aD<|have H:=H.drop 3;have H:=H.frs [2,2,4,4,4] rfl;X5 ⟨E.to rfl,H,(Y2 c),hm⟩
     ·refine wp_region_lit<|pr 1 E rfl fun a E=>sv E rfl rfl rfl (cD (i:=3) (us:=(kJ b)) E H rfl rfl rfl rfl U62 rfl kN) fun a E=>sT (e:=62) (d:=aG) (cs:=[.string b.Path,.string b.Data,.int .i64 b.Version,.int .i64 b.Turn,.int .i64 b.Owner]) (xs:=[b]) E H (wn rfl) rfl rfl rfl (E.evs rfl) (by kernel_rfl) rfl (fun ok hr=>(Rows.single (d:=aG) (cs:=[.string b.Path,.string b.Data,.int .i64 b.Version,.int .i64 b.Turn,.int .i64 b.Owner]) (x:=b) xB)) fun U w a H E=>bk hm fun M hm=>eU (i:=5) E H (wn rfl) rfl rfl rfl rfl rfl rfl (lD m0) U28 Jp rfl M rfl fun V w a H E=>pr 1 E rfl fun a E=>wpList_nil<|bY<|?_
      exact aD<|have H:=H.drop 3;have H:=H.frs [2,2,4,4,4] rfl;X5 ⟨E.to rfl,H,(Y2 c),hm⟩
    ·clear E H hm
     rintro a w ⟨z,A,B,C,p,E,H,N,hm⟩
     unfold nE at hm
     exact wp_region_lit<|pr 2 E rfl fun a E=>nt<|⟨n,Nat.lt_succ_self n,X6 ⟨E.to rfl,H,N,hm⟩⟩
   ·refine wp_exit<|bH<|bH<|dZ<|aD<|sq<|pr 4 E rfl fun a E=>nt<|wp_ret<|?_
    refine iE E rfl rfl rfl<|have H:=H.frs [4,4,2,4,4] rfl;?_
    cases hm
    exact ⟨_,_,rfl,H.reads c⟩

def H8(x1:aI)(c:List aH)(d:ByteArray):Option Bool:=
  (w4 x1.Dir c d).bind fun b=>some (b)
theorem Jb{x1:aI}{d b c:Nat}{e:Value}{i:List aH}{f:ByteArray}(H:Sep w (Blk d 96 [.func (.func 112) #[] #[pt b 0,pt c 0]]::Blk b 54 [e]::Blk c 9 [.string f]::Fo) rs)(j:rSl aR e i ∈ rs){r:Bool}(hm:H8 x1 i f=some r) :
    Calls Tryz.prog 117 [.agg #[.string x1.Dir,.int .i64 x1.Next],pt d 0].toArray w (Ret fun v w'=>.bool r=v∧Sep w' (Blk d 96 [.func (.func 112) #[] #[pt b 0,pt c 0]]::Blk b 54 [e]::Blk c 9 [.string f]::Fo) (rs)):=by
 unfold H8 at hm
 refine ent Tryz.func117 rfl Tryz.ntmps117 rfl rfl fun a E=>sq<|bS E H (wn rfl) rfl rfl rfl rfl rfl fun l w a H E=>pr 1 E rfl fun a E=>nx<|lb E H 1 rfl rfl rfl rfl rfl rfl rfl U96 rfl fun a E=>pr 1 E rfl fun a E=>lb E H 0 rfl rfl rfl rfl rfl rfl rfl U9 rfl fun a E=>have H:=H.frs [1,1,3,3] rfl;?_
 refine bd hm fun k g hm=>aX E (wn rfl) rfl rfl (bP E rfl rfl rfl (Xu _)) (W7 H j g)<|?_
 rintro _ w ⟨rfl,H⟩ a E
 refine pr 1 E rfl fun a E=>nt<|wp_ret<|bB E rfl rfl<|have H:=H.drop 2;have H:=H.frs [1,1,2] rfl;?_
 cases hm
 exact ⟨rfl,H.reads Y0⟩

def nF(rec_1:(List aI)→(List aI)→Int→Option ((List aI)×(List aI)))(b:Int)(c:(List aI))(d:(List aI)):Option ((List aI)×(List aI)):=
  rec_1 c d (IntKind.i64.wrap (b+1))
def iC(f:List aI)(g:List aH)(i:ByteArray):Nat→(List aI)→(List aI)→Int→Option ((List aI)×(List aI))
  | 0,_,_,_=>none
  | j+1,c,d,e=>
    if (decide (e < (f.length:Int)))=true then ((idx f e).bind fun b=>(H8 b g i).bind fun k=>if k=true then ((ck (c.length+([b]:List aI).length ≤ LIM)).bind fun l=>nF (iC f g i j) e (c ++ ([b]:List aI)) d) else ((ck (d.length+([b]:List aI).length ≤ LIM)).bind fun m=>nF (iC f g i j) e c (d ++ ([b]:List aI)))) else (some (c,d))
def tP(b:List aI)(c:List aH)(d:ByteArray):Option ((List aI)×(List aI)):=
  iC b c d (((b.length:Int) - 0:Int).toNat+1) [] [] 0
theorem M2{D q:Value}{k:List aI}{l f g:Nat}{F:List aH}{m:ByteArray}(H:Sep w (Blk l 96 [.func (.func 112) #[] #[pt f 0,pt g 0]]::Blk f 54 [q]::Blk g 9 [.string m]::Fo) rs)(G:rSl aK D k ∈ rs)(I:rSl aR q F ∈ rs){r:(List aI)×(List aI)}(hm:tP k F m=some r) :
    Calls Tryz.prog 116 [D,.func (.func 117) #[] #[pt l 0]].toArray w (Ret fun v w'=>∃ O P,.tuple #[O,P]=v∧Sep w' (Row 85 aK O r.1::Row 85 aK P r.2::Blk l 96 [.func (.func 112) #[] #[pt f 0,pt g 0]]::Blk f 54 [q]::Blk g 9 [.string m]::Fo) (rs)):=by
 unfold tP at hm
 refine ent Tryz.func116 rfl Tryz.ntmps116 rfl rfl fun a E=>sq<|pr 2 E rfl fun a E=>nx<|pr 2 E rfl fun a E=>nt<|wp_seq<|sq<|pr 1 E rfl fun a E=>?_
 refine sv E rfl rfl rfl (dB E H rfl rfl G U29) fun a E=>pr 1 E rfl fun a E=>nt<|wp_block<|cA (fun n a w=>∃ s t u y j o,Env 30 a [(1,.func (.func 117) #[] #[pt l 0]),(6,s),(7,t),(10,D),(11,.int .i64 (k.length:Int)),(12,.int .i64 j)]∧Sep w (Blk l 96 [.func (.func 112) #[] #[pt f 0,pt g 0]]::Row 85 aK s u::Row 85 aK t y::Blk f 54 [q]::Blk g 9 [.string m]::Fo) o∧(∀ r,r ∈ rs→r ∈ o)∧iC k F m n u y j=some r) (((k.length:Int) - 0:Int).toNat+1) ?_ ?_
 ·exact have H:=H.nilRow 85 aK;have H:=H.nilRow 85 aK;have H:=H.frs [4,4,2,3,4] rfl;X6 ⟨E.to rfl,H,Y0,hm⟩
 ·clear E H hm
  rintro n a w ⟨s,t,u,y,j,o,E,H,c,hm⟩
  cases n with
  | zero=>exact (bW hm rfl).elim
  | succ n=>
   unfold iC at hm
   refine sq<|pr 1 E rfl fun a E=>nt<|wp_seq<|wif E hm rfl (fun hm=>?_) fun hm=>?_
   ·refine wp_skip<|aD<|aT (fun a w=>∃ z A B C p,Env 30 a [(1,.func (.func 117) #[] #[pt l 0]),(6,z),(7,A),(10,D),(11,.int .i64 (k.length:Int)),(12,.int .i64 j)]∧Sep w (Blk l 96 [.func (.func 112) #[] #[pt f 0,pt g 0]]::Row 85 aK z B::Row 85 aK A C::Blk f 54 [q]::Blk g 9 [.string m]::Fo) p∧(∀ r,r ∈ rs→r ∈ p)∧nF (iC k F m n) j B C=some r) ?_ ?_
    ·refine wp_block<|sq<|bd hm fun b J hm=>dF E H (wn rfl) rfl rfl rfl rfl rfl (c _ G) U29 rN J fun q26 a H E=>ldf eD E H rfl rfl rfl rfl rfl m0 U85 rfl rN fun a E=>al E H rfl rfl rfl rfl LK fun Q w a H E=>bC (i:=0) E H (wn rfl) rfl rfl rfl rfl rfl rfl rN rfl rfl fun w H=>nx<|pr 1 E rfl fun a E=>?_
     refine sv E rfl rfl rfl (cD (i:=0) (us:=[.string b.Dir,.int .i64 b.Next]) E H rfl rfl rfl rfl U85 rfl rN) fun a E=>have H:=H.frs [3,3,2,5,5,5] rfl;bd hm fun R K hm=>aX E (wn rfl) rfl rfl (bP E rfl rfl rfl (JD _)) (Jb H (t1 (c _ I)) K)<|?_
     rintro _ w ⟨rfl,H⟩ a E
     refine nt<|wif E hm rfl (fun hm=>?_) fun hm=>?_
     ·refine wp_region_lit<|pr 1 E rfl fun a E=>sv E rfl rfl rfl (cD (i:=3) (us:=[.string b.Dir,.int .i64 b.Next]) E H rfl rfl rfl rfl U85 rfl rN) fun a E=>sT (e:=85) (d:=aK) (cs:=[.string b.Dir,.int .i64 b.Next]) (xs:=[b]) E H (wn rfl) rfl rfl rfl (E.evs rfl) (by kernel_rfl) rfl (fun ok hr=>(Rows.single (d:=aK) (cs:=[.string b.Dir,.int .i64 b.Next]) (x:=b) tV)) fun S w a H E=>bk hm fun L hm=>eU (i:=4) E H (wn rfl) rfl rfl rfl rfl rfl rfl (lD m0) U29 Jq rfl L rfl fun T w a H E=>pr 1 E rfl fun a E=>wpList_nil<|bY<|?_
      exact aD<|have H:=H.drop 3;have H:=H.frs [2,2,4,4,4] rfl;X5 ⟨E.to rfl,H,(Y2 c),hm⟩
     ·refine wp_region_lit<|pr 1 E rfl fun a E=>sv E rfl rfl rfl (cD (i:=3) (us:=[.string b.Dir,.int .i64 b.Next]) E H rfl rfl rfl rfl U85 rfl rN) fun a E=>sT (e:=85) (d:=aK) (cs:=[.string b.Dir,.int .i64 b.Next]) (xs:=[b]) E H (wn rfl) rfl rfl rfl (E.evs rfl) (by kernel_rfl) rfl (fun ok hr=>(Rows.single (d:=aK) (cs:=[.string b.Dir,.int .i64 b.Next]) (x:=b) tV)) fun U w a H E=>bk hm fun M hm=>eU (i:=5) E H (wn rfl) rfl rfl rfl rfl rfl rfl (lD m0) U29 Jq rfl M rfl fun V w a H E=>pr 1 E rfl fun a E=>wpList_nil<|bY<|?_
      exact aD<|have H:=H.drop 3;have H:=H.frs [2,2,4,4,4] rfl;X5 ⟨E.to rfl,H,(Y2 c),hm⟩
    ·clear E H hm
     rintro a w ⟨z,A,B,C,p,E,H,N,hm⟩
     unfold nF at hm
     exact wp_region_lit<|pr 2 E rfl fun a E=>nt<|⟨n,Nat.lt_succ_self n,X6 ⟨E.to rfl,H,N,hm⟩⟩
   ·refine wp_exit<|bH<|bH<|dZ<|aD<|sq<|pr 4 E rfl fun a E=>nt<|wp_ret<|?_
    refine iE E rfl rfl rfl<|have H:=H.frs [4,4,2,4,4] rfl;?_
    cases hm
    exact ⟨_,_,rfl,H.reads c⟩

def zU(x1:aW)(d:List aH)(e:ByteArray)(f:Bool):Option ((List aF)×(List aI)×(List aF)×(List aI)):=
  if f=true then (some ([],[],[],[])) else ((tO x1.Nodes d e).bind fun b=>(tP x1.Turns d e).bind fun c=>some (b.1,c.1,b.2,c.2))
def xR(x1:aW)(b:List aH)(c:ByteArray):Option ((List aF)×(List aI)×(List aF)×(List aI)):=
  (mY x1).bind fun d=>if (!d)=true then (zU x1 b c true) else ((nD b).bind fun e=>zU x1 b c (!e))
theorem lP{x1:aW}{l m L:Value}{n:List aH}{o:ByteArray}(H:Sep w (Fo) rs)(p:rSl aG l x1.Nodes ∈ rs)(q:rSl aK m x1.Turns ∈ rs)(f:rSl aR L n ∈ rs){r:(List aF)×(List aI)×(List aF)×(List aI)}(hm:xR x1 n o=some r) :
    Calls Tryz.prog 47 [.agg #[l,m],L,.string o].toArray w (Ret fun v w'=>∃ M N O P,.tuple #[.agg #[M,N],.agg #[O,P]]=v∧Sep w' (Row 62 aG M r.1::Row 85 aK N r.2.1::Row 62 aG O r.2.2.1::Row 85 aK P r.2.2.2::Fo) (rs)):=by
 unfold xR at hm
 refine ent Tryz.func47 rfl Tryz.ntmps47 rfl rfl fun a E=>sq<|bS E H (wn rfl) rfl rfl rfl rfl rfl fun s w a H E=>?_
 obtain ⟨q12,Q,rfl⟩:=H.slform f
 refine bS E H (wn rfl) rfl rfl rfl rfl rfl fun t w a H E=>bS E H (wn rfl) rfl rfl rfl rfl rfl fun u w a H E=>al E H rfl rfl rfl rfl lR fun x w a H E=>al E H rfl rfl rfl rfl lR fun y w a H E=>nx<|al E H rfl rfl rfl rfl lR fun z w a H E=>al E H rfl rfl rfl rfl lR fun A w a H E=>nt<|wp_seq<|aT (fun a w=>∃ k e,Env 42 a [(3,pt s 0),(4,pt t 0),(5,pt u 0),(6,pt x 0),(7,pt y 0),(8,pt z 0),(9,pt A 0),(18,.bool k)]∧Sep w (Blk s 31 [l,m]::Blk t 54 [(.slice q12 n.length Q)]::Blk u 9 [.string o]::Blk x 31 [.slice none 0 0,.slice none 0 0]::Blk y 31 [.slice none 0 0,.slice none 0 0]::Blk z 31 [.slice none 0 0,.slice none 0 0]::Blk A 31 [.slice none 0 0,.slice none 0 0]::Fo) e∧(∀ r,r ∈ rs→r ∈ e)∧zU x1 n o k=some r) ?_ ?_
 ·refine wp_region_lit<|sv E rfl rfl rfl (cD (i:=6) (us:=[l,m]) E H rfl rfl rfl rfl U31 rfl dP) fun a E=>bd hm fun R G hm=>xk E rfl rfl rfl rfl rfl Pf (B2 H p q G) fun w H a E=>pr 2 E rfl fun a E=>cs hm (fun c hm=>?_) fun c hm=>?_
  ·exact pk 4 E (kc 14 rfl c) rfl fun a E=>nt<|have H:=H.frs [0,1,2,3,4,5,6] rfl;⟨_,_,E.to rfl,H,Y0,hm⟩
  ·refine aQ E (ws' (d:=14) E rfl rfl rfl rfl c) rfl rfl (bT (i:=5) E H rfl rfl rfl rfl U54 rfl) fun a E=>bd hm fun S I hm=>aX E (ws' (d:=14) E rfl rfl rfl rfl c) rfl rfl (cG E rfl rfl (Kw _)) (xE H f I)<|?_
   rintro _ w ⟨rfl,H⟩ a E
   exact pk 2 E (kc 14 rfl c) rfl fun a E=>nt<|have H:=H.frs [0,1,2,3,4,5,6] rfl;⟨_,_,E.to rfl,H,Y0,hm⟩
 ·clear E H hm
  rintro a w ⟨k,e,E,H,b,hm⟩
  unfold zU at hm
  refine wif E hm rfl (fun hm=>?_) fun hm=>?_
  ·refine wp_seq<|dw [(0,0),(1,0),(2,1),(3,2)] [5,6] [] H (by kernel_rfl) (fun _ _ _ h=>False.elim h.2) fun w W0 hI H=>fbn E [.slice none 0 0,.slice none 0 0] rfl (wn rfl) rfl rfl rfl rfl m0 rfl U31 rfl dP fun a E=>fbn E [.slice none 0 0,.slice none 0 0] rfl (wn rfl) rfl rfl rfl rfl mm1 rfl U31 rfl dP fun a E=>cE rfl<|bC (i:=3) E H (wn rfl) rfl rfl rfl rfl rfl rfl dP rfl rfl fun w H=>nt<|?_
   refine ⟨⟨_,_,H,(aB mm5 (aB mm6 (aL))),(aN)⟩,?_⟩
   refine bQ rfl<|bC (i:=4) E H (wn rfl) rfl rfl rfl rfl rfl rfl dP rfl rfl fun w H=>nt<|bR<|?_
   clear hI
   refine aD<|wp_ret<|aP<|uX E rfl (dH (i:=3) (us:=[.slice none 0 0,.slice none 0 0]) H rfl rfl rfl U31 rfl dP) (dH (i:=4) (us:=[.slice none 0 0,.slice none 0 0]) H rfl rfl rfl U31 rfl dP)<|have H:=H.nilRow 62 aG;have H:=H.nilRow 85 aK;have H:=H.nilRow 62 aG;have H:=H.nilRow 85 aK;have H:=H.drs [4,4,4,4,4,4,4];?_
   refine have H:=H.frs [0,1,2,3] rfl;?_
   cases hm
   exact X4 ⟨rfl,H.reads b⟩
  ·refine wp_skip<|aD<|sq<|sv E rfl rfl rfl (kH E rfl rfl rfl) fun a E=>al1 E H rfl rfl rfl rfl LI rfl fun T w a H E=>bC (i:=0) E H (wn rfl) rfl rfl rfl rfl rfl rfl LJ rfl rfl fun w H=>nx<|pr 1 E rfl fun a E=>lb E H 1 rfl rfl rfl rfl rfl rfl rfl U28 rfl fun a E=>?_
   refine sv E rfl rfl rfl (kH E rfl rfl rfl) fun a E=>have H:=H.frs [7,7,7,7,5,7,7,7] rfl;bd hm fun g J hm=>cJ E rfl rfl rfl rfl rfl JA (M1 H (b _ p) (b _ f) J)<|?_
   rintro _ w ⟨U,V,rfl,H⟩ a E
   refine pr 4 E rfl fun a E=>?_
   obtain ⟨q27,B,rfl⟩:=H.rowform (i:=0) rfl
   refine bC (i:=8) E H (wn rfl) rfl rfl rfl rfl rfl rfl Gz rfl rfl fun w H=>pr 1 E rfl fun a E=>?_
   obtain ⟨q29,C,rfl⟩:=H.rowform (i:=1) rfl
   refine bC (i:=9) E H (wn rfl) rfl rfl rfl rfl rfl rfl Gz rfl rfl fun w H=>nx<|pr 1 E rfl fun a E=>lb E H 5 rfl rfl rfl rfl rfl rfl rfl U29 rfl fun a E=>sv E rfl rfl rfl (kH E rfl rfl rfl) fun a E=>have H:=H.frs [9,9,9,9,9,6,6,9,9,9] rfl;bd hm fun j K hm=>cJ E rfl rfl rfl rfl rfl JC (M2 H (b _ q) (b _ f) K)<|?_
   rintro _ w ⟨W,X,rfl,H⟩ a E
   refine pr 4 E rfl fun a E=>?_
   obtain ⟨q35,D,rfl⟩:=H.rowform (i:=0) rfl
   refine bC (i:=10) E H (wn rfl) rfl rfl rfl rfl rfl rfl U1 rfl rfl fun w H=>pr 1 E rfl fun a E=>?_
   obtain ⟨q37,F,rfl⟩:=H.rowform (i:=1) rfl
   refine bC (i:=11) E H (wn rfl) rfl rfl rfl rfl rfl rfl U1 rfl rfl fun w H=>nt<|wp_seq<|dw [(0,0),(1,0),(2,1),(3,2)] [10,11] [] H (by kernel_rfl) (fun _ _ _ h=>False.elim h.2) fun w W0 hI H=>fbn E [(.slice q27 g.1.length B),(.slice q35 j.1.length D)] rfl (wn rfl) rfl rfl rfl rfl m0 rfl U31 rfl dP fun a E=>fbn E [(.slice q29 g.2.length C),(.slice q37 j.2.length F)] rfl (wn rfl) rfl rfl rfl rfl mm1 rfl U31 rfl dP fun a E=>cE rfl<|bC (i:=8) E H (wn rfl) rfl rfl rfl rfl rfl rfl dP rfl rfl fun w H=>nt<|?_
   refine ⟨⟨_,_,H,(aB (t4 mm6) (aB (t5 mm6) (aL))),(aN)⟩,?_⟩
   refine bQ rfl<|bC (i:=9) E H (wn rfl) rfl rfl rfl rfl rfl rfl dP rfl rfl fun w H=>nt<|bR<|?_
   clear hI
   refine aD<|wp_ret<|uX E rfl (dH (i:=8) (us:=[(.slice q27 g.1.length B),(.slice q35 j.1.length D)]) H rfl rfl rfl U31 rfl dP) (dH (i:=9) (us:=[(.slice q29 g.2.length C),(.slice q37 j.2.length F)]) H rfl rfl rfl U31 rfl dP)<|have H:=H.drs [2,2,2,4,4,4,4,4];have H:=H.frs [1,3,2,3] rfl;?_
   cases hm
   exact X4 ⟨rfl,H.reads b⟩

def nJ(b:ByteArray)(c:ByteArray):Option Int:=
  some (Extern.BytealgCompare.cmp b c)
theorem y0{b c:ByteArray}(H:Sep w (Fo) rs){r:Int}(hm:nJ b c=some r) :
    Calls Tryz.prog 125 [.string b,.string c].toArray w (Ret fun v w'=>.int .i64 r=v∧Sep w' (Fo) (rs)):=by
 unfold nJ at hm
 refine ent Tryz.func125 rfl Tryz.ntmps125 rfl rfl fun a E=>sq<|pr 1 E rfl fun a E=>nx<|pr 2 E rfl fun a E=>sv E rfl rfl rfl (Bm E rfl rfl (Sa _ _ _)) fun a E=>pr 1 E rfl fun a E=>nt<|wp_ret<|?_
 refine bB E rfl rfl<|?_
 cases hm
 exact ⟨rfl,H.reads Y0⟩

def mA(b:ByteArray)(c:ByteArray):Option Int:=
  (nJ b c).bind fun d=>some (d)
theorem rS{b c:ByteArray}(H:Sep w (Fo) rs){r:Int}(hm:mA b c=some r) :
    Calls Tryz.prog 53 [.string b,.string c].toArray w (Ret fun v w'=>.int .i64 r=v∧Sep w' (Fo) (rs)):=by
 unfold mA at hm
 refine ent Tryz.func53 rfl Tryz.ntmps53 rfl rfl fun a E=>sq<|pr 1 E rfl fun a E=>nx<|pr 2 E rfl fun a E=>bd hm fun e d hm=>xk E rfl rfl rfl rfl rfl IA (y0 H d) fun w H a E=>pr 1 E rfl fun a E=>nt<|?_
 refine wp_ret<|bB E rfl rfl<|?_
 cases hm
 exact ⟨rfl,H.reads Y0⟩

def zV(x1:aH)(b:ByteArray):Option Int:=
  (mA x1.Prefix b).bind fun c=>some (c)
theorem S1{x1:aH}{b:ByteArray}(H:Sep w (Fo) rs){r:Int}(hm:zV x1 b=some r) :
    Calls Tryz.prog 168 [.agg (mT x1).toArray,.string b].toArray w (Ret fun v w'=>.int .i64 r=v∧Sep w' (Fo) (rs)):=by
 unfold zV at hm
 refine ent Tryz.func168 rfl Tryz.ntmps168 rfl rfl fun a E=>sq<|bS E H (wn rfl) rfl rfl rfl rfl rfl fun d w a H E=>pr 1 E rfl fun a E=>nx<|pr 1 E rfl fun a E=>lb E H 0 rfl rfl rfl rfl rfl rfl rfl U9 rfl fun a E=>pr 1 E rfl fun a E=>bd hm fun e c hm=>?_
 refine xk E rfl rfl rfl rfl rfl Lg (rS H c) fun w H a E=>pr 1 E rfl fun a E=>nt<|wp_ret<|bB E rfl rfl<|have H:=H.drop 0;?_
 cases hm
 exact ⟨rfl,H.reads Y0⟩

def dN(c:List aH)(e:ByteArray):Nat→Int→Int→Option (Int×Bool)
  | 0,_,_=>none
  | f+1,b,d=>
    if (decide (b < d))=true then ((idx c (IntKind.i64.wrap (rM .u64 (IntKind.u64.wrap (IntKind.i64.wrap (b+d))) 1))).bind fun k=>(zV k e).bind fun g=>if (decide (g < 0))=true then (dN c e f (IntKind.i64.wrap ((IntKind.i64.wrap (rM .u64 (IntKind.u64.wrap (IntKind.i64.wrap (b+d))) 1))+1)) d) else (dN c e f b (IntKind.i64.wrap (rM .u64 (IntKind.u64.wrap (IntKind.i64.wrap (b+d))) 1)))) else (if (decide (b < (c.length:Int)))=true then ((idx c b).bind fun i=>(zV i e).bind fun j=>some (b,j == 0)) else (some (b,false)))
def gB(b:List aH)(c:ByteArray):Option (Int×Bool):=
  dN b c (((b.length:Int) - 0:Int).toNat+1) 0 (b.length:Int)
theorem rQ{k:Value}{f:List aH}{j:ByteArray}(H:Sep w (Fo) rs)(g:rSl aR k f ∈ rs){r:Int×Bool}(hm:gB f j=some r) :
    Calls Tryz.prog 119 [k,.string j,.func (.func 168) #[] #[]].toArray w (Ret fun v w'=>.tuple #[.int .i64 r.1,.bool r.2]=v∧Sep w' (Fo) (rs)):=by
 unfold gB at hm
 refine ent Tryz.func119 rfl Tryz.ntmps119 rfl rfl fun a E=>sq<|pr 2 E rfl fun a E=>nx<|pr 1 E rfl fun a E=>sv E rfl rfl rfl (dB E H rfl rfl g U54) fun a E=>pr 1 E rfl fun a E=>nx<|pr 3 E rfl fun a E=>?_
 refine nt<|wp_seq<|wp_block<|cA (fun e a w=>∃ l m i,Env 49 a [(0,k),(1,.string j),(2,.func (.func 168) #[] #[]),(8,.int .i64 (f.length:Int)),(9,.int .i64 l),(10,.int .i64 m)]∧Sep w (Fo) i∧(∀ r,r ∈ rs→r ∈ i)∧dN f j e l m=some r) (((f.length:Int) - 0:Int).toNat+1) ?_ ?_
 ·exact X3 ⟨E.to rfl,H,Y0,hm⟩
 ·clear E H hm
  rintro e a w ⟨l,m,i,E,H,c,hm⟩
  cases e with
  | zero=>exact (bW hm rfl).elim
  | succ e=>
   unfold dN at hm
   refine wp_seq<|sq<|pr 3 E rfl fun a E=>nt<|wif E hm rfl (fun hm=>?_) fun hm=>?_
   ·refine wp_skip<|aD<|wp_block<|sq<|pr 4 E rfl fun a E=>sv E rfl rfl rfl (T5 E rfl rfl rfl (by decide)) fun a E=>pr 2 E rfl fun a E=>nx<|pr 3 E rfl fun a E=>?_
    refine bd hm fun y n hm=>dF E H (wn rfl) rfl rfl rfl rfl rfl (c _ g) U54 iU n fun q11 a H E=>ldf jL E H rfl rfl rfl rfl rfl m0 U60 rfl iU fun a E=>pr 1 E rfl fun a E=>bd hm fun s o hm=>aX E (wn rfl) rfl rfl (bP E rfl rfl rfl (Xs _)) (S1 H o)<|?_
    rintro _ w ⟨rfl,H⟩ a E
    refine pr 1 E rfl fun a E=>nt<|wif E hm rfl (fun hm=>?_) fun hm=>?_
    ·exact wp_region_lit<|pr 3 E rfl fun a E=>wpList_nil<|bY<|aD<|⟨e,Nat.lt_succ_self e,X3 ⟨E.to rfl,H,(Y1 c),hm⟩⟩
    ·exact wp_region_lit<|pr 2 E rfl fun a E=>wpList_nil<|bY<|aD<|⟨e,Nat.lt_succ_self e,X3 ⟨E.to rfl,H,(Y1 c),hm⟩⟩
   ·refine wp_exit<|bH<|bH<|dZ<|aD<|sq<|pr 5 E rfl fun a E=>cs hm (fun b hm=>?_) fun b hm=>?_
    ·refine pk 3 E (kc 39 rfl b) rfl fun a E=>bd hm fun t p hm=>dF E H (ws' (d:=39) E rfl rfl rfl rfl b) rfl rfl rfl rfl rfl (c _ g) U54 iU p fun q17 a H E=>Z9 E H (ws' (d:=39) E rfl rfl rfl rfl b) rfl rfl rfl rfl m0 U60 rfl iU fun u a H E=>?_
     obtain ⟨_,hcs⟩:=H.rd (.head _)
     obtain rfl:=K6 hcs
     clear hcs
     refine pk 1 E (kc 39 rfl b) rfl fun a E=>bd hm fun x q hm=>aX E (ws' (d:=39) E rfl rfl rfl rfl b) rfl rfl (bP E rfl rfl rfl (Xs _)) (S1 H q)<|?_
     rintro _ w ⟨rfl,H⟩ a E
     refine pk 4 E (kc 39 rfl b) rfl fun a E=>nt<|wp_ret<|iE E rfl rfl rfl<|?_
     cases hm
     exact ⟨rfl,H.reads (Y2 c)⟩
    ·refine pk 11 E (kc 39 rfl b) rfl fun a E=>nt<|wp_ret<|iE E rfl rfl rfl<|?_
     cases hm
     exact ⟨rfl,H.reads c⟩

def zD(c:List aH)(d:ByteArray):Option (Int×Bool):=
  (gB c d).bind fun b=>some (b.1,b.2)
theorem L2{b:Value}{c:List aH}{d:ByteArray}(H:Sep w (Fo) rs)(e:rSl aR b c ∈ rs){r:Int×Bool}(hm:zD c d=some r) :
    Calls Tryz.prog 118 [b,.string d].toArray w (Ret fun v w'=>.tuple #[.int .i64 r.1,.bool r.2]=v∧Sep w' (Fo) (rs)):=by
 unfold zD at hm
 refine ent Tryz.func118 rfl Tryz.ntmps118 rfl rfl fun a E=>sq<|pr 2 E rfl fun a E=>nx<|pr 2 E rfl fun a E=>bd hm fun g f hm=>xk E rfl rfl rfl rfl rfl Xr (rQ H e f) fun w H a E=>pr 4 E rfl fun a E=>nt<|?_
 refine wp_ret<|iE E rfl rfl rfl<|?_
 cases hm
 exact ⟨rfl,H.reads Y0⟩

def zW(c:Int×Bool)(x3:aH)(b:(List aH)):Option ((List aH)×Bool):=
  (idx b c.1).bind fun d=>some (b.set c.1.toNat x3,true)
def zX(b:Int×Bool)(x3:aH)(c:List aH)(d:Bool):Option ((List aH)×Bool):=
  if d=true then (some ([],false)) else ((ck (c.length ≤ LIM)).bind fun e=>if (!b.2)=true then ((ck (0 ≤ b.1∧b.1 ≤ c.length∧c.length ≤ 1000000)).bind fun f=>zW b x3 (c.take b.1.toNat ++ x3::c.drop b.1.toNat)) else (zW b x3 c))
def u7(b:List aH)(x3:aH):Option ((List aH)×Bool):=
  (zD b x3.Prefix).bind fun c=>if (!c.2)=true then (zX c x3 b ((b.length:Int) == 32)) else (zX c x3 b false)
theorem P6{q:Value}{s:List aH}{x3:aH}(H:Sep w (Fo) rs)(j:rSl aR q s ∈ rs){r:(List aH)×Bool}(hm:u7 s x3=some r) :
    Calls Tryz.prog 110 [q,.agg (mT x3).toArray].toArray w (Ret fun v w'=>∃ A,.tuple #[A,.bool r.2]=v∧Sep w' (Row 60 aR A r.1::Fo) (rs)):=by
 unfold u7 at hm
 refine ent Tryz.func110 rfl Tryz.ntmps110 rfl rfl fun a E=>sq<|bS E H (wn rfl) rfl rfl rfl rfl rfl fun p w a H E=>pr 2 E rfl fun a E=>nx<|pr 2 E rfl fun a E=>lb E H 0 rfl rfl rfl rfl rfl rfl rfl U9 rfl fun a E=>bd hm fun k B hm=>xk E rfl rfl rfl rfl rfl Qd (L2 H j B) fun w H a E=>?_
 refine pr 5 E rfl fun a E=>nt<|wp_seq<|aT (fun a w=>∃ t l,Env 36 a [(0,q),(3,pt p 0),(6,.int .i64 k.1),(7,.bool k.2),(21,.bool t)]∧Sep w (Blk p 60 (mT x3)::Fo) l∧(∀ r,r ∈ rs→r ∈ l)∧zX k x3 s t=some r) ?_ ?_
 ·refine wp_region_lit<|pr 3 E rfl fun a E=>cs hm (fun b hm=>?_) fun b hm=>?_
  ·exact pk 1 E (kc 17 rfl b) rfl fun a E=>aQ E (ws' (d:=17) E rfl rfl rfl rfl b) rfl rfl (dB E H rfl rfl j U54) fun a E=>pk 2 E (kc 17 rfl b) rfl fun a E=>nt<|⟨_,_,E.to rfl,H,Y0,hm⟩
  ·exact pk 4 E (kc 17 rfl b) rfl fun a E=>nt<|⟨_,_,E.to rfl,H,Y0,hm⟩
 ·clear E H hm
  rintro a w ⟨t,l,E,H,c,hm⟩
  unfold zX at hm
  refine wif E hm rfl (fun hm=>?_) fun hm=>?_
  ·refine sq<|pr 2 E rfl fun a E=>nt<|wp_ret<|aP<|iE E rfl rfl rfl<|have H:=H.nilRow 60 aR;have H:=H.drop 1;?_
   cases hm
   exact ⟨_,rfl,H.reads c⟩
  ·refine wp_skip<|aD<|sq<|pr 1 E rfl fun a E=>bk hm fun u hm=>aX E (wn rfl) rfl rfl (cG E rfl rfl (DY _)) (oZ H (c _ j) u) fun C w H a E=>pr 1 E rfl fun a E=>nt<|aT (fun a w=>∃ m n f,Env 36 a [(0,m),(3,pt p 0),(6,.int .i64 k.1)]∧Sep w (Row 60 aR m n::Blk p 60 (mT x3)::Fo) f∧(∀ r,r ∈ rs→r ∈ f)∧zW k x3 n=some r) ?_ ?_
   ·refine sq<|pr 2 E rfl fun a E=>nt<|wif E hm rfl (fun hm=>?_) fun hm=>?_
    ·exact wp_region_lit<|pr 2 E rfl fun a E=>sv E rfl rfl rfl (cD (i:=1) (us:=(mT x3)) E H rfl rfl rfl rfl U60 rfl iU) fun a E=>hG (e:=60) (d:=aR) (cs:=[.string x3.Prefix,.int .i64 x3.Epoch,.int .i64 x3.State]) (xs:=[x3]) E H (wn rfl) rfl rfl rfl (E.evs rfl) (by kernel_rfl) rfl rfl (fun ok hr=>(Rows.single (d:=aR) (cs:=[.string x3.Prefix,.int .i64 x3.Epoch,.int .i64 x3.State]) (x:=x3) vF)) fun D w a H E=>bk hm fun y hm=>aX E (wn rfl) rfl rfl (cG E rfl rfl (Xt _)) (Ra.insert_a (ix:=1) (iu:=0) H rfl rfl (by decide) y) fun F w H a E=>pr 1 E rfl fun a E=>nt<|have H:=H.drop 0;X3 ⟨E.to rfl,H,c,hm⟩
    ·exact wp_skip<|aD<|X3 ⟨E.to rfl,H,c,hm⟩
   ·clear E H hm
    rintro a w ⟨m,n,f,E,H,z,hm⟩
    unfold zW at hm
    refine sq<|pr 2 E rfl fun a E=>sv E rfl rfl rfl (cD (i:=1) (us:=(mT x3)) E H rfl rfl rfl rfl U60 rfl iU) fun a E=>bd hm fun G g hm=>?_
    obtain ⟨I,J,o⟩:=H.rowformNE (i:=0) rfl g
    refine sv E rfl rfl rfl (dL (d:=aR) E o rfl rfl rfl rfl U54 iU g) fun a E=>z8 (d:=aR) (i:=0) (us:=[.string x3.Prefix,.int .i64 x3.Epoch,.int .i64 x3.State]) (z':=x3) E H jL (wn rfl) rfl o rfl rfl rfl rfl rfl rfl rfl g iU fun w H=>nx<|pr 3 E rfl fun a E=>nt<|wp_ret<|iE E rfl rfl rfl<|have H:=H.drop 1;?_
    cases hm
    exact ⟨_,rfl,H.reads z⟩

def uD(d:List aH)(e:ByteArray)(f:Int)(c:Bool):Option ((List aH)×Bool):=
  if c=true then (some ([],false)) else ((u7 d (⟨e,f,3⟩:aH)).bind fun b=>some (b.1,b.2))
def L3(b:List aH)(c:ByteArray)(d:Int):Option ((List aH)×Bool):=
  (nD b).bind fun i=>if (!i)=true then (some ([],false)) else ((zD b c).bind fun e=>if (!e.2)=true then (uD b c d true) else ((idx b e.1).bind fun f=>if (f.State != 2)=true then (uD b c d true) else ((idx b e.1).bind fun g=>uD b c d (g.Epoch != d))))
theorem Lk{l:Value}{m:List aH}{i:ByteArray}{j:Int}(H:Sep w (Fo) rs)(e:rSl aR l m ∈ rs){r:(List aH)×Bool}(hm:L3 m i j=some r) :
    Calls Tryz.prog 56 [l,.string i,.int .i64 j].toArray w (Ret fun v w'=>∃ q,.tuple #[q,.bool r.2]=v∧Sep w' (Row 60 aR q r.1::Fo) (rs)):=by
 unfold L3 at hm
 refine ent Tryz.func56 rfl Tryz.ntmps56 rfl rfl fun a E=>sq<|pr 2 E rfl fun a E=>nt<|wp_seq<|sq<|pr 1 E rfl fun a E=>bd hm fun A s hm=>xk E rfl rfl rfl rfl rfl Kw (xE H e s) fun w H a E=>?_
 refine pr 1 E rfl fun a E=>nt<|wif E hm rfl (fun hm=>?_) fun hm=>?_
 ·refine sq<|pr 2 E rfl fun a E=>nt<|wp_ret<|aP<|iE E rfl rfl rfl<|have H:=H.nilRow 60 aR;?_
  cases hm
  exact ⟨_,rfl,H.reads Y0⟩
 ·refine wp_skip<|aD<|sq<|pr 2 E rfl fun a E=>bd hm fun B t hm=>xk E rfl rfl rfl rfl rfl Qd (L2 H e t) fun w H a E=>pr 5 E rfl fun a E=>nt<|wp_seq<|aT (fun a w=>∃ k f,Env 45 a [(0,l),(1,.string i),(2,.int .i64 j),(37,.bool k)]∧Sep w (Fo) f∧(∀ r,r ∈ rs→r ∈ f)∧uD m i j k=some r) ?_ ?_
  ·refine wp_region_lit<|pr 3 E rfl fun a E=>cs hm (fun b hm=>?_) fun b hm=>?_
   ·exact pk 16 E (kc 21 rfl b) rfl fun a E=>nt<|⟨_,_,E.to rfl,H,Y0,hm⟩
   ·refine pk 2 E (kc 21 rfl b) rfl fun a E=>bd hm fun u n hm=>dF E H (ws' (d:=21) E rfl rfl rfl rfl b) rfl rfl rfl rfl rfl e U54 iU n fun q19 a H E=>have H:=H.derive1 m0 (rAt (kI .i64) (q19.add 2) u.State) (fun ok h=>A6 h);pk 1 E (kc 21 rfl b) rfl fun a E=>aQ E (ws' (d:=21) E rfl rfl rfl rfl b) rfl rfl (nB E H rfl rfl m0 U3 rfl) fun a E=>pk 3 E (kc 21 rfl b) rfl fun a E=>cs hm (fun c hm=>?_) fun c hm=>?_
    ·exact pk 8 E (kc 29 rfl c) rfl fun a E=>nt<|⟨_,_,E.to rfl,H,(Y2 Y0),hm⟩
    ·exact pk 2 E (kc 29 rfl c) rfl fun a E=>bd hm fun x o hm=>dF E H (ws' (d:=29) E rfl rfl rfl rfl c) rfl rfl rfl rfl rfl (t2 e) U54 iU o fun q23 a H E=>have H:=H.derive1 m0 (rAt (kI .i64) (q23.add 1) x.Epoch) (fun ok h=>A5 h);pk 1 E (kc 29 rfl c) rfl fun a E=>aQ E (ws' (d:=29) E rfl rfl rfl rfl c) rfl rfl (nB E H rfl rfl m0 U2 rfl) fun a E=>pk 3 E (kc 29 rfl c) rfl fun a E=>nt<|⟨_,_,E.to rfl,H,(Y4 Y0),hm⟩
  ·clear E H hm
   rintro a w ⟨k,f,E,H,g,hm⟩
   unfold uD at hm
   refine wif E hm rfl (fun hm=>?_) fun hm=>?_
   ·refine sq<|pr 2 E rfl fun a E=>nt<|wp_ret<|aP<|iE E rfl rfl rfl<|have H:=H.nilRow 60 aR;?_
    cases hm
    exact ⟨_,rfl,H.reads g⟩
   ·refine wp_skip<|aD<|sq<|pr 3 E rfl fun a E=>sv E rfl rfl rfl (cN E rfl (E.evs rfl) (v:=.agg #[.string i,.int .i64 j,.int .i64 3]) (by kernel_rfl)) fun a E=>bd hm fun y p hm=>cJ E rfl rfl rfl rfl rfl Qe (P6 (x3:=(⟨i,j,3⟩:aH)) H (g _ e) p)<|?_
    rintro _ w ⟨z,rfl,H⟩ a E
    refine pr 4 E rfl fun a E=>nt<|wp_ret<|iE E rfl rfl rfl<|?_
    cases hm
    exact ⟨_,rfl,H.reads g⟩

def rD(b:(List aF))(c:(List aI))(d:(List aH)):Option ((List aF)×(List aI)×(List aH)):=
  some (b,c,d)
def zE(e:List aF)(f:List aI)(d:List aH)(x20:aV):Option ((List aF)×(List aI)×(List aH)):=
  (L3 d x20.Prefix x20.Epoch).bind fun b=>if b.2=true then ((xR (⟨e,f⟩:aW) d x20.Prefix).bind fun c=>rD c.2.2.1 c.2.2.2 b.1) else (rD e f d)
theorem Am{u:Nat}{y z K L M N O d e f g j k:Value}{A:List aF}{B:List aI}{P:List aH}{x20:aV}(H:Sep w (Blk u 82 [y,z,K,d,e,f,g,j,k]::Fo) rs)(l:rSl aG y A ∈ rs)(m:rSl aK z B ∈ rs)(c:rSl aR K P ∈ rs){r:(List aF)×(List aI)×(List aH)}(hm:zE A B P x20=some r) :
    Calls Tryz.prog 19 [pt u 0,.agg (aS x20 L M N O).toArray].toArray w (Ret fun v w'=>∃ Q R S,.agg bO.toArray=v∧Sep w' (Blk u 82 [Q,R,S,d,e,f,g,j,k]::Fo) (rSl aG Q r.1::rSl aK R r.2.1::rSl aR S r.2.2::rs)):=by
 unfold zE at hm
 refine ent Tryz.func19 rfl Tryz.ntmps19 rfl rfl fun a E=>sq<|bS E H (wn rfl) rfl rfl rfl rfl rfl fun T w a H E=>al E H rfl rfl rfl rfl iO fun x w a H E=>nt<|aT (fun a w=>∃ n o p q s t b,Env 42 a [(4,pt x 0)]∧Sep w (Blk x 36 bO::Blk u 82 [n,o,p,d,e,f,g,j,k]::Fo) b∧(∀ r,r ∈ rs→r ∈ b)∧rSl aG n q ∈ b∧rSl aK o s ∈ b∧rSl aR p t ∈ b∧rD q s t=some r) ?_ ?_
 ·refine wp_seq<|dw [(0,0),(1,0),(2,0),(3,0),(4,0),(5,0),(6,0),(7,0),(8,1),(9,0),(10,0),(11,0),(12,1),(13,2)] [1,2] [] H (by kernel_rfl) (fun _ _ _ h=>False.elim h.2) fun w W0 hI H=>fn 3 E rfl fun a E=>fb E rfl (wn rfl) rfl rfl rfl rfl mm1 rfl U54 rfl fun a E=>fn 1 E rfl fun a E=>fb E rfl (wn rfl) rfl rfl rfl rfl m0 rfl U9 rfl fun a E=>fn 1 E rfl fun a E=>fb E rfl (wn rfl) rfl rfl rfl rfl m0 rfl U2 rfl fun a E=>cE rfl<|?_
  refine bd hm fun U C hm=>cJ E rfl rfl rfl rfl rfl LH (Lk H c C)<|?_
  rintro _ w ⟨V,rfl,H⟩ a E
  refine nt<|?_
  refine ⟨⟨_,_,H,(aB mm2 (aB mm3 (aL))),(aN)⟩,?_⟩
  refine fn 3 E rfl fun a E=>cE rfl<|pr 1 E rfl fun a E=>nt<|?_
  refine ⟨⟨_,_,H,(aB mm2 (aB mm3 (aL))),(aN)⟩,?_⟩
  refine bQ rfl<|pr 1 E rfl fun a E=>nt<|bR<|?_
  clear hI
  refine aD<|sq<|pr 1 E rfl fun a E=>nt<|wif E hm rfl (fun hm=>?_) fun hm=>?_
  ·refine wp_seq<|dw [(0,0),(1,0),(2,0),(3,0),(4,0),(5,0),(6,0),(7,0),(8,0),(9,0),(10,0),(11,1),(12,0),(13,0),(14,0),(15,2),(16,2),(17,2)] [2,3] [] H (by kernel_rfl) (fun _ _ _ h=>False.elim h.2) fun w W0 hI H=>fn 4 E rfl fun a E=>fbn E [y,z] rfl (wn rfl) rfl rfl rfl rfl mm1 rfl U31 rfl dP fun a E=>fn 3 E rfl fun a E=>fb E rfl (wn rfl) rfl rfl rfl rfl mm1 rfl U54 rfl fun a E=>fn 1 E rfl fun a E=>fb E rfl (wn rfl) rfl rfl rfl rfl m0 rfl U9 rfl fun a E=>cE rfl<|?_
   refine bd hm fun W D hm=>cJ E rfl rfl rfl rfl rfl G6 (lP (x1:=(⟨A,B⟩:aW)) H l m c D)<|?_
   rintro _ w ⟨X,Y,Z,b0,rfl,H⟩ a E
   refine nt<|?_
   refine ⟨⟨_,_,H,(aB mm6 (aB (t1 mm6) (aL))),(aN)⟩,?_⟩
   refine fn 3 E rfl fun a E=>bQ rfl<|pr 1 E rfl fun a E=>nt<|bQ rfl<|pr 1 E rfl fun a E=>nt<|bQ rfl<|?_
   obtain ⟨q60,b1,rfl⟩:=H.rowform (i:=2) rfl
   obtain ⟨q62,b2,rfl⟩:=H.rowform (i:=3) rfl
   refine bC (i:=7) E H (wn rfl) rfl rfl rfl rfl rfl rfl dP rfl rfl fun w H=>nt<|bR<|?_
   clear hI
   refine aD<|wp_region_lit<|pr 4 E rfl fun a E=>?_
   obtain ⟨q64,b3,rfl⟩:=H.rowform (i:=4) rfl
   exact bC (i:=7) E H (wn rfl) rfl rfl rfl rfl rfl rfl Vh rfl rfl fun w H=>nt<|have H:=H.thaw (i:=2) rfl;have H:=H.thaw (i:=2) rfl;have H:=H.thaw (i:=2) rfl;have H:=H.drs [0,0,1];X7 ⟨E.to rfl,H,(Y3 Y0),mm2,mm1,m0,hm⟩
  ·exact wp_skip<|aD<|have H:=H.drs [0,1];X7 ⟨E.to rfl,H,Y0,l,m,c,hm⟩
 ·clear E H hm
  rintro a w ⟨n,o,p,q,s,t,b,E,H,F,G,I,J,hm⟩
  unfold rD at hm
  refine sq<|sv E rfl rfl rfl (cN E rfl (E.evs rfl) (v:=.agg bO.toArray) (by kernel_rfl)) fun a E=>bC (i:=0) E H (wn rfl) rfl rfl rfl rfl rfl rfl bV rfl rfl fun w H=>nt<|wp_ret<|eC E rfl (dH (i:=0) (us:=bO) H rfl rfl rfl U36 rfl bV)<|have H:=H.drop 0;?_
  cases hm
  exact X3 ⟨rfl,H.reads (aA G (aA I (aA J (F))))⟩

def zY(x1:aM)(x3:Int):Option Bool:=
  some (x1.Txn == x3)
theorem S2{x1:aM}{b:Nat}{x3:Int}(H:Sep w (Blk b 2 [.int .i64 x3]::Fo) rs){r:Bool}(hm:zY x1 x3=some r) :
    Calls Tryz.prog 107 [.agg (qF x1).toArray,pt b 0].toArray w (Ret fun v w'=>.bool r=v∧Sep w' (Blk b 2 [.int .i64 x3]::Fo) (rs)):=by
 unfold zY at hm
 refine ent Tryz.func107 rfl Tryz.ntmps107 rfl rfl fun a E=>sq<|bS E H (wn rfl) rfl rfl rfl rfl rfl fun c w a H E=>pr 1 E rfl fun a E=>nx<|pr 1 E rfl fun a E=>lb E H 0 rfl rfl rfl rfl rfl rfl rfl U2 rfl fun a E=>lb E H 1 rfl rfl rfl rfl rfl rfl rfl U2 rfl fun a E=>pr 2 E rfl fun a E=>?_
 refine nt<|wp_ret<|bB E rfl rfl<|have H:=H.drop 0;?_
 cases hm
 exact ⟨rfl,H.reads Y0⟩

def gE(c:List aM)(d:Int):Nat→Int→Option Int
  | 0,_=>none
  | f+1,b=>
    if (decide (b < (c.length:Int)))=true then ((idx c b).bind fun g=>(zY g d).bind fun e=>if e=true then (some (b)) else (gE c d f (IntKind.i64.wrap (b+1)))) else (some ((-1)))
def kA(b:List aM)(c:Int):Option Int:=
  gE b c (((b.length:Int) - 0:Int).toNat+1) 0
theorem xX{e:Value}{b:List aM}{f:Nat}{g:Int}(H:Sep w (Row 89 bG e b::Blk f 2 [.int .i64 g]::Fo) rs){r:Int}(hm:kA b g=some r) :
    Calls Tryz.prog 87 [e,.func (.func 107) #[] #[pt f 0]].toArray w (Ret fun v w'=>.int .i64 r=v∧Sep w' (Blk f 2 [.int .i64 g]::Row 89 bG e b::Fo) (rs)):=by
 unfold kA at hm
 refine ent Tryz.func87 rfl Tryz.ntmps87 rfl rfl fun a E=>sq<|pr 1 E rfl fun a E=>nt<|wp_seq<|sq<|pr 1 E rfl fun a E=>sv E rfl rfl rfl (lC (i:=0) E H rfl rfl rfl U56) fun a E=>pr 1 E rfl fun a E=>?_
 refine nt<|wp_block<|cA (fun c a w=>∃ n j,Env 19 a [(0,e),(1,.func (.func 107) #[] #[pt f 0]),(7,.int .i64 (b.length:Int)),(8,.int .i64 n)]∧Sep w (Row 89 bG e b::Blk f 2 [.int .i64 g]::Fo) j∧(∀ r,r ∈ rs→r ∈ j)∧gE b g c n=some r) (((b.length:Int) - 0:Int).toNat+1) ?_ ?_
 ·exact ⟨_,_,E.to rfl,H,Y0,hm⟩
 ·clear E H hm
  rintro c a w ⟨n,j,E,H,k,hm⟩
  cases c with
  | zero=>exact (bW hm rfl).elim
  | succ c=>
   unfold gE at hm
   refine sq<|pr 1 E rfl fun a E=>nt<|wp_seq<|wif E hm rfl (fun hm=>?_) fun hm=>?_
   ·refine wp_skip<|aD<|wp_seq<|wp_block<|sq<|pr 2 E rfl fun a E=>nx<|pr 3 E rfl fun a E=>bd hm fun o l hm=>?_
    obtain ⟨q,s,m⟩:=H.rowformNE (i:=0) rfl l
    refine sv E rfl rfl rfl (dL (d:=bG) E m rfl rfl rfl rfl U56 mU l) fun a E=>sv E rfl rfl rfl (iF (i:=0) E H fN m rfl rfl rfl l (us:=[.string o.Dir,.int .i64 o.Txn,.int .i64 o.Age]) rfl U89 rfl mU) fun a E=>have H:=H.frs [0,1] rfl;bd hm fun t p hm=>aX E (wn rfl) rfl rfl (bP E rfl rfl rfl (Xw _)) (S2 H p)<|?_
    rintro _ w ⟨rfl,H⟩ a E
    refine nt<|wif E hm rfl (fun hm=>?_) fun hm=>?_
    ·refine sq<|pr 2 E rfl fun a E=>nt<|wp_ret<|bU<|aP<|aP<|bU<|aP<|?_
     refine bB E rfl rfl<|?_
     cases hm
     exact ⟨rfl,H.reads k⟩
    ·exact wp_skip<|bY<|aD<|wp_region_lit<|pr 2 E rfl fun a E=>nt<|have H:=H.frs [0,1] rfl;⟨c,Nat.lt_succ_self c,_,_,E.to rfl,H,k,hm⟩
   ·refine wp_exit<|bH<|bH<|dZ<|aD<|sq<|pr 1 E rfl fun a E=>nt<|wp_ret<|?_
    refine bB E rfl rfl<|have H:=H.frs [0,1] rfl;?_
    cases hm
    exact ⟨rfl,H.reads k⟩

def gN(rec_1:(List aM)→Int→Int→Option (List aM))(d:Int)(b:(List aM))(c:Int):Option (List aM):=
  rec_1 b c (IntKind.i64.wrap (d+1))
def eN(f:Int):Nat→(List aM)→Int→Int→Option (List aM)
  | 0,_,_,_=>none
  | g+1,c,b,d=>
    if (decide (d < (c.length:Int)))=true then ((idx c d).bind fun e=>(zY e f).bind fun i=>if (!i)=true then ((idx c b).bind fun j=>gN (eN f g) d (c.set b.toNat e) (IntKind.i64.wrap (b+1))) else (gN (eN f g) d c b)) else ((ck (0 ≤ b∧b ≤ c.length)).bind fun k=>(ck (0 ≤ b∧b ≤ (c.take b.toNat ++ List.replicate (c.length - b.toNat) (⟨⟨#[]⟩,0,0⟩:aM)).length)).bind fun l=>some ((c.take b.toNat ++ List.replicate (c.length - b.toNat) (⟨⟨#[]⟩,0,0⟩:aM)).take b.toNat))
def kQ(b:List aM)(d:Int):Option (List aM):=
  (kA b d).bind fun c=>if (c == (-1))=true then (some (b)) else (eN d (((b.length:Int) - (IntKind.i64.wrap (c+1)):Int).toNat+1) b c (IntKind.i64.wrap (c+1)))
theorem yR{n:Value}{x:List aM}{c:Nat}{e:Int}(H:Sep w (Row 89 bG n x::Blk c 2 [.int .i64 e]::Fo) rs){r:(List aM)}(hm:kQ x e=some r) :
    Calls Tryz.prog 106 [n,.func (.func 107) #[] #[pt c 0]].toArray w (Ret fun v w'=>∃ D,D=v∧Sep w' (Row 89 bG D r::Blk c 2 [.int .i64 e]::Fo) (rs)):=by
 unfold kQ at hm
 refine ent Tryz.func106 rfl Tryz.ntmps106 rfl rfl fun a E=>sq<|pr 1 E rfl fun a E=>nx<|pr 2 E rfl fun a E=>bd hm fun G F hm=>xk E rfl rfl rfl rfl rfl Lf (xX H F) fun w H a E=>pr 1 E rfl fun a E=>nt<|?_
 refine wp_seq<|sq<|pr 2 E rfl fun a E=>nt<|wif E hm rfl (fun hm=>?_) fun hm=>?_
 ·refine sq<|pr 2 E rfl fun a E=>nt<|wp_ret<|aP<|bB E rfl rfl<|have H:=H.frs [0,1] rfl;?_
  cases hm
  exact ⟨_,rfl,H.reads Y0⟩
 ·refine wp_skip<|aD<|wp_seq<|sq<|pr 3 E rfl fun a E=>nt<|wp_block<|cA (fun f a w=>∃ y z o g,Env 42 a [(0,n),(1,.func (.func 107) #[] #[pt c 0]),(5,.int .i64 z),(6,.int .i64 o)]∧Sep w (Row 89 bG n y::Blk c 2 [.int .i64 e]::Fo) g∧(∀ r,r ∈ rs→r ∈ g)∧eN e f y z o=some r) (((x.length:Int) - (IntKind.i64.wrap (G+1)):Int).toNat+1) ?_ ?_
  ·exact have H:=H.frs [0,1] rfl;X4 ⟨E.to rfl,H,Y0,hm⟩
  ·clear E H hm
   rintro f a w ⟨y,z,o,g,E,H,j,hm⟩
   cases f with
   | zero=>exact (bW hm rfl).elim
   | succ f=>
    unfold eN at hm
    refine wp_seq<|sq<|pr 2 E rfl fun a E=>sv E rfl rfl rfl (lC (i:=0) E H rfl rfl rfl U56) fun a E=>pr 1 E rfl fun a E=>nt<|wif E hm rfl (fun hm=>?_) fun hm=>?_
    ·refine wp_skip<|aD<|aT (fun a w=>∃ p q k,Env 42 a [(0,n),(1,.func (.func 107) #[] #[pt c 0]),(5,.int .i64 q),(6,.int .i64 o)]∧Sep w (Row 89 bG n p::Blk c 2 [.int .i64 e]::Fo) k∧(∀ r,r ∈ rs→r ∈ k)∧gN (eN e f) o p q=some r) ?_ ?_
     ·refine wp_block<|sq<|pr 2 E rfl fun a E=>bd hm fun b l hm=>?_
      obtain ⟨I,J,s⟩:=H.rowformNE (i:=0) rfl l
      refine sv E rfl rfl rfl (dL (d:=bG) E s rfl rfl rfl rfl U56 mU l) fun a E=>sv E rfl rfl rfl (iF (i:=0) E H fN s rfl rfl rfl l (us:=[.string b.Dir,.int .i64 b.Txn,.int .i64 b.Age]) rfl U89 rfl mU) fun a E=>al E H rfl rfl rfl rfl Vl fun K w a H E=>bC (i:=0) E H (wn rfl) rfl rfl rfl rfl rfl rfl mU rfl rfl fun w H=>nx<|pr 1 E rfl fun a E=>sv E rfl rfl rfl (cD (i:=0) (us:=(qF b)) E H rfl rfl rfl rfl U89 rfl mU) fun a E=>have H:=H.frs [1,1,2] rfl;bd hm fun L A hm=>?_
      refine aX E (wn rfl) rfl rfl (bP E rfl rfl rfl (Xw _)) (S2 H A)<|?_
      rintro _ w ⟨rfl,H⟩ a E
      refine pr 1 E rfl fun a E=>nt<|wif E hm rfl (fun hm=>?_) fun hm=>?_
      ·refine sq<|pr 2 E rfl fun a E=>sv E rfl rfl rfl (cD (i:=1) (us:=(qF b)) E H rfl rfl rfl rfl U89 rfl mU) fun a E=>bd hm fun M m hm=>?_
       obtain ⟨N,O,t⟩:=H.rowformNE (i:=2) rfl m
       refine sv E rfl rfl rfl (dL (d:=bG) E t rfl rfl rfl rfl U56 mU m) fun a E=>z8 (d:=bG) (i:=2) (us:=[.string b.Dir,.int .i64 b.Txn,.int .i64 b.Age]) (z':=b) E H fN (wn rfl) rfl t rfl rfl rfl rfl rfl rfl rfl m mU fun w H=>nt<|wp_region_lit<|pr 3 E rfl fun a E=>wpList_nil<|bY<|aD<|have H:=H.drop 1;?_
       exact have H:=H.frs [0,1] rfl;X3 ⟨E.to rfl,H,j,hm⟩
      ·exact wp_skip<|bY<|aD<|have H:=H.drop 1;have H:=H.frs [0,1] rfl;X3 ⟨E.to rfl,H,j,hm⟩
     ·clear E H hm
      rintro a w ⟨p,q,k,E,H,B,hm⟩
      unfold gN at hm
      exact wp_region_lit<|pr 3 E rfl fun a E=>nt<|⟨f,Nat.lt_succ_self f,X4 ⟨E.to rfl,H,B,hm⟩⟩
    ·refine wp_exit<|bH<|bH<|dZ<|aD<|sq<|pr 2 E rfl fun a E=>bk hm fun u hm=>sv E rfl rfl rfl (T7 (d:=bG) (i:=0) E H rfl rfl rfl rfl U56 mU u) fun a E=>?_
     refine E4 (i:=0) (z0:=(⟨⟨#[]⟩,0,0⟩:aM)) E H fN (wn rfl) rfl rfl rfl U56 JK rfl rfl rfl u fun w H=>nx<|pr 2 E rfl fun a E=>bk hm fun C hm=>M7 (i:=0) E H fN (wn rfl) rfl rfl rfl rfl rfl rfl U56 mU C fun P a H E=>pr 1 E rfl fun a E=>nt<|wp_ret<|bB E rfl rfl<|?_
     cases hm
     exact ⟨_,rfl,H.reads j⟩

def L4(b:List aM)(x3:Int):Option (List aM):=
  (ck (b.length ≤ LIM)).bind fun d=>(kQ b x3).bind fun c=>some (c)
theorem Ll{c:Value}{d:List aM}{x3:Int}(H:Sep w (Fo) rs)(e:rSl bG c d ∈ rs){r:(List aM)}(hm:L4 d x3=some r) :
    Calls Tryz.prog 42 [c,.int .i64 x3].toArray w (Ret fun v w'=>∃ f,f=v∧Sep w' (Row 89 bG f r::Fo) (rs)):=by
 unfold L4 at hm
 refine ent Tryz.func42 rfl Tryz.ntmps42 rfl rfl fun a E=>sq<|bS E H (wn rfl) rfl rfl rfl rfl rfl fun j w a H E=>pr 1 E rfl fun a E=>nx<|pr 1 E rfl fun a E=>bk hm fun g hm=>aX E (wn rfl) rfl rfl (cG E rfl rfl (Vk _)) (kO H e g) fun k w H a E=>sv E rfl rfl rfl (kH E rfl rfl rfl) fun a E=>?_
 refine bd hm fun l b hm=>cJ E rfl rfl rfl rfl rfl JJ (yR H b)<|?_
 rintro _ w ⟨i,rfl,H⟩ a E
 refine pr 1 E rfl fun a E=>nt<|wp_ret<|bB E rfl rfl<|have H:=H.drop 1;?_
 cases hm
 exact ⟨_,rfl,H.reads Y0⟩

end Go.Cb
