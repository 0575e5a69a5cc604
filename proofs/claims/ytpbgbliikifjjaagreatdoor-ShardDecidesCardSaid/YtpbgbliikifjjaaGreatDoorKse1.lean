/- Functions of the program, walked: each comes to its plain function. -/
import Derived.Test.YtpbgbliikifjjaaGreatDoorTse
import Derived.Test.YtpbgbliikifjjaaGreatDoorExse
set_option linter.unusedVariables false
set_option linter.unusedSimpArgs false
set_option maxRecDepth 20000
set_option maxHeartbeats 1000000
namespace Go.Cb
open Go.Proofs Go.RowKit
variable {w:World} {Fo:List Ob} {rs:List Rp}

def L8:Option Unit:=
  some ()
theorem Dl(H:Sep w (Fo) rs){r:Unit}(hm:L8=some r) :
    Calls Tryz.prog 176 [].toArray w (Ret fun v w'=>.agg #[.int .i64 0,.int .i64 13,.int .i64 2,.int .i64 19,.int .i64 18,.int .i64 16,.int .i64 16,.int .i64 20]=v∧Sep w' (Fo) (rs)):=by
 unfold L8 at hm
 refine ent Tryz.func176 rfl Tryz.ntmps176 rfl rfl fun a E=>sq<|al E H rfl rfl rfl rfl Ve fun b w a H E=>nx<|sv E rfl rfl rfl (cI E rfl (E.evs rfl) (v:=.agg #[.int .i64 0,.int .i64 13,.int .i64 2,.int .i64 19,.int .i64 18,.int .i64 16,.int .i64 16,.int .i64 20]) (by kernel_rfl)) fun a E=>aZ (i:=0) E H (wn rfl) rfl rfl rfl rfl rfl rfl Mo rfl rfl fun w H=>nt<|wp_ret<|dH E rfl (cV (i:=0) (us:=[.int .i64 0,.int .i64 13,.int .i64 2,.int .i64 19,.int .i64 18,.int .i64 16,.int .i64 16,.int .i64 20]) H rfl rfl rfl Rc rfl Mo)<|?_
 refine have H:=H.drop 0;?_
 cases hm
 exact ⟨rfl,H.reads Y0⟩

def zV(x1:Int)(b:Int):Option Bool:=
  if (decide (x1 ≥ 0))=true then (some (decide (x1 ≤ b))) else (some (false))
theorem Cn{x1 c:Int}(H:Sep w (Fo) rs){r:Bool}(hm:zV x1 c=some r) :
    Calls Tryz.prog 175 [.int .i64 x1,.int .i64 c].toArray w (Ret fun v w'=>.bool r=v∧Sep w' (Fo) (rs)):=by
 unfold zV at hm
 refine ent Tryz.func175 rfl Tryz.ntmps175 rfl rfl fun a E=>sq<|pr 1 E rfl fun a E=>nx<|pr 3 E rfl fun a E=>cs hm (fun b hm=>?_) fun b hm=>?_
 ·refine pk 5 E (kc 7 rfl b) rfl fun a E=>nt<|wp_ret<|aY E rfl rfl<|?_
  cases hm
  exact ⟨rfl,H.reads Y0⟩
 ·refine pk 5 E (kc 7 rfl b) rfl fun a E=>nt<|wp_ret<|aY E rfl rfl<|?_
  cases hm
  exact ⟨rfl,H.reads Y0⟩

def kW(b:ByteArray)(c:Int):Option Int:=
  some (ixB b c)
theorem xV{b:ByteArray}{c:Int}(H:Sep w (Fo) rs){r:Int}(hm:kW b c=some r) :
    Calls Tryz.prog 238 [.string b,.int .u8 c].toArray w (Ret fun v w'=>.int .i64 r=v∧Sep w' (Fo) (rs)):=by
 unfold kW at hm
 refine ent Tryz.func238 rfl Tryz.ntmps238 rfl rfl fun a E=>sq<|pr 1 E rfl fun a E=>nx<|pr 2 E rfl fun a E=>sv E rfl rfl rfl (R4 E rfl rfl (Ql _ _ _)) fun a E=>pr 1 E rfl fun a E=>nt<|wp_ret<|?_
 refine aY E rfl rfl<|?_
 cases hm
 exact ⟨rfl,H.reads Y0⟩

def mQ(b:ByteArray)(c:Int):Option Int:=
  (kW b c).bind fun d=>some (d)
theorem tN{b:ByteArray}{c:Int}(H:Sep w (Fo) rs){r:Int}(hm:mQ b c=some r) :
    Calls Tryz.prog 177 [.string b,.int .u8 c].toArray w (Ret fun v w'=>.int .i64 r=v∧Sep w' (Fo) (rs)):=by
 unfold mQ at hm
 refine ent Tryz.func177 rfl Tryz.ntmps177 rfl rfl fun a E=>sq<|pr 1 E rfl fun a E=>nx<|pr 2 E rfl fun a E=>bd hm fun e d hm=>xk E rfl rfl rfl rfl rfl Us (xV H d) fun w H a E=>pr 1 E rfl fun a E=>nt<|?_
 refine wp_ret<|aY E rfl rfl<|?_
 cases hm
 exact ⟨rfl,H.reads Y0⟩

def kE(b:Bool):Option Bool:=
  if b=true then (some (true)) else (some (false))
def kF(x1:Int)(b:Bool):Option Bool:=
  if b=true then (some (true)) else (if (decide (57343 < x1))=true then (kE (decide (x1 ≤ 1114111))) else (kE false))
def pL(x1:Int):Option Bool:=
  if (decide (0 ≤ x1))=true then (kF x1 (decide (x1 < 55296))) else (kF x1 false)
theorem A6{x1:Int}(H:Sep w (Fo) rs){r:Bool}(hm:pL x1=some r) :
    Calls Tryz.prog 325 [.int .i32 x1].toArray w (Ret fun v w'=>.bool r=v∧Sep w' (Fo) (rs)):=by
 unfold pL at hm
 refine ent Tryz.func325 rfl Tryz.ntmps325 rfl rfl fun a E=>sq<|pr 1 E rfl fun a E=>nt<|wp_seq<|wp_block<|aT (fun a w=>∃ i b,Env 17 a [(0,.int .i32 x1),(3,.bool i)]∧Sep w (Fo) b∧(∀ r,r ∈ rs→r ∈ b)∧kF x1 i=some r) ?_ ?_
 ·refine wp_region_lit<|pr 3 E rfl fun a E=>cs hm (fun c hm=>?_) fun c hm=>?_
  ·exact pk 4 E (kc 6 rfl c) rfl fun a E=>nt<|⟨_,_,E.to rfl,H,Y0,hm⟩
  ·exact pk 4 E (kc 6 rfl c) rfl fun a E=>nt<|⟨_,_,E.to rfl,H,Y0,hm⟩
 ·clear E H hm
  rintro a w ⟨i,b,E,H,d,hm⟩
  unfold kF at hm
  refine wif E hm rfl (fun hm=>?_) fun hm=>?_
  ·refine sq<|pr 1 E rfl fun a E=>nt<|wp_ret<|bV<|aP<|aY E rfl rfl<|?_
   cases hm
   exact ⟨rfl,H.reads d⟩
  ·refine aT (fun a w=>∃ j e,Env 17 a [(10,.bool j)]∧Sep w (Fo) e∧(∀ r,r ∈ rs→r ∈ e)∧kE j=some r) ?_ ?_
   ·refine wp_region_lit<|pr 3 E rfl fun a E=>cs hm (fun f hm=>?_) fun f hm=>?_
    ·exact pk 4 E (kc 13 rfl f) rfl fun a E=>nt<|⟨_,_,E.to rfl,H,d,hm⟩
    ·exact pk 4 E (kc 13 rfl f) rfl fun a E=>nt<|⟨_,_,E.to rfl,H,d,hm⟩
   ·clear E H hm
    rintro a w ⟨j,e,E,H,g,hm⟩
    unfold kE at hm
    refine wif E hm rfl (fun hm=>?_) fun hm=>?_
    ·refine sq<|pr 1 E rfl fun a E=>nt<|wp_ret<|bV<|aP<|aY E rfl rfl<|?_
     cases hm
     exact ⟨rfl,H.reads g⟩
    ·refine wp_skip<|bY<|aC<|sq<|pr 1 E rfl fun a E=>nt<|wp_ret<|aY E rfl rfl<|?_
     cases hm
     exact ⟨rfl,H.reads g⟩

def nH(c:ByteArray):Nat→(Nat)→Option Int
  | 0,_=>none
  | d+1,b=>
    if decide (b < c.size)=true then (if (((Utf8.decode c b).1:Int) == 65533)=true then (some ((b:Int))) else (nH c d (b+(Utf8.decode c b).2))) else (some ((-1)))
def rA(b:Int)(c:ByteArray):Nat→Option Int
  | 0=>none
  | j+1=>
    if (decide ((IntKind.i64.wrap (((Utf8.encode b).size:Int) - 1)) < (c.size:Int)))=true then ((idx c.data.toList (IntKind.i64.wrap (((Utf8.encode b).size:Int) - 1))).bind fun d=>(idx (Utf8.encode b).data.toList (IntKind.i64.wrap (((Utf8.encode b).size:Int) - 1))).bind fun e=>if ((d.toNat:Int) != (e.toNat:Int))=true then ((ck (0 ≤ (IntKind.i64.wrap ((IntKind.i64.wrap (((Utf8.encode b).size:Int) - 1))+1))∧(IntKind.i64.wrap ((IntKind.i64.wrap (((Utf8.encode b).size:Int) - 1))+1)) ≤ c.size)).bind fun i=>(idx (Utf8.encode b).data.toList (IntKind.i64.wrap (((Utf8.encode b).size:Int) - 1))).bind fun f=>(mQ (c.extract (IntKind.i64.wrap ((IntKind.i64.wrap (((Utf8.encode b).size:Int) - 1))+1)).toNat c.size) (f.toNat:Int)).bind fun g=>if (decide (g < 0))=true then (some ((-1))) else none) else none) else (some ((-1)))
def nI(b:ByteArray)(c:Int)(e:Bool):Option Int:=
  if e=true then ((mQ b (IntKind.u8.wrap c)).bind fun f=>some (f)) else (if (c == 65533)=true then (nH b (b.size+2) 0) else ((pL c).bind fun d=>if (!d)=true then (some ((-1))) else (rA c b (((b.size:Int) - (IntKind.i64.wrap (((Utf8.encode c).size:Int) - 1)):Int).toNat+1))))
def tO(c:ByteArray)(b:Int):Option Int:=
  if (decide (0 ≤ b))=true then (nI c b (decide (b < 128))) else (nI c b false)
theorem M4{b:ByteArray}{c:Int}(H:Sep w (Fo) rs){r:Int}(hm:tO b c=some r) :
    Calls Tryz.prog 290 [.string b,.int .i32 c].toArray w (Ret fun v w'=>.int .i64 r=v∧Sep w' (Fo) (rs)):=by
 unfold tO at hm
 refine ent Tryz.func290 rfl Tryz.ntmps290 rfl rfl fun a E=>sq<|pr 1 E rfl fun a E=>nt<|wp_block<|aT (fun a w=>∃ p m,Env 187 a [(0,.string b),(1,.int .i32 c),(160,.bool p)]∧Sep w (Fo) m∧(∀ r,r ∈ rs→r ∈ m)∧nI b c p=some r) ?_ ?_
 ·refine wp_region_lit<|pr 3 E rfl fun a E=>cs hm (fun d hm=>?_) fun d hm=>?_
  ·exact pk 4 E (kc 163 rfl d) rfl fun a E=>nt<|⟨_,_,E.to rfl,H,Y0,hm⟩
  ·exact pk 4 E (kc 163 rfl d) rfl fun a E=>nt<|⟨_,_,E.to rfl,H,Y0,hm⟩
 ·clear E H hm
  rintro a w ⟨p,m,E,H,k,hm⟩
  unfold nI at hm
  refine wif E hm rfl (fun hm=>?_) fun hm=>?_
  ·refine sq<|pr 3 E rfl fun a E=>bd hm fun J A hm=>xk E rfl rfl rfl rfl rfl Hy (tN H A) fun w H a E=>pr 1 E rfl fun a E=>nt<|wp_ret<|bV<|aY E rfl rfl<|?_
   cases hm
   exact ⟨rfl,H.reads k⟩
  ·refine sq<|pr 3 E rfl fun a E=>nt<|wif E hm rfl (fun hm=>?_) fun hm=>?_
   ·refine wp_seq<|sq<|pr 1 E rfl fun a E=>Cz E H (wn rfl) rfl rfl rfl rfl U9 fun B w a H E=>nt<|wp_block<|bX (fun l a w=>∃ q e,Env 187 a [(175,pt B 0)]∧Sep w (D7 B (.stringIter b q)::Fo) e∧(∀ r,r ∈ rs→r ∈ e)∧nH b l q=some r) (b.size+2) ?_ ?_
    ·exact ⟨_,_,E.to rfl,H,k,hm⟩
    ·clear E H hm
     rintro l a w ⟨q,e,E,H,f,hm⟩
     cases l with
     | zero=>exact (bT hm rfl).elim
     | succ l=>
      unfold nH at hm
      refine sq<|cs hm (fun g hm=>?_) fun g hm=>?_
      ·refine Da (i:=0) E H (wn rfl) rfl rfl rfl rfl rfl g fun w a H E=>pr 1 E rfl fun a E=>nt<|wp_seq<|wp_cond_true (E.eval rfl)<|wp_skip<|aC<|wp_block<|sq<|?_
       refine pr 4 E rfl fun a E=>nx<|pr 2 E rfl fun a E=>nt<|wif E hm rfl (fun hm=>?_) fun hm=>?_
       ·refine sq<|pr 2 E rfl fun a E=>nt<|wp_ret<|bV<|aP<|bV<|aP<|bV<|?_
        refine aY E rfl rfl<|have H:=H.drop 0;?_
        cases hm
        exact ⟨rfl,H.reads f⟩
       ·exact wp_skip<|bY<|aC<|⟨l,Nat.lt_succ_self l,_,_,E.to rfl,H,f,hm⟩
      ·refine Db (i:=0) E H (wn rfl) rfl rfl rfl rfl rfl g fun a E=>pr 1 E rfl fun a E=>nt<|wp_seq<|wp_cond_false (E.eval rfl)<|wp_exit<|bH<|bH<|dG<|?_
       refine aC<|sq<|pr 1 E rfl fun a E=>nt<|wp_ret<|bV<|aY E rfl rfl<|have H:=H.drop 0;?_
       cases hm
       exact ⟨rfl,H.reads f⟩
   ·refine sq<|pr 1 E rfl fun a E=>bd hm fun C s hm=>xk E rfl rfl rfl rfl rfl Uz (A6 H s) fun w H a E=>pr 2 E rfl fun a E=>nt<|wif E hm rfl (fun hm=>?_) fun hm=>?_
    ·refine sq<|pr 1 E rfl fun a E=>nt<|wp_ret<|bV<|aY E rfl rfl<|?_
     cases hm
     exact ⟨rfl,H.reads k⟩
    ·refine wp_scope_straight<|sq<|pr 1 E rfl fun a E=>sv E rfl rfl rfl (G2 E rfl rfl (v:=.string (Utf8.encode c)) (by kernel_rfl)) fun a E=>pr 1 E rfl fun a E=>nx<|pr 4 E rfl fun a E=>nx<|pr 2 E rfl fun a E=>?_
     refine nx<|pr 1 E rfl fun a E=>nt<|wp_seq<|wp_block<|bX (fun o a w=>∃ j,Env 187 a [(0,.string b),(7,.string (Utf8.encode c)),(8,.int .i64 (IntKind.i64.wrap (((Utf8.encode c).size:Int) - 1))),(9,.int .i64 (IntKind.i64.wrap (((Utf8.encode c).size:Int) - 1))),(10,.int .i64 0)]∧Sep w (Fo) j∧(∀ r,r ∈ rs→r ∈ j)∧rA c b o=some r) (((b.size:Int) - (IntKind.i64.wrap (((Utf8.encode c).size:Int) - 1)):Int).toNat+1) ?_ ?_
     ·exact ⟨_,E.to rfl,H,k,hm⟩
     ·clear E H hm
      rintro o a w ⟨j,E,H,n,hm⟩
      cases o with
      | zero=>exact (bT hm rfl).elim
      | succ o=>
       unfold rA at hm
       refine wp_seq<|sq<|pr 4 E rfl fun a E=>nt<|wif E hm rfl (fun hm=>?_) fun hm=>?_
       ·refine wp_skip<|aC<|wp_block<|wp_scope_straight<|wp_seq<|wp_seq<|dw [(0,0),(1,0),(2,0),(3,0),(4,0),(5,0),(6,0)] [] [] H (by kernel_rfl) (fun _ _ _ h=>False.elim h.2) fun w W0 hI H=>fn 2 E rfl fun a E=>bd hm fun D t hm=>?_
        refine bW E rfl (wn rfl) rfl rfl (fun w hW=>(Et E rfl rfl rfl U9 t)) fun a E=>?_
        refine fn 2 E rfl fun a E=>bd hm fun F u hm=>bW E rfl (wn rfl) rfl rfl (fun w hW=>(Et E rfl rfl rfl U9 u)) fun a E=>?_
        refine fn 1 E rfl fun a E=>bR<|?_
        clear hI
        refine aC<|wif E hm rfl (fun hm=>?_) fun hm=>?_
        ·refine wp_seq<|dw [(0,0),(1,0),(2,0),(3,0),(4,0),(5,0),(6,0),(7,1),(8,2)] [] [] H (by kernel_rfl) (fun _ _ _ h=>False.elim h.2) fun w W0 hI H=>fn 3 E rfl fun a E=>bk hm fun x hm=>bW E rfl (wn rfl) rfl rfl (fun w hW=>(G3 E rfl rfl rfl U9 x)) fun a E=>?_
         refine fn 2 E rfl fun a E=>bd hm fun G y hm=>bW E rfl (wn rfl) rfl rfl (fun w hW=>(Et E rfl rfl rfl U9 y)) fun a E=>?_
         refine bZ rfl<|bd hm fun I z hm=>xk E rfl rfl rfl rfl rfl Hy (tN H z) fun w H a E=>nt<|?_
         refine ⟨⟨_,_,H,(aL),(aM)⟩,?_⟩
         refine bQ rfl<|pr 1 E rfl fun a E=>nt<|bR<|?_
         clear hI
         refine aC<|wp_seq<|sq<|pr 2 E rfl fun a E=>nt<|wif E hm rfl (fun hm=>?_) fun hm=>?_
         ·refine sq<|pr 1 E rfl fun a E=>nt<|wp_ret<|aP<|aP<|Le<|bV<|aP<|?_
          refine bV<|aP<|Le<|bV<|aY E rfl rfl<|?_
          cases hm
          exact ⟨rfl,H.reads n⟩
         ·exact (bT hm rfl).elim
        ·exact (bT hm rfl).elim
       ·refine wp_exit<|bH<|bH<|dG<|aC<|wp_seq<|sq<|pr 1 E rfl fun a E=>nt<|?_
        refine wp_ret<|aP<|Le<|bV<|aY E rfl rfl<|?_
        cases hm
        exact ⟨rfl,H.reads n⟩

def rB(b:ByteArray)(c:Int):Option Bool:=
  (tO b c).bind fun d=>some (decide (d ≥ 0))
theorem E5{b:ByteArray}{c:Int}(H:Sep w (Fo) rs){r:Bool}(hm:rB b c=some r) :
    Calls Tryz.prog 241 [.string b,.int .i32 c].toArray w (Ret fun v w'=>.bool r=v∧Sep w' (Fo) (rs)):=by
 unfold rB at hm
 refine ent Tryz.func241 rfl Tryz.ntmps241 rfl rfl fun a E=>sq<|pr 1 E rfl fun a E=>nx<|pr 2 E rfl fun a E=>bd hm fun e d hm=>xk E rfl rfl rfl rfl rfl Uy (M4 H d) fun w H a E=>pr 2 E rfl fun a E=>nt<|?_
 refine wp_ret<|aY E rfl rfl<|?_
 cases hm
 exact ⟨rfl,H.reads Y0⟩

def u9(x1:Int):Option Bool:=
  (rB (ByteArray.mk #[97,98,99,100,101,102,103,104,105,106,107,108,109,110,111,112,113,114,115,116,117,118,119,120,121,122,48,49,50,51,52,53,54,55,56,57,45]) x1).bind fun b=>some (!b)
theorem Dm{x1:Int}(H:Sep w (Fo) rs){r:Bool}(hm:u9 x1=some r) :
    Calls Tryz.prog 240 [.int .i32 x1].toArray w (Ret fun v w'=>.bool r=v∧Sep w' (Fo) (rs)):=by
 unfold u9 at hm
 refine ent Tryz.func240 rfl Tryz.ntmps240 rfl rfl fun a E=>sq<|pr 1 E rfl fun a E=>nx<|pr 1 E rfl fun a E=>bd hm fun c b hm=>xk E rfl rfl rfl rfl rfl Ux (E5 H b) fun w H a E=>pr 2 E rfl fun a E=>nt<|?_
 refine wp_ret<|aY E rfl rfl<|?_
 cases hm
 exact ⟨rfl,H.reads Y0⟩

def nJ(c:ByteArray)(d:Bool):Nat→(Nat)→Option Int
  | 0,_=>none
  | e+1,b=>
    if decide (b < c.size)=true then ((u9 ((Utf8.decode c b).1:Int)).bind fun f=>if (f == d)=true then (some ((b:Int))) else (nJ c d e (b+(Utf8.decode c b).2))) else (some ((-1)))
def tP(b:ByteArray)(c:Bool):Option Int:=
  nJ b c (b.size+2) 0
theorem M5{c:ByteArray}{d:Bool}(H:Sep w (Fo) rs){r:Int}(hm:tP c d=some r) :
    Calls Tryz.prog 324 [.string c,.func (.func 240) #[] #[],.bool d].toArray w (Ret fun v w'=>.int .i64 r=v∧Sep w' (Fo) (rs)):=by
 unfold tP at hm
 refine ent Tryz.func324 rfl Tryz.ntmps324 rfl rfl fun a E=>sq<|pr 1 E rfl fun a E=>nt<|wp_seq<|sq<|pr 1 E rfl fun a E=>Cz E H (wn rfl) rfl rfl rfl rfl U9 fun k w a H E=>nt<|?_
 refine wp_block<|bX (fun b a w=>∃ j e,Env 21 a [(1,.func (.func 240) #[] #[]),(2,.bool d),(10,pt k 0)]∧Sep w (D7 k (.stringIter c j)::Fo) e∧(∀ r,r ∈ rs→r ∈ e)∧nJ c d b j=some r) (c.size+2) ?_ ?_
 ·exact ⟨_,_,E.to rfl,H,Y0,hm⟩
 ·clear E H hm
  rintro b a w ⟨j,e,E,H,f,hm⟩
  cases b with
  | zero=>exact (bT hm rfl).elim
  | succ b=>
   unfold nJ at hm
   refine sq<|cs hm (fun g hm=>?_) fun g hm=>?_
   ·refine Da (i:=0) E H (wn rfl) rfl rfl rfl rfl rfl g fun w a H E=>pr 1 E rfl fun a E=>nt<|wp_seq<|wp_cond_true (E.eval rfl)<|wp_skip<|aC<|wp_block<|sq<|?_
    refine pr 4 E rfl fun a E=>nx<|pr 2 E rfl fun a E=>bd hm fun m l hm=>aU E (wn rfl) rfl rfl (bP E rfl rfl rfl (Uw _)) (Dm H l)<|?_
    rintro _ w ⟨rfl,H⟩ a E
    refine pr 1 E rfl fun a E=>sv E rfl rfl rfl (sY E rfl rfl rfl (v:=.bool (m == d)) (by kernel_rfl)) fun a E=>nt<|wif E hm rfl (fun hm=>?_) fun hm=>?_
    ·refine sq<|pr 2 E rfl fun a E=>nt<|wp_ret<|bV<|aP<|bV<|aP<|aY E rfl rfl<|?_
     refine have H:=H.drop 0;?_
     cases hm
     exact ⟨rfl,H.reads f⟩
    ·exact wp_skip<|bY<|aC<|⟨b,Nat.lt_succ_self b,_,_,E.to rfl,H,f,hm⟩
   ·refine Db (i:=0) E H (wn rfl) rfl rfl rfl rfl rfl g fun a E=>pr 1 E rfl fun a E=>nt<|wp_seq<|wp_cond_false (E.eval rfl)<|wp_exit<|bH<|bH<|dG<|?_
    refine aC<|sq<|pr 1 E rfl fun a E=>nt<|wp_ret<|aY E rfl rfl<|have H:=H.drop 0;?_
    cases hm
    exact ⟨rfl,H.reads f⟩

def tQ(b:ByteArray):Option Int:=
  (tP b true).bind fun c=>some (c)
theorem M6{b:ByteArray}(H:Sep w (Fo) rs){r:Int}(hm:tQ b=some r) :
    Calls Tryz.prog 289 [.string b,.func (.func 240) #[] #[]].toArray w (Ret fun v w'=>.int .i64 r=v∧Sep w' (Fo) (rs)):=by
 unfold tQ at hm
 refine ent Tryz.func289 rfl Tryz.ntmps289 rfl rfl fun a E=>sq<|pr 1 E rfl fun a E=>nx<|pr 2 E rfl fun a E=>bd hm fun d c hm=>xk E rfl rfl rfl rfl rfl Uv (M5 H c) fun w H a E=>pr 1 E rfl fun a E=>nt<|?_
 refine wp_ret<|aY E rfl rfl<|?_
 cases hm
 exact ⟨rfl,H.reads Y0⟩

def rC(b:ByteArray):Option Bool:=
  (tQ b).bind fun c=>some (decide (c ≥ 0))
theorem E6{b:ByteArray}(H:Sep w (Fo) rs){r:Bool}(hm:rC b=some r) :
    Calls Tryz.prog 239 [.string b,.func (.func 240) #[] #[]].toArray w (Ret fun v w'=>.bool r=v∧Sep w' (Fo) (rs)):=by
 unfold rC at hm
 refine ent Tryz.func239 rfl Tryz.ntmps239 rfl rfl fun a E=>sq<|pr 1 E rfl fun a E=>nx<|pr 2 E rfl fun a E=>bd hm fun d c hm=>xk E rfl rfl rfl rfl rfl Uu (M6 H c) fun w H a E=>pr 2 E rfl fun a E=>nt<|?_
 refine wp_ret<|aY E rfl rfl<|?_
 cases hm
 exact ⟨rfl,H.reads Y0⟩

def wZ(b:ByteArray):Option Bool:=
  (rC b).bind fun c=>if (!(sEq b (ByteArray.mk #[])))=true then (if (decide ((b.size:Int) ≤ 12))=true then (some (!c)) else (some (false))) else (some (false))
theorem E7{d:ByteArray}(H:Sep w (Fo) rs){r:Bool}(hm:wZ d=some r) :
    Calls Tryz.prog 178 [.string d].toArray w (Ret fun v w'=>.bool r=v∧Sep w' (Fo) (rs)):=by
 unfold wZ at hm
 refine ent Tryz.func178 rfl Tryz.ntmps178 rfl rfl fun a E=>sq<|pr 1 E rfl fun a E=>nx<|pr 1 E rfl fun a E=>bd hm fun f e hm=>xk E rfl rfl rfl rfl rfl Ut (E6 H e) fun w H a E=>pr 1 E rfl fun a E=>nx<|?_
 refine pr 3 E rfl fun a E=>cs hm (fun b hm=>?_) fun b hm=>?_
 ·refine pk 5 E (kc 8 rfl b) rfl fun a E=>cs hm (fun c hm=>?_) fun c hm=>?_
  ·refine pk 4 E (kc 13 rfl c) rfl fun a E=>nt<|wp_ret<|aY E rfl rfl<|?_
   cases hm
   exact ⟨rfl,H.reads Y0⟩
  ·refine pk 4 E (kc 13 rfl c) rfl fun a E=>nt<|wp_ret<|aY E rfl rfl<|?_
   cases hm
   exact ⟨rfl,H.reads Y0⟩
 ·refine pk 9 E (kc 8 rfl b) rfl fun a E=>nt<|wp_ret<|aY E rfl rfl<|?_
  cases hm
  exact ⟨rfl,H.reads Y0⟩

def kX(c:ByteArray)(b:ByteArray):Option Bool:=
  if (decide ((c.size:Int) ≥ (b.size:Int)))=true then ((ck (0 ≤ (b.size:Int)∧(b.size:Int) ≤ c.size)).bind fun d=>some (sEq (c.extract 0 (b.size:Int).toNat) b)) else (some (false))
theorem xW{c e:ByteArray}(H:Sep w (Fo) rs){r:Bool}(hm:kX c e=some r) :
    Calls Tryz.prog 286 [.string c,.string e].toArray w (Ret fun v w'=>.bool r=v∧Sep w' (Fo) (rs)):=by
 unfold kX at hm
 refine ent Tryz.func286 rfl Tryz.ntmps286 rfl rfl fun a E=>sq<|pr 1 E rfl fun a E=>nx<|pr 6 E rfl fun a E=>cs hm (fun b hm=>?_) fun b hm=>?_
 ·refine pk 3 E (kc 10 rfl b) rfl fun a E=>bk hm fun f hm=>aQ E (ws' (d:=10) E rfl rfl rfl rfl b) rfl rfl (N6 E rfl rfl rfl U9 f) fun a E=>pk 4 E (kc 10 rfl b) rfl fun a E=>nt<|wp_ret<|aY E rfl rfl<|?_
  cases hm
  exact ⟨rfl,H.reads Y0⟩
 ·refine pk 8 E (kc 10 rfl b) rfl fun a E=>nt<|wp_ret<|aY E rfl rfl<|?_
  cases hm
  exact ⟨rfl,H.reads Y0⟩

def kY(b:ByteArray)(c:ByteArray):Option (ByteArray×Bool):=
  (kX b c).bind fun d=>if (!d)=true then (some (b,false)) else ((ck (0 ≤ (c.size:Int)∧(c.size:Int) ≤ b.size)).bind fun e=>some (b.extract (c.size:Int).toNat b.size,true))
theorem xX{b c:ByteArray}(H:Sep w (Fo) rs){r:ByteArray×Bool}(hm:kY b c=some r) :
    Calls Tryz.prog 236 [.string b,.string c].toArray w (Ret fun v w'=>.tuple #[.string r.1,.bool r.2]=v∧Sep w' (Fo) (rs)):=by
 unfold kY at hm
 refine ent Tryz.func236 rfl Tryz.ntmps236 rfl rfl fun a E=>sq<|pr 2 E rfl fun a E=>nt<|wp_seq<|sq<|pr 2 E rfl fun a E=>bd hm fun f d hm=>xk E rfl rfl rfl rfl rfl Ur (xW H d) fun w H a E=>?_
 refine pr 1 E rfl fun a E=>nt<|wif E hm rfl (fun hm=>?_) fun hm=>?_
 ·refine sq<|pr 3 E rfl fun a E=>nt<|wp_ret<|aP<|fX E rfl rfl rfl<|?_
  cases hm
  exact ⟨rfl,H.reads Y0⟩
 ·refine wp_skip<|aC<|sq<|pr 3 E rfl fun a E=>bk hm fun e hm=>sv E rfl rfl rfl (G3 E rfl rfl rfl U9 e) fun a E=>pr 2 E rfl fun a E=>nt<|wp_ret<|?_
  refine fX E rfl rfl rfl<|?_
  cases hm
  exact ⟨rfl,H.reads Y0⟩

def pT(c:ByteArray)(d:ByteArray):Option (ByteArray×Bool):=
  (kY c d).bind fun b=>some (b.1,b.2)
theorem zJ{b c:ByteArray}(H:Sep w (Fo) rs){r:ByteArray×Bool}(hm:pT b c=some r) :
    Calls Tryz.prog 172 [.string b,.string c].toArray w (Ret fun v w'=>.tuple #[.string r.1,.bool r.2]=v∧Sep w' (Fo) (rs)):=by
 unfold pT at hm
 refine ent Tryz.func172 rfl Tryz.ntmps172 rfl rfl fun a E=>sq<|pr 2 E rfl fun a E=>nx<|pr 2 E rfl fun a E=>bd hm fun e d hm=>xk E rfl rfl rfl rfl rfl Uq (xX H d) fun w H a E=>pr 4 E rfl fun a E=>nt<|?_
 refine wp_ret<|fX E rfl rfl rfl<|?_
 cases hm
 exact ⟨rfl,H.reads Y0⟩

def qO:Option ((List ByteArray)×Bool):=
  some ([],false)
def uH(rec_1:ByteArray→(List ByteArray)→Option ((List ByteArray)×Bool))(c:ByteArray×Bool)(d:(List ByteArray))(b:Int):Option ((List ByteArray)×Bool):=
  (ck (0 ≤ b∧b ≤ c.1.size)).bind fun f=>(wZ (c.1.extract 0 b.toNat)).bind fun e=>if (!e)=true then (qO) else ((ck (0 ≤ b∧b ≤ c.1.size)).bind fun g=>(ck (d.length+([c.1.extract 0 b.toNat]:List ByteArray).length ≤ LIM)).bind fun i=>(ck (0 ≤ b∧b ≤ c.1.size)).bind fun j=>rec_1 (c.1.extract b.toNat c.1.size) (d ++ ([c.1.extract 0 b.toNat]:List ByteArray)))
def nW:Nat→ByteArray→(List ByteArray)→Option ((List ByteArray)×Bool)
  | 0,_,_=>none
  | e+1,f,b=>
    if (!(sEq f (ByteArray.mk #[])))=true then ((pT f (ByteArray.mk #[47])).bind fun c=>if (!c.2)=true then (qO) else (if ((b.length:Int) == 6)=true then (qO) else ((mQ c.1 47).bind fun d=>if (decide (d < 0))=true then (uH (nW e) c b (c.1.size:Int)) else (uH (nW e) c b d)))) else (if (decide ((b.length:Int) > 0))=true then (some (b,true)) else (some ([],false)))
def yW(b:ByteArray):Option ((List ByteArray)×Bool):=
  if (sEq b (ByteArray.mk #[47]))=true then (some ([],true)) else (nW (b.size+2) b [])
theorem O8{q:ByteArray}(H:Sep w (Fo) rs){r:(List ByteArray)×Bool}(hm:yW q=some r) :
    Calls Tryz.prog 107 [.string q].toArray w (Ret fun v w'=>∃ D,.tuple #[D,.bool r.2]=v∧Sep w' (Row 9 kS D r.1::Fo) (rs)):=by
 unfold yW at hm
 refine ent Tryz.func107 rfl Tryz.ntmps107 rfl rfl fun a E=>sq<|pr 2 E rfl fun a E=>nt<|?_
 refine wp_scope_jumps 0 (fun a w=>∃ l,Env 48 a []∧Sep w (Fo) l∧(∀ r,r ∈ rs→r ∈ l)∧qO=some r) (fun _ _=>0) rfl ?_ ?_
 ·refine sq<|pr 1 E rfl fun a E=>nt<|wp_seq<|sq<|pr 2 E rfl fun a E=>nt<|wif E hm rfl (fun hm=>?_) fun hm=>?_
  ·refine sq<|pr 2 E rfl fun a E=>nt<|wp_ret<|aP<|Q9<|fX E rfl rfl rfl<|have H:=H.nilRow 9 kS;?_
   cases hm
   exact ⟨_,rfl,H.reads Y0⟩
  ·refine wp_skip<|aC<|wp_seq<|wp_block<|bX (fun g a w=>∃ m s n o,Env 48 a [(0,.string s),(4,m)]∧Sep w (Row 9 kS m n::Fo) o∧(∀ r,r ∈ rs→r ∈ o)∧nW g s n=some r) (q.size+2) ?_ ?_
   ·exact have H:=H.nilRow 9 kS;X4 ⟨E.to rfl,H,Y0,hm⟩
   ·clear E H hm
    rintro g a w ⟨m,s,n,o,E,H,f,hm⟩
    cases g with
    | zero=>exact (bT hm rfl).elim
    | succ g=>
     unfold nW at hm
     refine wp_seq<|sq<|pr 2 E rfl fun a E=>nt<|wif E hm rfl (fun hm=>?_) fun hm=>?_
     ·refine wp_skip<|aC<|wp_block<|sq<|pr 1 E rfl fun a E=>bd hm fun k t hm=>xk E rfl rfl rfl rfl rfl Mn (zJ H t) fun w H a E=>pr 5 E rfl fun a E=>nt<|?_
      refine wp_seq<|sq<|pr 3 E rfl fun a E=>cs hm (fun b hm=>?_) fun b hm=>?_
      ·refine pk 4 E (kc 19 rfl b) rfl fun a E=>nt<|wp_cond_true (E.eval rfl)<|wp_goto<|vK<|G1<|vK<|G1<|vK<|?_
       exact Er<|have H:=H.drop 0;⟨_,E.nil,H,f,hm⟩
      ·refine pk 1 E (kc 19 rfl b) rfl fun a E=>aQ E (ws' (d:=19) E rfl rfl rfl rfl b) rfl rfl (iZ (i:=0) E H rfl rfl rfl U33) fun a E=>pk 2 E (kc 19 rfl b) rfl fun a E=>nt<|wif E hm rfl (fun hm=>?_) fun hm=>?_
       ·exact wp_goto<|vK<|G1<|vK<|G1<|vK<|Er<|have H:=H.drop 0;⟨_,E.nil,H,f,hm⟩
       ·refine wp_skip<|aC<|sq<|pr 1 E rfl fun a E=>bd hm fun G u hm=>xk E rfl rfl rfl rfl rfl Hy (tN H u) fun w H a E=>pr 1 E rfl fun a E=>nt<|aT (fun a w=>∃ c j,Env 48 a [(4,m),(5,.string k.1),(7,.int .i64 c)]∧Sep w (Row 9 kS m n::Fo) j∧(∀ r,r ∈ rs→r ∈ j)∧uH (nW g) k n c=some r) ?_ ?_
        ·refine sq<|pr 2 E rfl fun a E=>nt<|wif E hm rfl (fun hm=>?_) fun hm=>?_
         ·exact wp_region_lit<|pr 3 E rfl fun a E=>nt<|⟨_,_,E.to rfl,H,f,hm⟩
         ·exact wp_skip<|aC<|⟨_,_,E.to rfl,H,f,hm⟩
        ·clear E H hm
         rintro a w ⟨c,j,E,H,p,hm⟩
         unfold uH at hm
         refine wp_seq<|sq<|pr 2 E rfl fun a E=>bk hm fun y hm=>sv E rfl rfl rfl (N6 E rfl rfl rfl U9 y) fun a E=>bd hm fun I z hm=>xk E rfl rfl rfl rfl rfl Hz (E7 H z) fun w H a E=>pr 1 E rfl fun a E=>nt<|wif E hm rfl (fun hm=>?_) fun hm=>?_
         ·exact wp_goto<|vK<|G1<|vK<|G1<|vK<|Er<|have H:=H.drop 0;⟨_,E.nil,H,p,hm⟩
         ·refine wp_skip<|aC<|sq<|pr 3 E rfl fun a E=>bk hm fun A hm=>sv E rfl rfl rfl (N6 E rfl rfl rfl U9 A) fun a E=>pI (e:=9) (d:=kS) (cs:=[.string (k.1.extract 0 c.toNat)]) (xs:=[k.1.extract 0 c.toNat]) E H (wn rfl) rfl rfl rfl (E.evs rfl) (by kernel_rfl) rfl (fun ok hr=>(Rows.single (d:=kS) (cs:=[.string (k.1.extract 0 c.toNat)]) (x:=k.1.extract 0 c.toNat) rfl)) fun J w a H E=>bk hm fun B hm=>dV (i:=0) E H (wn rfl) rfl rfl rfl rfl rfl rfl (jA m0) U33 Ia rfl B rfl fun K w a H E=>?_
          refine pr 1 E rfl fun a E=>nt<|wp_region_lit<|pr 2 E rfl fun a E=>bk hm fun C hm=>sv E rfl rfl rfl (G3 E rfl rfl rfl U9 C) fun a E=>pr 1 E rfl fun a E=>wpList_nil<|bY<|?_
          exact aC<|⟨g,Nat.lt_succ_self g,X4 ⟨E.to rfl,H,(Y1 p),hm⟩⟩
     ·refine wp_exit<|bH<|bH<|dG<|aC<|wp_seq<|sq<|pr 1 E rfl fun a E=>sv E rfl rfl rfl (iZ (i:=0) E H rfl rfl rfl U33) fun a E=>?_
      refine pr 1 E rfl fun a E=>nt<|wif E hm rfl (fun hm=>?_) fun hm=>?_
      ·refine sq<|pr 3 E rfl fun a E=>nt<|wp_ret<|aP<|Q9<|fX E rfl rfl rfl<|?_
       cases hm
       exact ⟨_,rfl,H.reads f⟩
      ·refine wp_skip<|aC<|wp_seq<|wp_label<|aC<|sq<|pr 2 E rfl fun a E=>nt<|wp_ret<|?_
       refine Q9<|fX E rfl rfl rfl<|have H:=H.nilRow 9 kS;have H:=H.drop 1;?_
       cases hm
       exact ⟨_,rfl,H.reads f⟩
 ·clear E H hm
  rintro a w ⟨l,E,H,F,hm⟩
  unfold qO at hm
  refine wp_seq<|wp_skip<|aC<|sq<|pr 2 E rfl fun a E=>nt<|wp_ret<|Q9<|fX E rfl rfl rfl<|?_
  refine have H:=H.nilRow 9 kS;?_
  cases hm
  exact ⟨_,rfl,H.reads F⟩

def fA(b:ByteArray):Option Bool:=
  (yW b).bind fun c=>some (c.2)
theorem gC{b:ByteArray}(H:Sep w (Fo) rs){r:Bool}(hm:fA b=some r) :
    Calls Tryz.prog 51 [.string b].toArray w (Ret fun v w'=>.bool r=v∧Sep w' (Fo) (rs)):=by
 unfold fA at hm
 refine ent Tryz.func51 rfl Tryz.ntmps51 rfl rfl fun a E=>sq<|pr 1 E rfl fun a E=>nx<|pr 1 E rfl fun a E=>bd hm fun d c hm=>cG E rfl rfl rfl rfl rfl Mm (O8 H c)<|?_
 rintro _ w ⟨e,rfl,H⟩ a E
 refine pr 5 E rfl fun a E=>nx<|pr 2 E rfl fun a E=>nt<|wp_ret<|aY E rfl rfl<|have H:=H.drop 0;?_
 cases hm
 exact ⟨rfl,H.reads Y0⟩

def vM(x1:dU)(b:Int)(c:Bool):Option Bool:=
  if c=true then (L8.bind fun e=>(idx ([0,13,2,19,18,16,16,20]:List Int) x1.Kind).bind fun d=>if ((Bz .i64 b d) == 0)=true then (if (x1.Kind != 7)=true then (some (true)) else (some (decide (x1.Owner > 0)))) else (some (false))) else (some (false))
def vN(x1:dU)(b:Int):Option Bool:=
  if (decide (x1.Version ≥ (-1)))=true then (vM x1 b (decide (x1.Version ≤ 281474976710656))) else (vM x1 b false)
def vO(x1:dU)(b:Int):Option Bool:=
  if (sEq x1.Path (ByteArray.mk #[47]))=true then (vN x1 (ior .i64 b 16)) else (vN x1 b)
def vP(x1:dU)(b:Int):Option Bool:=
  if x1.Turns=true then (vO x1 (ior .i64 b 8)) else (vO x1 b)
def vQ(x1:dU)(b:Int):Option Bool:=
  if (x1.Owner != 0)=true then (vP x1 (ior .i64 b 4)) else (vP x1 b)
def vR(x1:dU)(b:Int):Option Bool:=
  if (x1.Version != 0)=true then (vQ x1 (ior .i64 b 2)) else (vQ x1 b)
def nA(x1:dU)(b:Bool):Option Bool:=
  if b=true then (some (false)) else (if (!(sEq x1.Data (ByteArray.mk #[])))=true then (vR x1 (ior .i64 0 1)) else (vR x1 0))
def q7(x1:dU):Option Bool:=
  if (decide (x1.Kind < 1))=true then (nA x1 true) else (if (decide (x1.Kind > 7))=true then (nA x1 true) else ((fA x1.Path).bind fun b=>if (!b)=true then (nA x1 true) else (if (decide ((x1.Data.size:Int) > 256))=true then (nA x1 true) else ((zV x1.Owner 1099511627776).bind fun c=>nA x1 (!c)))))
theorem V3{x1:dU}(H:Sep w (Fo) rs){r:Bool}(hm:q7 x1=some r) :
    Calls Tryz.prog 99 [.agg (mY x1).toArray].toArray w (Ret fun v w'=>.bool r=v∧Sep w' (Fo) (rs)):=by
 unfold q7 at hm
 refine ent Tryz.func99 rfl Tryz.ntmps99 rfl rfl fun a E=>sq<|bS E H (wn rfl) rfl rfl rfl rfl rfl fun e w a H E=>pr 1 E rfl fun a E=>nt<|wp_seq<|aT (fun a w=>∃ K x,Env 83 a [(1,pt e 0),(30,.bool K)]∧Sep w (Blk e 60 (mY x1)::Fo) x∧(∀ r,r ∈ rs→r ∈ x)∧nA x1 K=some r) ?_ ?_
 ·refine wp_region_lit<|pr 1 E rfl fun a E=>lb E H 0 rfl rfl rfl rfl rfl rfl rfl U3 rfl fun a E=>pr 2 E rfl fun a E=>cs hm (fun j hm=>?_) fun j hm=>?_
  ·exact pk 22 E (kc 8 rfl j) rfl fun a E=>nt<|⟨_,_,E.to rfl,H,Y0,hm⟩
  ·refine pk 1 E (kc 8 rfl j) rfl fun a E=>aQ E (ws' (d:=8) E rfl rfl rfl rfl j) rfl rfl (cD (i:=0) E H rfl rfl rfl rfl U3 rfl) fun a E=>pk 3 E (kc 8 rfl j) rfl fun a E=>cs hm (fun f hm=>?_) fun f hm=>?_
   ·exact pk 17 E (kc 13 rfl f) rfl fun a E=>nt<|⟨_,_,E.to rfl,H,Y0,hm⟩
   ·refine pk 1 E (kc 13 rfl f) rfl fun a E=>aQ E (ws' (d:=13) E rfl rfl rfl rfl f) rfl rfl (cD (i:=0) E H rfl rfl rfl rfl U9 rfl) fun a E=>bd hm fun R L hm=>aU E (ws' (d:=13) E rfl rfl rfl rfl f) rfl rfl (cC E rfl rfl (yU _)) (gC H L)<|?_
    rintro _ w ⟨rfl,H⟩ a E
    refine pk 3 E (kc 13 rfl f) rfl fun a E=>cs hm (fun k hm=>?_) fun k hm=>?_
    ·exact pk 11 E (kc 19 rfl k) rfl fun a E=>nt<|⟨_,_,E.to rfl,H,Y0,hm⟩
    ·refine pk 1 E (kc 19 rfl k) rfl fun a E=>aQ E (ws' (d:=19) E rfl rfl rfl rfl k) rfl rfl (cD (i:=0) E H rfl rfl rfl rfl U9 rfl) fun a E=>pk 4 E (kc 19 rfl k) rfl fun a E=>cs hm (fun g hm=>?_) fun g hm=>?_
     ·exact pk 5 E (kc 25 rfl g) rfl fun a E=>nt<|⟨_,_,E.to rfl,H,Y0,hm⟩
     ·refine pk 1 E (kc 25 rfl g) rfl fun a E=>aQ E (ws' (d:=25) E rfl rfl rfl rfl g) rfl rfl (cD (i:=0) E H rfl rfl rfl rfl U2 rfl) fun a E=>bd hm fun S M hm=>aU E (ws' (d:=25) E rfl rfl rfl rfl g) rfl rfl (cC E rfl rfl (Vc _)) (Cn H M)<|?_
      rintro _ w ⟨rfl,H⟩ a E
      exact pk 2 E (kc 25 rfl g) rfl fun a E=>nt<|⟨_,_,E.to rfl,H,Y0,hm⟩
 ·clear E H hm
  rintro a w ⟨K,x,E,H,y,hm⟩
  unfold nA at hm
  refine wif E hm rfl (fun hm=>?_) fun hm=>?_
  ·refine sq<|pr 1 E rfl fun a E=>nt<|wp_ret<|aP<|aY E rfl rfl<|have H:=H.drop 0;?_
   cases hm
   exact ⟨rfl,H.reads y⟩
  ·refine wp_skip<|aC<|sq<|pr 1 E rfl fun a E=>nt<|aT (fun a w=>∃ N z,Env 83 a [(1,pt e 0),(3,.int .i64 N)]∧Sep w (Blk e 60 (mY x1)::Fo) z∧(∀ r,r ∈ rs→r ∈ z)∧vR x1 N=some r) ?_ ?_
   ·refine sq<|pr 1 E rfl fun a E=>lb E H 0 rfl rfl rfl rfl rfl rfl rfl U9 rfl fun a E=>pr 1 E rfl fun a E=>nt<|wif E hm rfl (fun hm=>?_) fun hm=>?_
    ·exact wp_region_lit<|pr 3 E rfl fun a E=>nt<|⟨_,_,E.to rfl,H,y,hm⟩
    ·exact wp_skip<|aC<|⟨_,_,E.to rfl,H,y,hm⟩
   ·clear E H hm
    rintro a w ⟨N,z,E,H,J,hm⟩
    unfold vR at hm
    refine aT (fun a w=>∃ O p,Env 83 a [(1,pt e 0),(3,.int .i64 O)]∧Sep w (Blk e 60 (mY x1)::Fo) p∧(∀ r,r ∈ rs→r ∈ p)∧vQ x1 O=some r) ?_ ?_
    ·refine sq<|pr 1 E rfl fun a E=>lb E H 0 rfl rfl rfl rfl rfl rfl rfl U2 rfl fun a E=>pr 1 E rfl fun a E=>nt<|wif E hm rfl (fun hm=>?_) fun hm=>?_
     ·exact wp_region_lit<|pr 3 E rfl fun a E=>nt<|⟨_,_,E.to rfl,H,J,hm⟩
     ·exact wp_skip<|aC<|⟨_,_,E.to rfl,H,J,hm⟩
    ·clear E H hm
     rintro a w ⟨O,p,E,H,A,hm⟩
     unfold vQ at hm
     refine aT (fun a w=>∃ B q,Env 83 a [(1,pt e 0),(3,.int .i64 B)]∧Sep w (Blk e 60 (mY x1)::Fo) q∧(∀ r,r ∈ rs→r ∈ q)∧vP x1 B=some r) ?_ ?_
     ·refine sq<|pr 1 E rfl fun a E=>lb E H 0 rfl rfl rfl rfl rfl rfl rfl U2 rfl fun a E=>pr 1 E rfl fun a E=>nt<|wif E hm rfl (fun hm=>?_) fun hm=>?_
      ·exact wp_region_lit<|pr 3 E rfl fun a E=>nt<|⟨_,_,E.to rfl,H,A,hm⟩
      ·exact wp_skip<|aC<|⟨_,_,E.to rfl,H,A,hm⟩
     ·clear E H hm
      rintro a w ⟨B,q,E,H,C,hm⟩
      unfold vP at hm
      refine aT (fun a w=>∃ D s,Env 83 a [(1,pt e 0),(3,.int .i64 D)]∧Sep w (Blk e 60 (mY x1)::Fo) s∧(∀ r,r ∈ rs→r ∈ s)∧vO x1 D=some r) ?_ ?_
      ·refine sq<|pr 1 E rfl fun a E=>lb E H 0 rfl rfl rfl rfl rfl rfl rfl U4 rfl fun a E=>nt<|wif E hm rfl (fun hm=>?_) fun hm=>?_
       ·exact wp_region_lit<|pr 3 E rfl fun a E=>nt<|⟨_,_,E.to rfl,H,C,hm⟩
       ·exact wp_skip<|aC<|⟨_,_,E.to rfl,H,C,hm⟩
      ·clear E H hm
       rintro a w ⟨D,s,E,H,F,hm⟩
       unfold vO at hm
       refine aT (fun a w=>∃ o t,Env 83 a [(1,pt e 0),(3,.int .i64 o)]∧Sep w (Blk e 60 (mY x1)::Fo) t∧(∀ r,r ∈ rs→r ∈ t)∧vN x1 o=some r) ?_ ?_
       ·refine sq<|pr 1 E rfl fun a E=>lb E H 0 rfl rfl rfl rfl rfl rfl rfl U9 rfl fun a E=>pr 1 E rfl fun a E=>nt<|wif E hm rfl (fun hm=>?_) fun hm=>?_
        ·exact wp_region_lit<|pr 3 E rfl fun a E=>nt<|⟨_,_,E.to rfl,H,F,hm⟩
        ·exact wp_skip<|aC<|⟨_,_,E.to rfl,H,F,hm⟩
       ·clear E H hm
        rintro a w ⟨o,t,E,H,G,hm⟩
        unfold vN at hm
        refine aT (fun a w=>∃ I u,Env 83 a [(1,pt e 0),(3,.int .i64 o),(4,.bool I)]∧Sep w (Blk e 60 (mY x1)::Fo) u∧(∀ r,r ∈ rs→r ∈ u)∧vM x1 o I=some r) ?_ ?_
        ·refine wp_region_lit<|pr 1 E rfl fun a E=>lb E H 0 rfl rfl rfl rfl rfl rfl rfl U2 rfl fun a E=>pr 2 E rfl fun a E=>cs hm (fun l hm=>?_) fun l hm=>?_
         ·exact pk 1 E (kc 58 rfl l) rfl fun a E=>aQ E (ws' (d:=58) E rfl rfl rfl rfl l) rfl rfl (cD (i:=0) E H rfl rfl rfl rfl U2 rfl) fun a E=>pk 3 E (kc 58 rfl l) rfl fun a E=>nt<|⟨_,_,E.to rfl,H,G,hm⟩
         ·exact pk 5 E (kc 58 rfl l) rfl fun a E=>nt<|⟨_,_,E.to rfl,H,G,hm⟩
        ·clear E H hm
         rintro a w ⟨I,u,E,H,n,hm⟩
         unfold vM at hm
         refine wp_seq<|dw [(0,0),(1,0),(2,0),(4,0),(5,0),(3,1),(6,0),(7,0),(8,0),(9,0),(10,0),(11,0),(12,0),(13,0),(14,0),(15,0),(16,0),(17,0),(18,0),(19,0),(20,2)] [0] [] H (by kernel_rfl) (fun _ _ _ h=>False.elim h.2) fun w W0 hI H=>fn 2 E rfl fun a E=>cs hm (fun b hm=>?_) fun b hm=>?_
         ·refine fk 2 E (kc 64 rfl b) rfl fun a E=>fb E rfl (ws' (d:=64) E rfl rfl rfl rfl b) rfl rfl rfl rfl m0 rfl U3 rfl fun a E=>bZ rfl<|bd hm fun T P hm=>aU E (ws' (d:=64) E rfl rfl rfl rfl b) rfl rfl (cC E rfl rfl (Vd _)) (Dl H P)<|?_
          rintro _ w ⟨rfl,H⟩ a E
          refine nt<|?_
          refine ⟨⟨_,_,H,(aB m0 (aL)),(aM)⟩,?_⟩
          refine bd hm fun U Q hm=>bW E rfl (ws' (d:=64) E rfl rfl rfl rfl b) rfl rfl (fun w hW=>(Nt (vs:=[.int .i64 0,.int .i64 13,.int .i64 2,.int .i64 19,.int .i64 18,.int .i64 16,.int .i64 16,.int .i64 20]) E rfl rfl rfl Rc rfl sz3 U3 rfl (Nu (Value.int .i64) (xs:=([0,13,2,19,18,16,16,20]:List Int)) Q))) fun a E=>?_
          refine fk 4 E (kc 64 rfl b) rfl fun a E=>cs hm (fun c hm=>?_) fun c hm=>?_
          ·refine fk 1 E (kc 73 rfl c) rfl fun a E=>fb E rfl (ws' (d:=73) E rfl rfl rfl rfl c) rfl rfl rfl rfl m0 rfl U3 rfl fun a E=>fk 2 E (kc 73 rfl c) rfl fun a E=>cs hm (fun m hm=>?_) fun m hm=>?_
           ·refine fk 5 E (kc' (kc 77 rfl m) 73 rfl c) rfl fun a E=>bQ rfl<|pr 1 E rfl fun a E=>nt<|bR<|?_
            clear hI
            refine aC<|wp_ret<|aY E rfl rfl<|have H:=H.drop 0;?_
            cases hm
            exact ⟨rfl,H.reads n⟩
           ·refine fk 1 E (kc 77 rfl m) rfl fun a E=>fb E rfl (ws' (d:=77) E rfl rfl rfl rfl m) rfl rfl rfl rfl m0 rfl U2 rfl fun a E=>fk 3 E (kc' (kc 77 rfl m) 73 rfl c) rfl fun a E=>bQ rfl<|pr 1 E rfl fun a E=>nt<|bR<|?_
            clear hI
            refine aC<|wp_ret<|aY E rfl rfl<|have H:=H.drop 0;?_
            cases hm
            exact ⟨rfl,H.reads n⟩
          ·refine fk 9 E (kc 73 rfl c) rfl fun a E=>bQ rfl<|pr 1 E rfl fun a E=>nt<|bR<|?_
           clear hI
           refine aC<|wp_ret<|aY E rfl rfl<|have H:=H.drop 0;?_
           cases hm
           exact ⟨rfl,H.reads n⟩
         ·refine fk 3 E (kc 64 rfl b) rfl fun a E=>bZ rfl<|pk 1 E (kc 64 rfl b) rfl fun a E=>nt<|?_
          refine ⟨⟨_,_,H,(aB m0 (aL)),(aM)⟩,?_⟩
          refine fk 14 E (kc 64 rfl b) rfl fun a E=>bQ rfl<|pr 1 E rfl fun a E=>nt<|bR<|?_
          clear hI
          refine aC<|wp_ret<|aY E rfl rfl<|have H:=H.drop 0;?_
          cases hm
          exact ⟨rfl,H.reads n⟩

def v8(x1:dU):Option Bool:=
  (q7 x1).bind fun b=>some (!b)
theorem Dn{x1:dU}(H:Sep w (Fo) rs){r:Bool}(hm:v8 x1=some r) :
    Calls Tryz.prog 98 [.agg (mY x1).toArray].toArray w (Ret fun v w'=>.bool r=v∧Sep w' (Fo) (rs)):=by
 unfold v8 at hm
 refine ent Tryz.func98 rfl Tryz.ntmps98 rfl rfl fun a E=>sq<|bS E H (wn rfl) rfl rfl rfl rfl rfl fun c w a H E=>pr 1 E rfl fun a E=>nx<|sv E rfl rfl rfl (cA (i:=0) (us:=(mY x1)) E H rfl rfl rfl rfl U60 rfl O3) fun a E=>bd hm fun d b hm=>xk E rfl rfl rfl rfl rfl Qu (V3 H b) fun w H a E=>pr 2 E rfl fun a E=>?_
 refine nt<|wp_ret<|aY E rfl rfl<|have H:=H.drop 0;?_
 cases hm
 exact ⟨rfl,H.reads Y0⟩

def gH(c:List dU):Nat→Int→Option Int
  | 0,_=>none
  | e+1,b=>
    if (decide (b < (c.length:Int)))=true then ((idx c b).bind fun f=>(v8 f).bind fun d=>if d=true then (some (b)) else (gH c e (IntKind.i64.wrap (b+1)))) else (some ((-1)))
def kZ(b:List dU):Option Int:=
  gH b (((b.length:Int) - 0:Int).toNat+1) 0
theorem xY{g:Value}{d:List dU}(H:Sep w (Fo) rs)(f:rSl xT g d ∈ rs){r:Int}(hm:kZ d=some r) :
    Calls Tryz.prog 174 [g,.func (.func 98) #[] #[]].toArray w (Ret fun v w'=>.int .i64 r=v∧Sep w' (Fo) (rs)):=by
 unfold kZ at hm
 refine ent Tryz.func174 rfl Tryz.ntmps174 rfl rfl fun a E=>sq<|pr 1 E rfl fun a E=>nt<|wp_seq<|sq<|pr 1 E rfl fun a E=>sv E rfl rfl rfl (cR E H rfl rfl f U58) fun a E=>pr 1 E rfl fun a E=>?_
 refine nt<|wp_block<|bX (fun c a w=>∃ i e,Env 19 a [(0,g),(1,.func (.func 98) #[] #[]),(7,.int .i64 (d.length:Int)),(8,.int .i64 i)]∧Sep w (Fo) e∧(∀ r,r ∈ rs→r ∈ e)∧gH d c i=some r) (((d.length:Int) - 0:Int).toNat+1) ?_ ?_
 ·exact ⟨_,_,E.to rfl,H,Y0,hm⟩
 ·clear E H hm
  rintro c a w ⟨i,e,E,H,b,hm⟩
  cases c with
  | zero=>exact (bT hm rfl).elim
  | succ c=>
   unfold gH at hm
   refine sq<|pr 1 E rfl fun a E=>nt<|wp_seq<|wif E hm rfl (fun hm=>?_) fun hm=>?_
   ·refine wp_skip<|aC<|wp_seq<|wp_block<|sq<|pr 2 E rfl fun a E=>nx<|pr 3 E rfl fun a E=>bd hm fun m k hm=>?_
    refine dE E H (wn rfl) rfl rfl rfl rfl rfl (b _ f) U58 O3 k fun q9 a H E=>ldf L7 E H rfl rfl rfl rfl rfl m0 U60 rfl O3 fun a E=>bd hm fun l j hm=>aU E (wn rfl) rfl rfl (bP E rfl rfl rfl (Yx _)) (Dn H j)<|?_
    rintro _ w ⟨rfl,H⟩ a E
    refine nt<|wif E hm rfl (fun hm=>?_) fun hm=>?_
    ·refine sq<|pr 2 E rfl fun a E=>nt<|wp_ret<|bV<|aP<|aP<|bV<|aP<|?_
     refine aY E rfl rfl<|?_
     cases hm
     exact ⟨rfl,H.reads (Y1 b)⟩
    ·exact wp_skip<|bY<|aC<|wp_region_lit<|pr 2 E rfl fun a E=>nt<|⟨c,Nat.lt_succ_self c,_,_,E.to rfl,H,(Y1 b),hm⟩
   ·refine wp_exit<|bH<|bH<|dG<|aC<|sq<|pr 1 E rfl fun a E=>nt<|wp_ret<|?_
    refine aY E rfl rfl<|?_
    cases hm
    exact ⟨rfl,H.reads b⟩

def jO(b:List dU):Option Bool:=
  (kZ b).bind fun c=>some (decide (c ≥ 0))
theorem vS{b:Value}{c:List dU}(H:Sep w (Fo) rs)(d:rSl xT b c ∈ rs){r:Bool}(hm:jO c=some r) :
    Calls Tryz.prog 97 [b,.func (.func 98) #[] #[]].toArray w (Ret fun v w'=>.bool r=v∧Sep w' (Fo) (rs)):=by
 unfold jO at hm
 refine ent Tryz.func97 rfl Tryz.ntmps97 rfl rfl fun a E=>sq<|pr 1 E rfl fun a E=>nx<|pr 2 E rfl fun a E=>bd hm fun f e hm=>xk E rfl rfl rfl rfl rfl Vb (xY H d e) fun w H a E=>pr 2 E rfl fun a E=>nt<|?_
 refine wp_ret<|aY E rfl rfl<|?_
 cases hm
 exact ⟨rfl,H.reads Y0⟩

def E8(b:List dU):Option Bool:=
  (jO b).bind fun c=>if (decide ((b.length:Int) > 0))=true then (if (decide ((b.length:Int) ≤ 8))=true then (some (!c)) else (some (false))) else (some (false))
theorem Gr{f:Value}{g:List dU}(H:Sep w (Fo) rs)(c:rSl xT f g ∈ rs){r:Bool}(hm:E8 g=some r) :
    Calls Tryz.prog 42 [f].toArray w (Ret fun v w'=>.bool r=v∧Sep w' (Fo) (rs)):=by
 unfold E8 at hm
 refine ent Tryz.func42 rfl Tryz.ntmps42 rfl rfl fun a E=>sq<|pr 1 E rfl fun a E=>nx<|pr 1 E rfl fun a E=>bd hm fun j i hm=>xk E rfl rfl rfl rfl rfl Yw (vS H c i) fun w H a E=>pr 1 E rfl fun a E=>nx<|?_
 refine pr 1 E rfl fun a E=>sv E rfl rfl rfl (cR E H rfl rfl c U58) fun a E=>pr 2 E rfl fun a E=>cs hm (fun b hm=>?_) fun b hm=>?_
 ·refine pk 1 E (kc 9 rfl b) rfl fun a E=>aQ E (ws' (d:=9) E rfl rfl rfl rfl b) rfl rfl (cR E H rfl rfl c U58) fun a E=>pk 3 E (kc 9 rfl b) rfl fun a E=>cs hm (fun e hm=>?_) fun e hm=>?_
  ·refine pk 4 E (kc 14 rfl e) rfl fun a E=>nt<|wp_ret<|aY E rfl rfl<|?_
   cases hm
   exact ⟨rfl,H.reads Y0⟩
  ·refine pk 4 E (kc 14 rfl e) rfl fun a E=>nt<|wp_ret<|aY E rfl rfl<|?_
   cases hm
   exact ⟨rfl,H.reads Y0⟩
 ·refine pk 9 E (kc 9 rfl b) rfl fun a E=>nt<|wp_ret<|aY E rfl rfl<|?_
  cases hm
  exact ⟨rfl,H.reads Y0⟩

def nK(b:List bJ)(c:List bJ):Option (List bJ):=
  (ck (c.length+b.length ≤ LIM)).bind fun d=>some (c ++ b)
theorem rD{c d:Value}{e f:List bJ}{b:Nat}(H:Sep w (Blk b 99 [d]::Row 85 cO d f::Fo) rs)(g:rSl cO c e ∈ rs){r:(List bJ)}(hm:nK e f=some r) :
    Calls Tryz.prog 100 [c,pt b 0].toArray w (Ret fun v w'=>∃ j,.tuple #[]=v∧Sep w' (Blk b 99 [j]::Row 85 cO j r::Fo) (rs)):=by
 unfold nK at hm
 refine ent Tryz.func100 rfl Tryz.ntmps100 rfl rfl fun a E=>wp_region_lit<|lb E H 0 rfl rfl rfl rfl rfl rfl rfl U99 rfl fun a E=>pr 1 E rfl fun a E=>bk hm fun k hm=>dV (i:=1) E H (wn rfl) rfl rfl rfl rfl rfl rfl (jA g) U99 Vj rfl k rfl fun m w a H E=>?_
 obtain ⟨q10,l,rfl⟩:=H.rowform (i:=1) rfl
 refine aZ (i:=0) E H (wn rfl) rfl rfl rfl rfl rfl rfl Zb rfl rfl fun w H=>wpList_nil<|oJ E rfl<|?_
 cases hm
 exact ⟨_,rfl,H.reads Y0⟩

def rE(x1:Int)(b:ByteArray)(c:ByteArray):Option bJ:=
  some ((⟨x1,b,c,(ByteArray.mk #[]),0,0,false⟩:bJ))
theorem xA{x1:Int}{k l:Nat}{b c:ByteArray}{d e f g j:Value}(H:Sep w (Blk k 9 [.string b]::Blk l 60 [d,.string c,e,f,g,j]::Fo) rs){r:bJ}(hm:rE x1 b c=some r) :
    Calls Tryz.prog 102 [.int .i64 x1,pt k 0,pt l 0].toArray w (Ret fun v w'=>.agg (cH r).toArray=v∧Sep w' (Blk k 9 [.string b]::Blk l 60 [d,.string c,e,f,g,j]::Fo) (rs)):=by
 unfold rE at hm
 refine ent Tryz.func102 rfl Tryz.ntmps102 rfl rfl fun a E=>sq<|al E H rfl rfl rfl rfl Z8 fun m w a H E=>nx<|pr 1 E rfl fun a E=>lb E H 1 rfl rfl rfl rfl rfl rfl rfl U9 rfl fun a E=>pr 1 E rfl fun a E=>lb E H 2 rfl rfl rfl rfl rfl rfl rfl U9 rfl fun a E=>sv E rfl rfl rfl (cI E rfl (E.evs rfl) (v:=.agg #[.int .i64 x1,.string b,.string c,.string (ByteArray.mk #[]),.int .i64 0,.int .i64 0,.bool false]) (by kernel_rfl)) fun a E=>?_
 refine aZ (i:=0) E H (wn rfl) rfl rfl rfl rfl rfl rfl hP rfl rfl fun w H=>nt<|wp_ret<|dH E rfl (cV (i:=0) (us:=[.int .i64 x1,.string b,.string c,.string (ByteArray.mk #[]),.int .i64 0,.int .i64 0,.bool false]) H rfl rfl rfl U85 rfl hP)<|have H:=H.drop 0;?_
 cases hm
 exact ⟨rfl,H.reads Y0⟩

def xB(x1:Int)(b:ByteArray)(c:Int):Option bJ:=
  some ((⟨x1,b,b,(ByteArray.mk #[]),0,c,false⟩:bJ))
theorem E9{x1 c:Int}{g:Nat}{b:ByteArray}{j d e f:Value}(H:Sep w (Blk g 60 [j,.string b,d,e,.int .i64 c,f]::Fo) rs){r:bJ}(hm:xB x1 b c=some r) :
    Calls Tryz.prog 103 [.int .i64 x1,pt g 0].toArray w (Ret fun v w'=>.agg (cH r).toArray=v∧Sep w' (Blk g 60 [j,.string b,d,e,.int .i64 c,f]::Fo) (rs)):=by
 unfold xB at hm
 refine ent Tryz.func103 rfl Tryz.ntmps103 rfl rfl fun a E=>sq<|al E H rfl rfl rfl rfl Z8 fun k w a H E=>nx<|pr 2 E rfl fun a E=>lb E H 1 rfl rfl rfl rfl rfl rfl rfl U9 rfl fun a E=>pr 1 E rfl fun a E=>lb E H 1 rfl rfl rfl rfl rfl rfl rfl U9 rfl fun a E=>pr 1 E rfl fun a E=>?_
 refine lb E H 1 rfl rfl rfl rfl rfl rfl rfl U2 rfl fun a E=>sv E rfl rfl rfl (cI E rfl (E.evs rfl) (v:=.agg #[.int .i64 x1,.string b,.string b,.string (ByteArray.mk #[]),.int .i64 0,.int .i64 c,.bool false]) (by kernel_rfl)) fun a E=>aZ (i:=0) E H (wn rfl) rfl rfl rfl rfl rfl rfl hP rfl rfl fun w H=>nt<|wp_ret<|dH E rfl (cV (i:=0) (us:=[.int .i64 x1,.string b,.string b,.string (ByteArray.mk #[]),.int .i64 0,.int .i64 c,.bool false]) H rfl rfl rfl U85 rfl hP)<|have H:=H.drop 0;?_
 cases hm
 exact ⟨rfl,H.reads Y0⟩

def xC(x1:Int)(c:ByteArray)(d:ByteArray)(e:Int):Option bJ:=
  (rE x1 c d).bind fun b=>some ((⟨b.Kind,b.Dir,b.Path,b.Data,e,b.Owner,b.Turns⟩:bJ))
theorem F1{x1 c:Int}{l e d:Nat}{m n:ByteArray}{f g j k:Value}(H:Sep w (Blk l 162 [.func (.func 102) #[] #[pt e 0,pt d 0]]::Blk e 9 [.string m]::Blk d 60 [f,.string n,g,.int .i64 c,j,k]::Fo) rs){r:bJ}(hm:xC x1 m n c=some r) :
    Calls Tryz.prog 104 [.int .i64 x1,pt l 0,pt d 0].toArray w (Ret fun v w'=>.agg (cH r).toArray=v∧Sep w' (Blk l 162 [.func (.func 102) #[] #[pt e 0,pt d 0]]::Blk e 9 [.string m]::Blk d 60 [f,.string n,g,.int .i64 c,j,k]::Fo) (rs)):=by
 unfold xC at hm
 refine ent Tryz.func104 rfl Tryz.ntmps104 rfl rfl fun a E=>sq<|al E H rfl rfl rfl rfl Z8 fun p w a H E=>nx<|lb E H 1 rfl rfl rfl rfl rfl rfl rfl Fm rfl fun a E=>pr 1 E rfl fun a E=>have H:=H.frs [1,1,3,3] rfl;bd hm fun b o hm=>aU E (wn rfl) rfl rfl (bP E rfl rfl rfl (Bd _)) (xA H o)<|?_
 rintro _ w ⟨rfl,H⟩ a E
 refine al E H rfl rfl rfl rfl Z8 fun q w a H E=>aZ (i:=0) E H (wn rfl) rfl rfl rfl rfl rfl rfl hP rfl rfl fun w H=>nx<|pr 1 E rfl fun a E=>lb E H 2 rfl rfl rfl rfl rfl rfl rfl U2 rfl fun a E=>pr 1 E rfl fun a E=>aZ (i:=0) E H (wn rfl) rfl rfl rfl rfl rfl rfl sz2 rfl rfl fun w H=>nx<|sv E rfl rfl rfl (cA (i:=0) (us:=[.int .i64 b.Kind,.string b.Dir,.string b.Path,.string b.Data,.int .i64 c,.int .i64 b.Owner,.bool b.Turns]) E H rfl rfl rfl rfl U85 rfl hP) fun a E=>?_
 refine aZ (i:=3) E H (wn rfl) rfl rfl rfl rfl rfl rfl hP rfl rfl fun w H=>nt<|wp_ret<|dH E rfl (cV (i:=3) (us:=[.int .i64 b.Kind,.string b.Dir,.string b.Path,.string b.Data,.int .i64 c,.int .i64 b.Owner,.bool b.Turns]) H rfl rfl rfl U85 rfl hP)<|have H:=H.drs [0,2];have H:=H.frs [1,1,2] rfl;?_
 cases hm
 exact ⟨rfl,H.reads Y0⟩

def eP(c:ByteArray):Nat→Int→Int→Option Int
  | 0,_,_=>none
  | d+1,x3,b=>
    if (decide (b ≥ 0))=true then ((idx c.data.toList b).bind fun e=>if ((e.toNat:Int) == x3)=true then (some (b)) else (eP c d x3 (IntKind.i64.wrap (b - 1)))) else (some ((-1)))
def iF(b:ByteArray)(c:Int):Option Int:=
  eP b (((IntKind.i64.wrap ((b.size:Int) - 1)) - 0:Int).toNat+2) c (IntKind.i64.wrap ((b.size:Int) - 1))
theorem tR{c:ByteArray}{g:Int}(H:Sep w (Fo) rs){r:Int}(hm:iF c g=some r) :
    Calls Tryz.prog 318 [.string c,.int .u8 g].toArray w (Ret fun v w'=>.int .i64 r=v∧Sep w' (Fo) (rs)):=by
 unfold iF at hm
 refine ent Tryz.func318 rfl Tryz.ntmps318 rfl rfl fun a E=>sq<|pr 1 E rfl fun a E=>nt<|wp_seq<|sq<|pr 4 E rfl fun a E=>nt<|wp_block<|bX (fun b a w=>∃ x3 f d,Env 19 a [(0,.string c),(1,.int .u8 x3),(5,.int .i64 f)]∧Sep w (Fo) d∧(∀ r,r ∈ rs→r ∈ d)∧eP c b x3 f=some r) (((IntKind.i64.wrap ((c.size:Int) - 1)) - 0:Int).toNat+2) ?_ ?_
 ·exact X3 ⟨E.to rfl,H,Y0,hm⟩
 ·clear E H hm
  rintro b a w ⟨x3,f,d,E,H,e,hm⟩
  cases b with
  | zero=>exact (bT hm rfl).elim
  | succ b=>
   unfold eP at hm
   refine wp_seq<|sq<|pr 2 E rfl fun a E=>nt<|wif E hm rfl (fun hm=>?_) fun hm=>?_
   ·refine wp_skip<|aC<|wp_seq<|wp_block<|sq<|pr 2 E rfl fun a E=>bd hm fun j i hm=>sv E rfl rfl rfl (Et E rfl rfl rfl U9 i) fun a E=>pr 2 E rfl fun a E=>?_
    refine nt<|wif E hm rfl (fun hm=>?_) fun hm=>?_
    ·refine sq<|pr 2 E rfl fun a E=>nt<|wp_ret<|bV<|aP<|aP<|bV<|aP<|?_
     refine aY E rfl rfl<|?_
     cases hm
     exact ⟨rfl,H.reads e⟩
    ·exact wp_skip<|bY<|aC<|wp_region_lit<|pr 3 E rfl fun a E=>nt<|⟨b,Nat.lt_succ_self b,X3 ⟨E.to rfl,H,e,hm⟩⟩
   ·refine wp_exit<|bH<|bH<|dG<|aC<|sq<|pr 1 E rfl fun a E=>nt<|wp_ret<|?_
    refine aY E rfl rfl<|?_
    cases hm
    exact ⟨rfl,H.reads e⟩

def qA(b:ByteArray)(c:Int):Option Int:=
  (iF b c).bind fun d=>some (d)
theorem B9{b:ByteArray}{c:Int}(H:Sep w (Fo) rs){r:Int}(hm:qA b c=some r) :
    Calls Tryz.prog 270 [.string b,.int .u8 c].toArray w (Ret fun v w'=>.int .i64 r=v∧Sep w' (Fo) (rs)):=by
 unfold qA at hm
 refine ent Tryz.func270 rfl Tryz.ntmps270 rfl rfl fun a E=>sq<|pr 1 E rfl fun a E=>nx<|pr 2 E rfl fun a E=>bd hm fun e d hm=>xk E rfl rfl rfl rfl rfl Vg (tR H d) fun w H a E=>pr 1 E rfl fun a E=>nt<|?_
 refine wp_ret<|aY E rfl rfl<|?_
 cases hm
 exact ⟨rfl,H.reads Y0⟩

def xI(b:ByteArray)(d:Bool):Option (ByteArray×ByteArray×Bool):=
  if d=true then (some ((ByteArray.mk #[]),(ByteArray.mk #[]),false)) else ((qA b 47).bind fun c=>(ck (0 ≤ (max c 1)∧(max c 1) ≤ b.size)).bind fun e=>(ck (0 ≤ (IntKind.i64.wrap (c+1))∧(IntKind.i64.wrap (c+1)) ≤ b.size)).bind fun f=>some (b.extract 0 (max c 1).toNat,b.extract (IntKind.i64.wrap (c+1)).toNat b.size,true))
def x9(b:ByteArray):Option (ByteArray×ByteArray×Bool):=
  (fA b).bind fun c=>if (!c)=true then (xI b true) else (xI b (sEq b (ByteArray.mk #[47])))
theorem Bp{d:ByteArray}(H:Sep w (Fo) rs){r:ByteArray×ByteArray×Bool}(hm:x9 d=some r) :
    Calls Tryz.prog 203 [.string d].toArray w (Ret fun v w'=>.tuple #[.string r.1,.string r.2.1,.bool r.2.2]=v∧Sep w' (Fo) (rs)):=by
 unfold x9 at hm
 refine ent Tryz.func203 rfl Tryz.ntmps203 rfl rfl fun a E=>sq<|pr 3 E rfl fun a E=>nt<|wp_seq<|aT (fun a w=>∃ f c,Env 23 a [(0,.string d),(12,.bool f)]∧Sep w (Fo) c∧(∀ r,r ∈ rs→r ∈ c)∧xI d f=some r) ?_ ?_
 ·refine wp_region_lit<|pr 1 E rfl fun a E=>bd hm fun l g hm=>xk E rfl rfl rfl rfl rfl yU (gC H g) fun w H a E=>pr 2 E rfl fun a E=>cs hm (fun b hm=>?_) fun b hm=>?_
  ·exact pk 3 E (kc 9 rfl b) rfl fun a E=>nt<|⟨_,_,E.to rfl,H,Y0,hm⟩
  ·exact pk 3 E (kc 9 rfl b) rfl fun a E=>nt<|⟨_,_,E.to rfl,H,Y0,hm⟩
 ·clear E H hm
  rintro a w ⟨f,c,E,H,e,hm⟩
  unfold xI at hm
  refine wif E hm rfl (fun hm=>?_) fun hm=>?_
  ·refine sq<|pr 3 E rfl fun a E=>nt<|wp_ret<|aP<|Es E rfl rfl rfl rfl<|?_
   cases hm
   exact ⟨rfl,H.reads e⟩
  ·refine wp_skip<|aC<|sq<|pr 1 E rfl fun a E=>bd hm fun m j hm=>xk E rfl rfl rfl rfl rfl Vf (B9 H j) fun w H a E=>pr 1 E rfl fun a E=>nt<|wp_seq<|?_
   refine dw [(0,0),(1,0),(2,0),(3,0),(4,0),(5,0),(6,0),(7,0),(8,1),(9,2),(10,2)] [] [] H (by kernel_rfl) (fun _ _ _ h=>False.elim h.2) fun w W0 hI H=>fn 2 E rfl fun a E=>bW E rfl (wn rfl) rfl rfl (fun w hW=>(Uh (t:=0) E rfl rfl rfl)) fun a E=>?_
   refine bk hm fun k hm=>bW E rfl (wn rfl) rfl rfl (fun w hW=>(N6 E rfl rfl rfl U9 k)) fun a E=>?_
   refine fn 3 E rfl fun a E=>bk hm fun i hm=>bW E rfl (wn rfl) rfl rfl (fun w hW=>(G3 E rfl rfl rfl U9 i)) fun a E=>?_
   refine bZ rfl<|pr 1 E rfl fun a E=>nt<|?_
   refine ⟨⟨_,_,H,(aL),(aM)⟩,?_⟩
   refine bQ rfl<|pr 1 E rfl fun a E=>nt<|bQ rfl<|pr 1 E rfl fun a E=>nt<|bR<|?_
   clear hI
   refine aC<|wp_ret<|Es E rfl rfl rfl rfl<|?_
   cases hm
   exact ⟨rfl,H.reads e⟩

def qM(c:ByteArray):Option (ByteArray×Bool):=
  (x9 c).bind fun b=>some (b.1,b.2.2)
theorem xJ{b:ByteArray}(H:Sep w (Fo) rs){r:ByteArray×Bool}(hm:qM b=some r) :
    Calls Tryz.prog 148 [.string b].toArray w (Ret fun v w'=>.tuple #[.string r.1,.bool r.2]=v∧Sep w' (Fo) (rs)):=by
 unfold qM at hm
 refine ent Tryz.func148 rfl Tryz.ntmps148 rfl rfl fun a E=>sq<|pr 2 E rfl fun a E=>nx<|pr 1 E rfl fun a E=>bd hm fun d c hm=>xk E rfl rfl rfl rfl rfl Mp (Bp H c) fun w H a E=>pr 7 E rfl fun a E=>nx<|?_
 refine pr 4 E rfl fun a E=>nt<|wp_ret<|fX E rfl rfl rfl<|?_
 cases hm
 exact ⟨rfl,H.reads Y0⟩

def r8(c:ByteArray):Option ByteArray:=
  (qM c).bind fun b=>if b.2=true then (some (b.1)) else (some ((ByteArray.mk #[47])))
theorem O9{b:ByteArray}(H:Sep w (Fo) rs){r:ByteArray}(hm:r8 b=some r) :
    Calls Tryz.prog 101 [.string b].toArray w (Ret fun v w'=>.string r=v∧Sep w' (Fo) (rs)):=by
 unfold r8 at hm
 refine ent Tryz.func101 rfl Tryz.ntmps101 rfl rfl fun a E=>sq<|pr 1 E rfl fun a E=>nt<|wp_seq<|sq<|pr 1 E rfl fun a E=>bd hm fun d c hm=>xk E rfl rfl rfl rfl rfl Dw (xJ H c) fun w H a E=>?_
 refine pr 5 E rfl fun a E=>nx<|pr 1 E rfl fun a E=>nt<|wif E hm rfl (fun hm=>?_) fun hm=>?_
 ·refine sq<|pr 2 E rfl fun a E=>nt<|wp_ret<|aP<|aY E rfl rfl<|?_
  cases hm
  exact ⟨rfl,H.reads Y0⟩
 ·refine wp_skip<|aC<|sq<|pr 1 E rfl fun a E=>nt<|wp_ret<|aY E rfl rfl<|?_
  cases hm
  exact ⟨rfl,H.reads Y0⟩

def kO(b:(List bJ)):Option (List bJ):=
  some (b)
def P1(x1:dU):Option (List bJ):=
  (q7 x1).bind fun x=>if (!x)=true then (some ([])) else ((r8 x1.Path).bind fun c=>if (x1.Kind == 1)=true then ((rE 2 c x1.Path).bind fun d=>(r8 c).bind fun e=>(nK ([(⟨1,e,c,(ByteArray.mk #[]),0,0,false⟩:bJ),(⟨d.Kind,d.Dir,d.Path,x1.Data,d.Version,x1.Owner,x1.Turns⟩:bJ)]:List bJ) []).bind fun f=>kO f) else (if (x1.Kind == 2)=true then ((xC 3 c x1.Path x1.Version).bind fun g=>(xB 4 x1.Path x1.Owner).bind fun i=>(nK ([g,i]:List bJ) []).bind fun j=>kO j) else (if (x1.Kind == 3)=true then ((xC 5 c x1.Path x1.Version).bind fun b=>(nK ([(⟨b.Kind,b.Dir,b.Path,x1.Data,b.Version,b.Owner,b.Turns⟩:bJ)]:List bJ) []).bind fun k=>kO k) else (if (x1.Kind == 4)=true then ((xC 6 c x1.Path x1.Version).bind fun l=>(nK ([l]:List bJ) []).bind fun m=>kO m) else (if (x1.Kind == 5)=true then ((rE 7 c x1.Path).bind fun n=>(nK ([n]:List bJ) []).bind fun o=>kO o) else (if (x1.Kind == 6)=true then ((rE 8 c x1.Path).bind fun p=>(xB 9 x1.Path x1.Owner).bind fun q=>(nK ([p,q]:List bJ) []).bind fun s=>kO s) else (if (x1.Kind == 7)=true then ((rE 8 c x1.Path).bind fun t=>(xB 10 x1.Path x1.Owner).bind fun u=>(nK ([t,u]:List bJ) []).bind fun v=>kO v) else (kO []))))))))
theorem Km{x1:dU}(H:Sep w (Fo) rs){r:(List bJ)}(hm:P1 x1=some r) :
    Calls Tryz.prog 43 [.agg (mY x1).toArray].toArray w (Ret fun v w'=>∃ T,T=v∧Sep w' (Row 85 cO T r::Fo) (rs)):=by
 unfold P1 at hm
 refine ent Tryz.func43 rfl Tryz.ntmps43 rfl rfl fun a E=>sq<|bS E H (wn rfl) rfl rfl rfl rfl rfl fun d0 w a H E=>pr 1 E rfl fun a E=>nt<|wp_seq<|sq<|sv E rfl rfl rfl (cA (i:=0) (us:=(mY x1)) E H rfl rfl rfl rfl U60 rfl O3) fun a E=>bd hm fun d1 U hm=>?_
 refine xk E rfl rfl rfl rfl rfl Qu (V3 H U) fun w H a E=>pr 1 E rfl fun a E=>nt<|wif E hm rfl (fun hm=>?_) fun hm=>?_
 ·refine sq<|pr 1 E rfl fun a E=>nt<|wp_ret<|aP<|aY E rfl rfl<|have H:=H.nilRow 85 cO;have H:=H.drop 1;?_
  cases hm
  exact ⟨_,rfl,H.reads Y0⟩
 ·refine wp_skip<|aC<|sq<|al1 E H rfl rfl rfl rfl Za rfl fun V w a H E=>nx<|sv E rfl rfl rfl (iP E rfl rfl rfl) fun a E=>pr 1 E rfl fun a E=>nx<|pr 1 E rfl fun a E=>?_
  refine lb E H 1 rfl rfl rfl rfl rfl rfl rfl U9 rfl fun a E=>bd hm fun s W hm=>xk E rfl rfl rfl rfl rfl Ib (O9 H W) fun w H a E=>al1 E H rfl rfl rfl rfl zr9 rfl fun d2 w a H E=>aZ (i:=0) E H (wn rfl) rfl rfl rfl rfl rfl rfl sz9 rfl rfl fun w H=>nx<|sv E rfl rfl rfl (iP E rfl rfl rfl) fun a E=>al1 E H rfl rfl rfl rfl Vh rfl fun d3 w a H E=>aZ (i:=0) E H (wn rfl) rfl rfl rfl rfl rfl rfl Vi rfl rfl fun w H=>?_
  refine nx<|sv E rfl rfl rfl (iP E rfl rfl rfl) fun a E=>pr 1 E rfl fun a E=>nx<|sv E rfl rfl rfl (iP E rfl rfl rfl) fun a E=>pr 1 E rfl fun a E=>nt<|aT (fun a w=>∃ t u q,Env 97 a [(3,pt V 0)]∧Sep w (Blk V 99 [t]::Row 85 cO t u::Fo) q∧(∀ r,r ∈ rs→r ∈ q)∧kO u=some r) ?_ ?_
  ·refine sq<|pr 1 E rfl fun a E=>lb E H 3 rfl rfl rfl rfl rfl rfl rfl U3 rfl fun a E=>nt<|wp_block<|sq<|pr 2 E rfl fun a E=>nt<|wif E hm rfl (fun hm=>?_) fun hm=>?_
   ·refine sq<|lb E H 0 rfl rfl rfl rfl rfl rfl rfl Fm rfl fun a E=>have H:=H.frs [2,1,3,3] rfl;bd hm fun c y hm=>aU E (wn rfl) rfl rfl (bP E rfl rfl rfl (Bd _)) (xA H y)<|?_
    rintro _ w ⟨rfl,H⟩ a E
    refine al E H rfl rfl rfl rfl Z8 fun X w a H E=>aZ (i:=0) E H (wn rfl) rfl rfl rfl rfl rfl rfl hP rfl rfl fun w H=>nt<|wp_seq<|dw [(0,0),(1,0),(2,0),(3,0),(4,0),(5,0),(6,0),(7,1),(8,0),(9,1),(10,2),(11,2)] [2] [] H (by kernel_rfl) (fun _ _ _ h=>False.elim h.2) fun w W0 hI H=>fn 1 E rfl fun a E=>fb E rfl (wn rfl) rfl rfl rfl rfl m0 rfl U9 rfl fun a E=>fn 1 E rfl fun a E=>fb E rfl (wn rfl) rfl rfl rfl rfl m0 rfl U2 rfl fun a E=>?_
    refine fn 1 E rfl fun a E=>fb E rfl (wn rfl) rfl rfl rfl rfl m0 rfl U4 rfl fun a E=>fn 1 E rfl fun a E=>bZ rfl<|aZ (i:=0) E H (wn rfl) rfl rfl rfl rfl rfl rfl sz9 rfl rfl fun w H=>nt<|?_
    refine ⟨⟨_,_,H,(aB mm2 (aL)),(aM)⟩,?_⟩
    refine fn 1 E rfl fun a E=>bZ rfl<|aZ (i:=0) E H (wn rfl) rfl rfl rfl rfl rfl rfl sz2 rfl rfl fun w H=>nt<|?_
    refine ⟨⟨_,_,H,(aB mm2 (aL)),(aM)⟩,?_⟩
    refine bQ rfl<|pr 1 E rfl fun a E=>nt<|bQ rfl<|aZ (i:=0) E H (wn rfl) rfl rfl rfl rfl rfl rfl sz4 rfl rfl fun w H=>nt<|bR<|?_
    clear hI
    refine aC<|dw [(0,0),(1,0),(3,0),(5,0),(2,1),(4,0),(6,1),(7,1)] [0,1] [] H (by kernel_rfl) (fun _ _ _ h=>False.elim h.2) fun w W0 hI H=>fn 1 E rfl fun a E=>fb E rfl (wn rfl) rfl rfl rfl rfl mm1 rfl U9 rfl fun a E=>fb E rfl (wn rfl) rfl rfl rfl rfl mm1 rfl U9 rfl fun a E=>fbn E [.int .i64 c.Kind,.string c.Dir,.string c.Path,.string x1.Data,.int .i64 c.Version,.int .i64 x1.Owner,.bool x1.Turns] rfl (wn rfl) rfl rfl rfl rfl m0 rfl U85 rfl hP fun a E=>bZ rfl<|bd hm fun p z hm=>xk E rfl rfl rfl rfl rfl Ib (O9 H z) fun w H a E=>?_
    refine nt<|?_
    refine ⟨⟨_,_,H,(aB m0 (aB mm1 (aL))),(aM)⟩,?_⟩
    refine bW E rfl (wn rfl) rfl rfl (fun w hW=>(cI E rfl (E.evs rfl) (v:=.agg #[.int .i64 1,.string p,.string s,.string (ByteArray.mk #[]),.int .i64 0,.int .i64 0,.bool false]) (by kernel_rfl))) fun a E=>?_
    refine bZ rfl<|fY (e:=85) (d:=cO) (cs:=[.int .i64 1,.string p,.string s,.string (ByteArray.mk #[]),.int .i64 0,.int .i64 0,.bool false,.int .i64 c.Kind,.string c.Dir,.string c.Path,.string x1.Data,.int .i64 c.Version,.int .i64 x1.Owner,.bool x1.Turns]) (xs:=[(⟨1,p,s,(ByteArray.mk #[]),0,0,false⟩:bJ),(⟨c.Kind,c.Dir,c.Path,x1.Data,c.Version,x1.Owner,x1.Turns⟩:bJ)]) E H (wn rfl) rfl rfl rfl (E.evs rfl) (by kernel_rfl) rfl rfl (fun ok hr=>(Rows.append (Rows.single (d:=cO) (cs:=[.int .i64 1,.string p,.string s,.string (ByteArray.mk #[]),.int .i64 0,.int .i64 0,.bool false]) (x:=(⟨1,p,s,(ByteArray.mk #[]),0,0,false⟩:bJ)) fU) (Rows.single (d:=cO) (cs:=[.int .i64 c.Kind,.string c.Dir,.string c.Path,.string x1.Data,.int .i64 c.Version,.int .i64 x1.Owner,.bool x1.Turns]) (x:=(⟨c.Kind,c.Dir,c.Path,x1.Data,c.Version,x1.Owner,x1.Turns⟩:bJ)) fU))) fun Y w a H E=>nt<|?_
    refine ⟨⟨_,_,H,(aB mm1 (aB mm2 (aL))),(aM)⟩,?_⟩
    refine bZ rfl<|have H:=H.thaw (i:=0) rfl;have H:=H.nilRow 85 cO;have H:=H.frs [4,4,4,4,4,5] rfl;bd hm fun Z A hm=>aU E (wn rfl) rfl rfl (bP E rfl rfl rfl (J7 _)) (rD H m0 A)<|?_
    rintro _ w ⟨b0,rfl,H⟩ a E
    refine nt<|?_
    refine ⟨⟨_,_,H,(aB mm2 (aB mm3 (aL))),(aM)⟩,?_⟩
    refine bR<|?_
    clear hI
    exact bY<|aC<|have H:=H.drs [2,2,2,2];X3 ⟨E.to rfl,H,(Y1 Y0),hm⟩
   ·refine sq<|pr 2 E rfl fun a E=>nt<|wif E hm rfl (fun hm=>?_) fun hm=>?_
    ·refine wp_region_lit<|pr 2 E rfl fun a E=>have H:=H.frs [2,3,3,3] rfl;bd hm fun f B hm=>aU E (wn rfl) rfl rfl (bP E rfl rfl rfl (Ic _)) (F1 H B)<|?_
     rintro _ w ⟨rfl,H⟩ a E
     refine pr 1 E rfl fun a E=>have H:=H.frs [3,2,2,3] rfl;bd hm fun g C hm=>aU E (wn rfl) rfl rfl (bP E rfl rfl rfl (Ie _)) (E9 H C)<|?_
     rintro _ w ⟨rfl,H⟩ a E
     refine fY (e:=85) (d:=cO) (cs:=[.int .i64 f.Kind,.string f.Dir,.string f.Path,.string f.Data,.int .i64 f.Version,.int .i64 f.Owner,.bool f.Turns,.int .i64 g.Kind,.string g.Dir,.string g.Path,.string g.Data,.int .i64 g.Version,.int .i64 g.Owner,.bool g.Turns]) (xs:=[f,g]) E H (wn rfl) rfl rfl rfl (E.evs rfl) (by kernel_rfl) rfl rfl (fun ok hr=>(Rows.append (Rows.single (d:=cO) (cs:=[.int .i64 f.Kind,.string f.Dir,.string f.Path,.string f.Data,.int .i64 f.Version,.int .i64 f.Owner,.bool f.Turns]) (x:=f) fU) (Rows.single (d:=cO) (cs:=[.int .i64 g.Kind,.string g.Dir,.string g.Path,.string g.Data,.int .i64 g.Version,.int .i64 g.Owner,.bool g.Turns]) (x:=g) fU))) fun b1 w a H E=>have H:=H.thaw (i:=0) rfl;have H:=H.nilRow 85 cO;have H:=H.frs [3,3,3,3,4] rfl;bd hm fun b2 D hm=>aU E (wn rfl) rfl rfl (bP E rfl rfl rfl (J7 _)) (rD H m0 D)<|?_
     rintro _ w ⟨b3,rfl,H⟩ a E
     exact wpList_nil<|bY<|aC<|have H:=H.drs [2,2,2];X3 ⟨E.to rfl,H,(Y1 Y0),hm⟩
    ·refine sq<|pr 2 E rfl fun a E=>nt<|wif E hm rfl (fun hm=>?_) fun hm=>?_
     ·refine sq<|pr 1 E rfl fun a E=>have H:=H.frs [2,3,3,3] rfl;bd hm fun b F hm=>aU E (wn rfl) rfl rfl (bP E rfl rfl rfl (Ic _)) (F1 H F)<|?_
      rintro _ w ⟨rfl,H⟩ a E
      refine al E H rfl rfl rfl rfl Z8 fun b4 w a H E=>aZ (i:=0) E H (wn rfl) rfl rfl rfl rfl rfl rfl hP rfl rfl fun w H=>nx<|pr 1 E rfl fun a E=>lb E H 3 rfl rfl rfl rfl rfl rfl rfl U9 rfl fun a E=>pr 1 E rfl fun a E=>aZ (i:=0) E H (wn rfl) rfl rfl rfl rfl rfl rfl sz9 rfl rfl fun w H=>nt<|wp_region_lit<|?_
      refine pr 1 E rfl fun a E=>sv E rfl rfl rfl (cA (i:=0) (us:=[.int .i64 b.Kind,.string b.Dir,.string b.Path,.string x1.Data,.int .i64 b.Version,.int .i64 b.Owner,.bool b.Turns]) E H rfl rfl rfl rfl U85 rfl hP) fun a E=>fY (e:=85) (d:=cO) (cs:=[.int .i64 b.Kind,.string b.Dir,.string b.Path,.string x1.Data,.int .i64 b.Version,.int .i64 b.Owner,.bool b.Turns]) (xs:=[(⟨b.Kind,b.Dir,b.Path,x1.Data,b.Version,b.Owner,b.Turns⟩:bJ)]) E H (wn rfl) rfl rfl rfl (E.evs rfl) (by kernel_rfl) rfl rfl (fun ok hr=>(Rows.single (d:=cO) (cs:=[.int .i64 b.Kind,.string b.Dir,.string b.Path,.string x1.Data,.int .i64 b.Version,.int .i64 b.Owner,.bool b.Turns]) (x:=(⟨b.Kind,b.Dir,b.Path,x1.Data,b.Version,b.Owner,b.Turns⟩:bJ)) fU)) fun b5 w a H E=>have H:=H.thaw (i:=0) rfl;have H:=H.nilRow 85 cO;have H:=H.frs [4,4,4,4,4,5] rfl;bd hm fun b6 G hm=>aU E (wn rfl) rfl rfl (bP E rfl rfl rfl (J7 _)) (rD H m0 G)<|?_
      rintro _ w ⟨b7,rfl,H⟩ a E
      exact wpList_nil<|bY<|aC<|have H:=H.drs [2,2,2,2];X3 ⟨E.to rfl,H,(Y1 Y0),hm⟩
     ·refine sq<|pr 2 E rfl fun a E=>nt<|wif E hm rfl (fun hm=>?_) fun hm=>?_
      ·refine wp_region_lit<|pr 2 E rfl fun a E=>have H:=H.frs [2,3,3,3] rfl;bd hm fun j I hm=>aU E (wn rfl) rfl rfl (bP E rfl rfl rfl (Ic _)) (F1 H I)<|?_
       rintro _ w ⟨rfl,H⟩ a E
       refine fY (e:=85) (d:=cO) (cs:=[.int .i64 j.Kind,.string j.Dir,.string j.Path,.string j.Data,.int .i64 j.Version,.int .i64 j.Owner,.bool j.Turns]) (xs:=[j]) E H (wn rfl) rfl rfl rfl (E.evs rfl) (by kernel_rfl) rfl rfl (fun ok hr=>(Rows.single (d:=cO) (cs:=[.int .i64 j.Kind,.string j.Dir,.string j.Path,.string j.Data,.int .i64 j.Version,.int .i64 j.Owner,.bool j.Turns]) (x:=j) fU)) fun b8 w a H E=>have H:=H.thaw (i:=0) rfl;have H:=H.nilRow 85 cO;have H:=H.frs [3,3,3,3,4] rfl;bd hm fun b9 J hm=>aU E (wn rfl) rfl rfl (bP E rfl rfl rfl (J7 _)) (rD H m0 J)<|?_
       rintro _ w ⟨c0,rfl,H⟩ a E
       exact wpList_nil<|bY<|aC<|have H:=H.drs [2,2,2];X3 ⟨E.to rfl,H,(Y1 Y0),hm⟩
      ·refine sq<|pr 2 E rfl fun a E=>nt<|wif E hm rfl (fun hm=>?_) fun hm=>?_
       ·refine wp_region_lit<|pr 1 E rfl fun a E=>lb E H 0 rfl rfl rfl rfl rfl rfl rfl Fm rfl fun a E=>have H:=H.frs [2,1,3,3] rfl;bd hm fun k K hm=>aU E (wn rfl) rfl rfl (bP E rfl rfl rfl (Bd _)) (xA H K)<|?_
        rintro _ w ⟨rfl,H⟩ a E
        refine fY (e:=85) (d:=cO) (cs:=[.int .i64 k.Kind,.string k.Dir,.string k.Path,.string k.Data,.int .i64 k.Version,.int .i64 k.Owner,.bool k.Turns]) (xs:=[k]) E H (wn rfl) rfl rfl rfl (E.evs rfl) (by kernel_rfl) rfl rfl (fun ok hr=>(Rows.single (d:=cO) (cs:=[.int .i64 k.Kind,.string k.Dir,.string k.Path,.string k.Data,.int .i64 k.Version,.int .i64 k.Owner,.bool k.Turns]) (x:=k) fU)) fun c1 w a H E=>have H:=H.thaw (i:=0) rfl;have H:=H.nilRow 85 cO;have H:=H.frs [3,3,3,3,4] rfl;bd hm fun c2 L hm=>aU E (wn rfl) rfl rfl (bP E rfl rfl rfl (J7 _)) (rD H m0 L)<|?_
        rintro _ w ⟨c3,rfl,H⟩ a E
        exact wpList_nil<|bY<|aC<|have H:=H.drs [2,2,2];X3 ⟨E.to rfl,H,(Y1 Y0),hm⟩
       ·refine sq<|pr 2 E rfl fun a E=>nt<|wif E hm rfl (fun hm=>?_) fun hm=>?_
        ·refine wp_region_lit<|pr 1 E rfl fun a E=>lb E H 0 rfl rfl rfl rfl rfl rfl rfl Fm rfl fun a E=>have H:=H.frs [2,1,3,3] rfl;bd hm fun l M hm=>aU E (wn rfl) rfl rfl (bP E rfl rfl rfl (Bd _)) (xA H M)<|?_
         rintro _ w ⟨rfl,H⟩ a E
         refine pr 1 E rfl fun a E=>have H:=H.frs [3,3,2,3] rfl;bd hm fun m N hm=>aU E (wn rfl) rfl rfl (bP E rfl rfl rfl (Ie _)) (E9 H N)<|?_
         rintro _ w ⟨rfl,H⟩ a E
         refine fY (e:=85) (d:=cO) (cs:=[.int .i64 l.Kind,.string l.Dir,.string l.Path,.string l.Data,.int .i64 l.Version,.int .i64 l.Owner,.bool l.Turns,.int .i64 m.Kind,.string m.Dir,.string m.Path,.string m.Data,.int .i64 m.Version,.int .i64 m.Owner,.bool m.Turns]) (xs:=[l,m]) E H (wn rfl) rfl rfl rfl (E.evs rfl) (by kernel_rfl) rfl rfl (fun ok hr=>(Rows.append (Rows.single (d:=cO) (cs:=[.int .i64 l.Kind,.string l.Dir,.string l.Path,.string l.Data,.int .i64 l.Version,.int .i64 l.Owner,.bool l.Turns]) (x:=l) fU) (Rows.single (d:=cO) (cs:=[.int .i64 m.Kind,.string m.Dir,.string m.Path,.string m.Data,.int .i64 m.Version,.int .i64 m.Owner,.bool m.Turns]) (x:=m) fU))) fun c4 w a H E=>have H:=H.thaw (i:=0) rfl;have H:=H.nilRow 85 cO;have H:=H.frs [3,3,3,3,4] rfl;bd hm fun c5 O hm=>aU E (wn rfl) rfl rfl (bP E rfl rfl rfl (J7 _)) (rD H m0 O)<|?_
         rintro _ w ⟨c6,rfl,H⟩ a E
         exact wpList_nil<|bY<|aC<|have H:=H.drs [2,2,2];X3 ⟨E.to rfl,H,(Y1 Y0),hm⟩
        ·refine sq<|pr 2 E rfl fun a E=>nt<|wif E hm rfl (fun hm=>?_) fun hm=>?_
         ·refine wp_region_lit<|pr 1 E rfl fun a E=>lb E H 0 rfl rfl rfl rfl rfl rfl rfl Fm rfl fun a E=>have H:=H.frs [2,1,3,3] rfl;bd hm fun n P hm=>aU E (wn rfl) rfl rfl (bP E rfl rfl rfl (Bd _)) (xA H P)<|?_
          rintro _ w ⟨rfl,H⟩ a E
          refine pr 1 E rfl fun a E=>have H:=H.frs [3,3,2,3] rfl;bd hm fun o Q hm=>aU E (wn rfl) rfl rfl (bP E rfl rfl rfl (Ie _)) (E9 H Q)<|?_
          rintro _ w ⟨rfl,H⟩ a E
          refine fY (e:=85) (d:=cO) (cs:=[.int .i64 n.Kind,.string n.Dir,.string n.Path,.string n.Data,.int .i64 n.Version,.int .i64 n.Owner,.bool n.Turns,.int .i64 o.Kind,.string o.Dir,.string o.Path,.string o.Data,.int .i64 o.Version,.int .i64 o.Owner,.bool o.Turns]) (xs:=[n,o]) E H (wn rfl) rfl rfl rfl (E.evs rfl) (by kernel_rfl) rfl rfl (fun ok hr=>(Rows.append (Rows.single (d:=cO) (cs:=[.int .i64 n.Kind,.string n.Dir,.string n.Path,.string n.Data,.int .i64 n.Version,.int .i64 n.Owner,.bool n.Turns]) (x:=n) fU) (Rows.single (d:=cO) (cs:=[.int .i64 o.Kind,.string o.Dir,.string o.Path,.string o.Data,.int .i64 o.Version,.int .i64 o.Owner,.bool o.Turns]) (x:=o) fU))) fun c7 w a H E=>have H:=H.thaw (i:=0) rfl;have H:=H.nilRow 85 cO;have H:=H.frs [3,3,3,3,4] rfl;bd hm fun c8 R hm=>aU E (wn rfl) rfl rfl (bP E rfl rfl rfl (J7 _)) (rD H m0 R)<|?_
          rintro _ w ⟨c9,rfl,H⟩ a E
          exact wpList_nil<|bY<|aC<|have H:=H.drs [2,2,2];X3 ⟨E.to rfl,H,(Y1 Y0),hm⟩
         ·exact wp_skip<|bY<|aC<|have H:=H.nilRow 85 cO;have H:=H.drs [1,1,2];have H:=H.frs [0,1] rfl;X3 ⟨E.to rfl,H,Y0,hm⟩
  ·clear E H hm
   rintro a w ⟨t,u,q,E,H,S,hm⟩
   unfold kO at hm
   refine sq<|lb E H 0 rfl rfl rfl rfl rfl rfl rfl U99 rfl fun a E=>pr 1 E rfl fun a E=>nt<|wp_ret<|aY E rfl rfl<|have H:=H.drop 0;?_
   cases hm
   exact ⟨_,rfl,H.reads S⟩

def xK(rec_1:(List cF)→Int→Option (List cF))(b:(List bJ))(d:Int):Nat→(List cF)→Int→Option (List cF)
  | 0,_,_=>none
  | f+1,c,x20=>
    if (decide (x20 < (b.length:Int)))=true then ((idx b x20).bind fun e=>(ck (c.length+([(⟨d,e⟩:cF)]:List cF).length ≤ LIM)).bind fun g=>xK rec_1 b d f (c ++ ([(⟨d,e⟩:cF)]:List cF)) (IntKind.i64.wrap (x20+1))) else (rec_1 c (IntKind.i64.wrap (d+1)))
def tA(c:List dU):Nat→(List cF)→Int→Option (List cF)
  | 0,_,_=>none
  | g+1,e,d=>
    if (decide (d < (c.length:Int)))=true then ((idx c d).bind fun f=>(P1 f).bind fun b=>xK (tA c g) b d (((b.length:Int) - 0:Int).toNat+1) e 0) else (some (e))
def K3(b:List dU):Option (List cF):=
  (E8 b).bind fun c=>if (!c)=true then (some ([])) else (tA b (((b.length:Int) - 0:Int).toNat+1) [] 0)
theorem Jj{y:Value}{f:List dU}(H:Sep w (Fo) rs)(o:rSl xT y f ∈ rs){r:(List cF)}(hm:K3 f=some r) :
    Calls Tryz.prog 16 [y].toArray w (Ret fun v w'=>∃ G,G=v∧Sep w' (Row 87 cE G r::Fo) (rs)):=by
 unfold K3 at hm
 refine ent Tryz.func16 rfl Tryz.ntmps16 rfl rfl fun a E=>sq<|pr 1 E rfl fun a E=>nt<|wp_seq<|sq<|pr 1 E rfl fun a E=>bd hm fun Q I hm=>xk E rfl rfl rfl rfl rfl Yv (Gr H o I) fun w H a E=>?_
 refine pr 1 E rfl fun a E=>nt<|wif E hm rfl (fun hm=>?_) fun hm=>?_
 ·refine sq<|pr 1 E rfl fun a E=>nt<|wp_ret<|aP<|aY E rfl rfl<|have H:=H.nilRow 87 cE;?_
  cases hm
  exact ⟨_,rfl,H.reads Y0⟩
 ·refine wp_skip<|aC<|sq<|pr 1 E rfl fun a E=>nt<|wp_seq<|sq<|pr 1 E rfl fun a E=>sv E rfl rfl rfl (cR E H rfl rfl o U58) fun a E=>?_
  refine pr 1 E rfl fun a E=>nt<|wp_block<|bX (fun g a w=>∃ A B c p,Env 34 a [(3,A),(11,y),(12,.int .i64 (f.length:Int)),(13,.int .i64 c)]∧Sep w (Row 87 cE A B::Fo) p∧(∀ r,r ∈ rs→r ∈ p)∧tA f g B c=some r) (((f.length:Int) - 0:Int).toNat+1) ?_ ?_
  ·exact have H:=H.nilRow 87 cE;X4 ⟨E.to rfl,H,Y0,hm⟩
  ·clear E H hm
   rintro g a w ⟨A,B,c,p,E,H,j,hm⟩
   cases g with
   | zero=>exact (bT hm rfl).elim
   | succ g=>
    unfold tA at hm
    refine sq<|pr 1 E rfl fun a E=>nt<|wp_seq<|wif E hm rfl (fun hm=>?_) fun hm=>?_
    ·refine wp_skip<|aC<|wp_seq<|wp_block<|sq<|pr 1 E rfl fun a E=>bd hm fun J C hm=>dE E H (wn rfl) rfl rfl rfl rfl rfl (j _ o) U58 O3 C fun q13 a H E=>ldf L7 E H rfl rfl rfl rfl rfl m0 U60 rfl O3 fun a E=>?_
     refine al E H rfl rfl rfl rfl Yy fun K w a H E=>pr 1 E rfl fun a E=>aZ (i:=0) E H (wn rfl) rfl rfl rfl rfl rfl rfl O3 rfl rfl fun w H=>nx<|sv E rfl rfl rfl (cA (i:=0) (us:=(mY J)) E H rfl rfl rfl rfl U60 rfl O3) fun a E=>bd hm fun m D hm=>cG E rfl rfl rfl rfl rfl Yz (Km H D)<|?_
     rintro _ w ⟨z,rfl,H⟩ a E
     refine sv E rfl rfl rfl (iZ (i:=0) E H rfl rfl rfl U99) fun a E=>pr 1 E rfl fun a E=>nt<|wp_block<|bX (fun n a w=>∃ q s x20 k,Env 34 a [(3,q),(4,.int .i64 c),(11,y),(12,.int .i64 (f.length:Int)),(13,.int .i64 c),(19,z),(20,.int .i64 (m.length:Int)),(21,.int .i64 x20)]∧Sep w (Row 87 cE q s::Row 85 cO z m::Fo) k∧(∀ r,r ∈ rs→r ∈ k)∧xK (tA f g) m c n s x20=some r) (((m.length:Int) - 0:Int).toNat+1) ?_ ?_
     ·exact have H:=H.drop 1;have H:=H.frs [0,1] rfl;X4 ⟨E.to rfl,H,(Y1 j),hm⟩
     ·clear E H hm
      rintro n a w ⟨q,s,x20,k,E,H,t,hm⟩
      cases n with
      | zero=>exact (bT hm rfl).elim
      | succ n=>
       unfold xK at hm
       refine sq<|pr 1 E rfl fun a E=>nt<|wp_seq<|wif E hm rfl (fun hm=>?_) fun hm=>?_
       ·refine wp_skip<|aC<|wp_seq<|wp_block<|sq<|bd hm fun b l hm=>?_
        obtain ⟨L,M,u⟩:=H.rowformNE (i:=1) rfl l
        refine sv E rfl rfl rfl (cY (d:=cO) E u rfl rfl rfl rfl U99 hP l) fun a E=>sv E rfl rfl rfl (fZ (i:=1) E H Bc u rfl rfl rfl l (us:=[.int .i64 b.Kind,.string b.Dir,.string b.Path,.string b.Data,.int .i64 b.Version,.int .i64 b.Owner,.bool b.Turns]) rfl U85 rfl hP) fun a E=>al E H rfl rfl rfl rfl Z8 fun N w a H E=>aZ (i:=0) E H (wn rfl) rfl rfl rfl rfl rfl rfl hP rfl rfl fun w H=>nt<|wp_region_lit<|pr 2 E rfl fun a E=>sv E rfl rfl rfl (cA (i:=0) (us:=(cH b)) E H rfl rfl rfl rfl U85 rfl hP) fun a E=>sv E rfl rfl rfl (cI E rfl (E.evs rfl) (v:=.agg #[.int .i64 c,.int .i64 b.Kind,.string b.Dir,.string b.Path,.string b.Data,.int .i64 b.Version,.int .i64 b.Owner,.bool b.Turns]) (by kernel_rfl)) fun a E=>?_
        refine pI (e:=87) (d:=cE) (cs:=[.int .i64 c,.int .i64 b.Kind,.string b.Dir,.string b.Path,.string b.Data,.int .i64 b.Version,.int .i64 b.Owner,.bool b.Turns]) (xs:=[(⟨c,b⟩:cF)]) E H (wn rfl) rfl rfl rfl (E.evs rfl) (by kernel_rfl) rfl (fun ok hr=>(Rows.single (d:=cE) (cs:=[.int .i64 c,.int .i64 b.Kind,.string b.Dir,.string b.Path,.string b.Data,.int .i64 b.Version,.int .i64 b.Owner,.bool b.Turns]) (x:=(⟨c,b⟩:cF)) G8)) fun O w a H E=>bk hm fun F hm=>dV (i:=1) E H (wn rfl) rfl rfl rfl rfl rfl rfl (jA m0) U26 Vk rfl F rfl fun P w a H E=>pr 1 E rfl fun a E=>wpList_nil<|bY<|aC<|wp_region_lit<|pr 2 E rfl fun a E=>?_
        exact nt<|have H:=H.drop 0;⟨n,Nat.lt_succ_self n,X4 ⟨E.to rfl,H,(Y1 t),hm⟩⟩
       ·refine wp_exit<|bH<|bH<|dG<|bY<|aC<|wp_region_lit<|pr 2 E rfl fun a E=>nt<|?_
        exact have H:=H.drop 1;⟨g,Nat.lt_succ_self g,X4 ⟨E.to rfl,H,t,hm⟩⟩
    ·refine wp_exit<|bH<|bH<|dG<|aC<|sq<|pr 2 E rfl fun a E=>nt<|wp_ret<|?_
     refine aY E rfl rfl<|?_
     cases hm
     exact ⟨_,rfl,H.reads j⟩

def hC(b:ByteArray):Option (List cF):=
  (K3 ([(⟨1,b,(ByteArray.mk #[]),0,0,false⟩:dU)]:List dU)).bind fun c=>some (c)
theorem lT{b:ByteArray}(H:Sep w (Fo) rs){r:(List cF)}(hm:hC b=some r) :
    Calls Tryz.prog 18 [.string b].toArray w (Ret fun v w'=>∃ c,c=v∧Sep w' (Row 87 cE c r::Fo) (rs)):=by
 unfold hC at hm
 refine ent Tryz.func18 rfl Tryz.ntmps18 rfl rfl fun a E=>sq<|pr 1 E rfl fun a E=>nx<|pr 1 E rfl fun a E=>sv E rfl rfl rfl (cI E rfl (E.evs rfl) (v:=.agg #[.int .i64 1,.string b,.string (ByteArray.mk #[]),.int .i64 0,.int .i64 0,.bool false]) (by kernel_rfl)) fun a E=>fY (e:=60) (d:=xT) (cs:=[.int .i64 1,.string b,.string (ByteArray.mk #[]),.int .i64 0,.int .i64 0,.bool false]) (xs:=[(⟨1,b,(ByteArray.mk #[]),0,0,false⟩:dU)]) E H (wn rfl) rfl rfl rfl (E.evs rfl) (by kernel_rfl) rfl rfl (fun ok hr=>(Rows.single (d:=xT) (cs:=[.int .i64 1,.string b,.string (ByteArray.mk #[]),.int .i64 0,.int .i64 0,.bool false]) (x:=(⟨1,b,(ByteArray.mk #[]),0,0,false⟩:dU)) V2)) fun g w a H E=>have H:=H.thaw (i:=0) rfl;bd hm fun j f hm=>?_
 refine cG E rfl rfl rfl rfl rfl Yu (Jj H m0 f)<|?_
 rintro _ w ⟨k,rfl,H⟩ a E
 refine pr 1 E rfl fun a E=>nt<|wp_ret<|aY E rfl rfl<|?_
 cases hm
 exact ⟨_,rfl,H.reads (Y1 Y0)⟩

def hF(rec_1:Int→Option Bool)(c:Int)(b:Bool):Option Bool:=
  if b=true then (some (false)) else (rec_1 (IntKind.i64.wrap (c+1)))
def fQ(b:List aH):Nat→Int→Option Bool
  | 0,_=>none
  | d+1,c=>
    if (decide (c < (b.length:Int)))=true then ((idx b c).bind fun e=>(fA e.Prefix).bind fun f=>if (!f)=true then (hF (fQ b d) c true) else (if (decide (e.Epoch < 0))=true then (hF (fQ b d) c true) else (if (decide (e.Epoch > 281474976710656))=true then (hF (fQ b d) c true) else (if (decide (e.State < 1))=true then (hF (fQ b d) c true) else (if (decide (e.State > 3))=true then (hF (fQ b d) c true) else (if (decide (c > 0))=true then ((idx b (IntKind.i64.wrap (c - 1))).bind fun g=>hF (fQ b d) c (!(sLt g.Prefix e.Prefix))) else (hF (fQ b d) c false))))))) else (some (decide ((b.length:Int) ≤ 32)))
def oL(b:List aH):Option Bool:=
  fQ b (((b.length:Int) - 0:Int).toNat+1) 0
theorem tB{q:Value}{m:List aH}(H:Sep w (Fo) rs)(p:rSl aS q m ∈ rs){r:Bool}(hm:oL m=some r) :
    Calls Tryz.prog 21 [q].toArray w (Ret fun v w'=>.bool r=v∧Sep w' (Fo) (rs)):=by
 unfold oL at hm
 refine ent Tryz.func21 rfl Tryz.ntmps21 rfl rfl fun a E=>sq<|pr 1 E rfl fun a E=>nt<|wp_seq<|sq<|pr 1 E rfl fun a E=>sv E rfl rfl rfl (cR E H rfl rfl p U32) fun a E=>pr 1 E rfl fun a E=>?_
 refine nt<|wp_block<|bX (fun n a w=>∃ s t,Env 55 a [(0,q),(5,q),(6,.int .i64 (m.length:Int)),(7,.int .i64 s)]∧Sep w (Fo) t∧(∀ r,r ∈ rs→r ∈ t)∧fQ m n s=some r) (((m.length:Int) - 0:Int).toNat+1) ?_ ?_
 ·exact ⟨_,_,E.to rfl,H,Y0,hm⟩
 ·clear E H hm
  rintro n a w ⟨s,t,E,H,c,hm⟩
  cases n with
  | zero=>exact (bT hm rfl).elim
  | succ n=>
   unfold fQ at hm
   refine sq<|pr 1 E rfl fun a E=>nt<|wp_seq<|wif E hm rfl (fun hm=>?_) fun hm=>?_
   ·refine wp_skip<|aC<|wp_seq<|wp_block<|sq<|pr 1 E rfl fun a E=>bd hm fun L D hm=>dE E H (wn rfl) rfl rfl rfl rfl rfl (c _ p) U32 gL D fun q9 a H E=>ldf gZ E H rfl rfl rfl rfl rfl m0 U31 rfl gL fun a E=>?_
    refine al E H rfl rfl rfl rfl Cg fun F w a H E=>pr 1 E rfl fun a E=>aZ (i:=0) E H (wn rfl) rfl rfl rfl rfl rfl rfl gL rfl rfl fun w H=>nt<|aT (fun a w=>∃ u o,Env 55 a [(0,q),(5,q),(6,.int .i64 (m.length:Int)),(7,.int .i64 s),(50,.bool u)]∧Sep w (Fo) o∧(∀ r,r ∈ rs→r ∈ o)∧hF (fQ m n) s u=some r) ?_ ?_
    ·obtain ⟨G,H⟩:=H.raw (t1 (c _ p))
     refine dw [(0,0),(1,0),(2,1),(3,0),(4,0),(5,0),(6,0),(7,0),(8,0),(9,0),(10,0),(11,0),(12,0),(13,0),(14,0),(15,0),(16,0),(17,0),(18,0),(19,0),(20,0),(21,0),(22,0),(23,0),(24,0),(25,0),(26,0),(27,0),(28,0),(29,0),(30,0),(31,0),(32,0),(33,0),(34,0),(35,0),(36,0),(37,0),(38,0)] [0] [0] H (by kernel_rfl) (fun _ _ _ h=>False.elim h.2) fun w W0 hI H=>fn 1 E rfl fun a E=>fb E rfl (wn rfl) rfl rfl rfl rfl m0 rfl U9 rfl fun a E=>bZ rfl<|bd hm fun I y hm=>xk E rfl rfl rfl rfl rfl yU (gC H y) fun w H a E=>nt<|?_
     refine ⟨⟨_,_,H,(aB m0 (aL)),(aA m0 (aM))⟩,?_⟩
     refine fn 2 E rfl fun a E=>cs hm (fun e hm=>?_) fun e hm=>?_
     ·refine fk 34 E (kc 16 rfl e) rfl fun a E=>bR<|?_
      clear hI
      exact aC<|have H:=H.drop 0;⟨_,_,E.to rfl,H,(Y2 c),hm⟩
     ·refine fk 1 E (kc 16 rfl e) rfl fun a E=>fb E rfl (ws' (d:=16) E rfl rfl rfl rfl e) rfl rfl rfl rfl m0 rfl U2 rfl fun a E=>fk 3 E (kc 16 rfl e) rfl fun a E=>cs hm (fun f hm=>?_) fun f hm=>?_
      ·refine fk 29 E (kc 21 rfl f) rfl fun a E=>bR<|?_
       clear hI
       exact aC<|have H:=H.drop 0;⟨_,_,E.to rfl,H,(Y2 c),hm⟩
      ·refine fk 1 E (kc 21 rfl f) rfl fun a E=>fb E rfl (ws' (d:=21) E rfl rfl rfl rfl f) rfl rfl rfl rfl m0 rfl U2 rfl fun a E=>fk 3 E (kc 21 rfl f) rfl fun a E=>cs hm (fun g hm=>?_) fun g hm=>?_
       ·refine fk 24 E (kc 26 rfl g) rfl fun a E=>bR<|?_
        clear hI
        exact aC<|have H:=H.drop 0;⟨_,_,E.to rfl,H,(Y2 c),hm⟩
       ·refine fk 1 E (kc 26 rfl g) rfl fun a E=>fb E rfl (ws' (d:=26) E rfl rfl rfl rfl g) rfl rfl rfl rfl m0 rfl U3 rfl fun a E=>fk 3 E (kc 26 rfl g) rfl fun a E=>cs hm (fun j hm=>?_) fun j hm=>?_
        ·refine fk 19 E (kc 31 rfl j) rfl fun a E=>bR<|?_
         clear hI
         exact aC<|have H:=H.drop 0;⟨_,_,E.to rfl,H,(Y2 c),hm⟩
        ·refine fk 1 E (kc 31 rfl j) rfl fun a E=>fb E rfl (ws' (d:=31) E rfl rfl rfl rfl j) rfl rfl rfl rfl m0 rfl U3 rfl fun a E=>fk 3 E (kc 31 rfl j) rfl fun a E=>cs hm (fun l hm=>?_) fun l hm=>?_
         ·refine fk 14 E (kc 36 rfl l) rfl fun a E=>bR<|?_
          clear hI
          exact aC<|have H:=H.drop 0;⟨_,_,E.to rfl,H,(Y2 c),hm⟩
         ·refine fk 3 E (kc 36 rfl l) rfl fun a E=>cs hm (fun b hm=>?_) fun b hm=>?_
          ·refine fk 3 E (kc 39 rfl b) rfl fun a E=>bd hm fun J z hm=>?_
           obtain ⟨q25,K,A,B⟩:=oO (P:=Tryz.prog) (k:=.i64) hI (oN (.head _)) U32 gL z
           refine bW E rfl (ws' (d:=39) E rfl rfl rfl rfl b) rfl rfl (fun w hW=>rI E rfl rfl rfl (A w)) fun a E=>?_
           have C:=uU B (fun _ _ _ h=>nV h)
           refine fk 1 E (kc 39 rfl b) rfl fun a E=>fa E rfl (ws' (d:=39) E rfl rfl rfl rfl b) rfl rfl rfl rfl C U9 rfl fun a E=>fk 1 E (kc 39 rfl b) rfl fun a E=>fb E rfl (ws' (d:=39) E rfl rfl rfl rfl b) rfl rfl rfl rfl m0 rfl U9 rfl fun a E=>fk 3 E (kc' (kc 39 rfl b) 36 rfl l) rfl fun a E=>bR<|?_
           clear hI
           exact aC<|have H:=H.drop 0;⟨_,_,E.to rfl,H,(Y2 c),hm⟩
          ·refine fk 11 E (kc' (kc 39 rfl b) 36 rfl l) rfl fun a E=>bR<|?_
           clear hI
           exact aC<|have H:=H.drop 0;⟨_,_,E.to rfl,H,(Y2 c),hm⟩
    ·clear E H hm
     rintro a w ⟨u,o,E,H,x,hm⟩
     unfold hF at hm
     refine wif E hm rfl (fun hm=>?_) fun hm=>?_
     ·refine sq<|pr 1 E rfl fun a E=>nt<|wp_ret<|bV<|aP<|aP<|bV<|aP<|?_
      refine aY E rfl rfl<|?_
      cases hm
      exact ⟨rfl,H.reads x⟩
     ·exact wp_skip<|bY<|aC<|wp_region_lit<|pr 2 E rfl fun a E=>nt<|⟨n,Nat.lt_succ_self n,_,_,E.to rfl,H,x,hm⟩
   ·refine wp_exit<|bH<|bH<|dG<|aC<|sq<|pr 1 E rfl fun a E=>sv E rfl rfl rfl (cR E H rfl rfl (c _ p) U32) fun a E=>pr 2 E rfl fun a E=>?_
    refine nt<|wp_ret<|aY E rfl rfl<|?_
    cases hm
    exact ⟨rfl,H.reads c⟩

def vT(x1:aE):Option ByteArray:=
  some (x1.Path)
theorem H9{x1:aE}(H:Sep w (Fo) rs){r:ByteArray}(hm:vT x1=some r) :
    Calls Tryz.prog 54 [.agg (iQ x1).toArray].toArray w (Ret fun v w'=>.string r=v∧Sep w' (Fo) (rs)):=by
 unfold vT at hm
 refine ent Tryz.func54 rfl Tryz.ntmps54 rfl rfl fun a E=>sq<|bS E H (wn rfl) rfl rfl rfl rfl rfl fun b w a H E=>pr 1 E rfl fun a E=>nx<|pr 1 E rfl fun a E=>lb E H 0 rfl rfl rfl rfl rfl rfl rfl U9 rfl fun a E=>pr 1 E rfl fun a E=>nt<|?_
 refine wp_ret<|aY E rfl rfl<|have H:=H.drop 0;?_
 cases hm
 exact ⟨rfl,H.reads Y0⟩

def lL(rec_1:Int→Option Bool)(b:Int)(c:Bool):Option Bool:=
  if c=true then (some (false)) else (rec_1 (IntKind.i64.wrap (b+1)))
def gI(c:List aE):Nat→Int→Option Bool
  | 0,_=>none
  | d+1,b=>
    if (decide (b < (c.length:Int)))=true then (if (decide (b > 0))=true then ((idx c (IntKind.i64.wrap (b - 1))).bind fun e=>(idx c b).bind fun f=>(vT e).bind fun g=>(vT f).bind fun i=>lL (gI c d) b (!(sLt g i))) else (lL (gI c d) b false)) else (some (true))
def rF(b:List aE):Option Bool:=
  gI b (((b.length:Int) - 0:Int).toNat+1) 0
theorem F2{n:Value}{f:List aE}(H:Sep w (Fo) rs)(o:rSl aF n f ∈ rs){r:Bool}(hm:rF f=some r) :
    Calls Tryz.prog 53 [n,.func (.func 54) #[] #[]].toArray w (Ret fun v w'=>.bool r=v∧Sep w' (Fo) (rs)):=by
 unfold rF at hm
 refine ent Tryz.func53 rfl Tryz.ntmps53 rfl rfl fun a E=>sq<|pr 1 E rfl fun a E=>nt<|wp_seq<|sq<|pr 1 E rfl fun a E=>sv E rfl rfl rfl (cR E H rfl rfl o U22) fun a E=>pr 1 E rfl fun a E=>?_
 refine nt<|wp_block<|bX (fun g a w=>∃ j l,Env 30 a [(0,n),(1,.func (.func 54) #[] #[]),(7,.int .i64 (f.length:Int)),(8,.int .i64 j)]∧Sep w (Fo) l∧(∀ r,r ∈ rs→r ∈ l)∧gI f g j=some r) (((f.length:Int) - 0:Int).toNat+1) ?_ ?_
 ·exact ⟨_,_,E.to rfl,H,Y0,hm⟩
 ·clear E H hm
  rintro g a w ⟨j,l,E,H,i,hm⟩
  cases g with
  | zero=>exact (bT hm rfl).elim
  | succ g=>
   unfold gI at hm
   refine sq<|pr 1 E rfl fun a E=>nt<|wp_seq<|wif E hm rfl (fun hm=>?_) fun hm=>?_
   ·refine wp_skip<|aC<|wp_seq<|wp_block<|sq<|pr 2 E rfl fun a E=>nt<|aT (fun a w=>∃ q m,Env 30 a [(0,n),(1,.func (.func 54) #[] #[]),(7,.int .i64 (f.length:Int)),(8,.int .i64 j),(28,.bool q)]∧Sep w (Fo) m∧(∀ r,r ∈ rs→r ∈ m)∧lL (gI f g) j q=some r) ?_ ?_
    ·obtain ⟨C,H⟩:=H.raw (i _ o)
     refine dw [(0,0),(1,0),(2,0),(3,0),(4,0),(5,0),(6,0),(7,0),(8,0),(10,0),(11,0),(12,0),(13,0),(14,0),(9,1),(15,1),(16,0),(17,0)] [] [0] H (by kernel_rfl) (fun _ _ _ h=>False.elim h.2) fun w W0 hI H=>fn 3 E rfl fun a E=>cs hm (fun b hm=>?_) fun b hm=>?_
     ·refine fk 4 E (kc 13 rfl b) rfl fun a E=>bd hm fun c s hm=>?_
      obtain ⟨q14,D,t,u⟩:=oO (P:=Tryz.prog) (k:=.i64) hI (oN (.head _)) U22 iR s
      refine bW E rfl (ws' (d:=13) E rfl rfl rfl rfl b) rfl rfl (fun w hW=>rI E rfl rfl rfl (t w)) fun a E=>?_
      refine bW E rfl (ws' (d:=13) E rfl rfl rfl rfl b) rfl rfl (fun w hW=>eZ E rfl rfl (Am (cs:=[.string c.Path,.string c.Data,.int .i64 c.Version,.int .i64 c.Turn,.int .i64 c.Owner]) (DR.ir (Ao u)) (fun _ _ _ h=>yQ h) U95 rfl iR w hW)) fun a E=>?_
      refine fk 3 E (kc 13 rfl b) rfl fun a E=>bd hm fun e x hm=>?_
      obtain ⟨q20,F,y,z⟩:=oO (P:=Tryz.prog) (k:=.i64) hI (oN (.head _)) U22 iR x
      refine bW E rfl (ws' (d:=13) E rfl rfl rfl rfl b) rfl rfl (fun w hW=>rI E rfl rfl rfl (y w)) fun a E=>?_
      refine bW E rfl (ws' (d:=13) E rfl rfl rfl rfl b) rfl rfl (fun w hW=>eZ E rfl rfl (Am (cs:=[.string e.Path,.string e.Data,.int .i64 e.Version,.int .i64 e.Turn,.int .i64 e.Owner]) (DR.ir (Ao z)) (fun _ _ _ h=>yQ h) U95 rfl iR w hW)) fun a E=>?_
      refine bZ rfl<|bd hm fun G A hm=>aU E (ws' (d:=13) E rfl rfl rfl rfl b) rfl rfl (bP E rfl rfl rfl (Qp _)) (H9 H A)<|?_
      rintro _ w ⟨rfl,H⟩ a E
      refine nt<|?_
      refine ⟨⟨_,_,H,(aL),(aA m0 (aM))⟩,?_⟩
      refine bZ rfl<|bd hm fun I B hm=>aU E (ws' (d:=13) E rfl rfl rfl rfl b) rfl rfl (bP E rfl rfl rfl (Qp _)) (H9 H B)<|?_
      rintro _ w ⟨rfl,H⟩ a E
      refine nt<|?_
      refine ⟨⟨_,_,H,(aL),(aA m0 (aM))⟩,?_⟩
      refine fk 2 E (kc 13 rfl b) rfl fun a E=>bR<|?_
      clear hI
      exact aC<|⟨_,_,E.to rfl,H,(Y1 i),hm⟩
     ·refine fk 11 E (kc 13 rfl b) rfl fun a E=>bZ rfl<|pk 1 E (kc 13 rfl b) rfl fun a E=>nt<|?_
      refine ⟨⟨_,_,H,(aL),(aA m0 (aM))⟩,?_⟩
      refine bZ rfl<|pk 1 E (kc 13 rfl b) rfl fun a E=>nt<|?_
      refine ⟨⟨_,_,H,(aL),(aA m0 (aM))⟩,?_⟩
      refine fk 2 E (kc 13 rfl b) rfl fun a E=>bR<|?_
      clear hI
      exact aC<|⟨_,_,E.to rfl,H,(Y1 i),hm⟩
    ·clear E H hm
     rintro a w ⟨q,m,E,H,p,hm⟩
     unfold lL at hm
     refine wif E hm rfl (fun hm=>?_) fun hm=>?_
     ·refine sq<|pr 1 E rfl fun a E=>nt<|wp_ret<|bV<|aP<|aP<|bV<|aP<|?_
      refine aY E rfl rfl<|?_
      cases hm
      exact ⟨rfl,H.reads p⟩
     ·exact wp_skip<|bY<|aC<|wp_region_lit<|pr 2 E rfl fun a E=>nt<|⟨g,Nat.lt_succ_self g,_,_,E.to rfl,H,p,hm⟩
   ·refine wp_exit<|bH<|bH<|dG<|aC<|sq<|pr 1 E rfl fun a E=>nt<|wp_ret<|?_
    refine aY E rfl rfl<|?_
    cases hm
    exact ⟨rfl,H.reads i⟩

def vU(x1:aI):Option ByteArray:=
  some (x1.Dir)
theorem I1{x1:aI}(H:Sep w (Fo) rs){r:ByteArray}(hm:vU x1=some r) :
    Calls Tryz.prog 56 [.agg #[.string x1.Dir,.int .i64 x1.Next]].toArray w (Ret fun v w'=>.string r=v∧Sep w' (Fo) (rs)):=by
 unfold vU at hm
 refine ent Tryz.func56 rfl Tryz.ntmps56 rfl rfl fun a E=>sq<|bS E H (wn rfl) rfl rfl rfl rfl rfl fun b w a H E=>pr 1 E rfl fun a E=>nx<|pr 1 E rfl fun a E=>lb E H 0 rfl rfl rfl rfl rfl rfl rfl U9 rfl fun a E=>pr 1 E rfl fun a E=>nt<|?_
 refine wp_ret<|aY E rfl rfl<|have H:=H.drop 0;?_
 cases hm
 exact ⟨rfl,H.reads Y0⟩

def lM(rec_1:Int→Option Bool)(b:Int)(c:Bool):Option Bool:=
  if c=true then (some (false)) else (rec_1 (IntKind.i64.wrap (b+1)))
def gJ(c:List aI):Nat→Int→Option Bool
  | 0,_=>none
  | d+1,b=>
    if (decide (b < (c.length:Int)))=true then (if (decide (b > 0))=true then ((idx c (IntKind.i64.wrap (b - 1))).bind fun e=>(idx c b).bind fun f=>(vU e).bind fun g=>(vU f).bind fun i=>lM (gJ c d) b (!(sLt g i))) else (lM (gJ c d) b false)) else (some (true))
def rG(b:List aI):Option Bool:=
  gJ b (((b.length:Int) - 0:Int).toNat+1) 0
theorem F3{l:Value}{c:List aI}(H:Sep w (Fo) rs)(m:rSl aJ l c ∈ rs){r:Bool}(hm:rG c=some r) :
    Calls Tryz.prog 55 [l,.func (.func 56) #[] #[]].toArray w (Ret fun v w'=>.bool r=v∧Sep w' (Fo) (rs)):=by
 unfold rG at hm
 refine ent Tryz.func55 rfl Tryz.ntmps55 rfl rfl fun a E=>sq<|pr 1 E rfl fun a E=>nt<|wp_seq<|sq<|pr 1 E rfl fun a E=>sv E rfl rfl rfl (cR E H rfl rfl m U23) fun a E=>pr 1 E rfl fun a E=>?_
 refine nt<|wp_block<|bX (fun e a w=>∃ g i,Env 30 a [(0,l),(1,.func (.func 56) #[] #[]),(7,.int .i64 (c.length:Int)),(8,.int .i64 g)]∧Sep w (Fo) i∧(∀ r,r ∈ rs→r ∈ i)∧gJ c e g=some r) (((c.length:Int) - 0:Int).toNat+1) ?_ ?_
 ·exact ⟨_,_,E.to rfl,H,Y0,hm⟩
 ·clear E H hm
  rintro e a w ⟨g,i,E,H,f,hm⟩
  cases e with
  | zero=>exact (bT hm rfl).elim
  | succ e=>
   unfold gJ at hm
   refine sq<|pr 1 E rfl fun a E=>nt<|wp_seq<|wif E hm rfl (fun hm=>?_) fun hm=>?_
   ·refine wp_skip<|aC<|wp_seq<|wp_block<|sq<|pr 2 E rfl fun a E=>nt<|aT (fun a w=>∃ q j,Env 30 a [(0,l),(1,.func (.func 56) #[] #[]),(7,.int .i64 (c.length:Int)),(8,.int .i64 g),(28,.bool q)]∧Sep w (Fo) j∧(∀ r,r ∈ rs→r ∈ j)∧lM (gJ c e) g q=some r) ?_ ?_
    ·obtain ⟨C,H⟩:=H.raw (f _ m)
     refine dw [(0,0),(1,0),(2,0),(3,0),(4,0),(5,0),(6,0),(7,0),(8,0),(10,0),(11,0),(12,0),(13,0),(14,0),(9,1),(15,1),(16,0),(17,0)] [] [0] H (by kernel_rfl) (fun _ _ _ h=>False.elim h.2) fun w W0 hI H=>fn 3 E rfl fun a E=>cs hm (fun b hm=>?_) fun b hm=>?_
     ·refine fk 4 E (kc 13 rfl b) rfl fun a E=>bd hm fun n s hm=>?_
      obtain ⟨q14,D,t,u⟩:=oO (P:=Tryz.prog) (k:=.i64) hI (oN (.head _)) U23 oK s
      refine bW E rfl (ws' (d:=13) E rfl rfl rfl rfl b) rfl rfl (fun w hW=>rI E rfl rfl rfl (t w)) fun a E=>?_
      refine bW E rfl (ws' (d:=13) E rfl rfl rfl rfl b) rfl rfl (fun w hW=>eZ E rfl rfl (Am (cs:=[.string n.Dir,.int .i64 n.Next]) (DR.ir (Ao u)) (fun _ _ _ h=>yR h) U77 rfl oK w hW)) fun a E=>?_
      refine fk 3 E (kc 13 rfl b) rfl fun a E=>bd hm fun o x hm=>?_
      obtain ⟨q20,F,y,z⟩:=oO (P:=Tryz.prog) (k:=.i64) hI (oN (.head _)) U23 oK x
      refine bW E rfl (ws' (d:=13) E rfl rfl rfl rfl b) rfl rfl (fun w hW=>rI E rfl rfl rfl (y w)) fun a E=>?_
      refine bW E rfl (ws' (d:=13) E rfl rfl rfl rfl b) rfl rfl (fun w hW=>eZ E rfl rfl (Am (cs:=[.string o.Dir,.int .i64 o.Next]) (DR.ir (Ao z)) (fun _ _ _ h=>yR h) U77 rfl oK w hW)) fun a E=>?_
      refine bZ rfl<|bd hm fun G A hm=>aU E (ws' (d:=13) E rfl rfl rfl rfl b) rfl rfl (bP E rfl rfl rfl (Qq _)) (I1 H A)<|?_
      rintro _ w ⟨rfl,H⟩ a E
      refine nt<|?_
      refine ⟨⟨_,_,H,(aL),(aA m0 (aM))⟩,?_⟩
      refine bZ rfl<|bd hm fun I B hm=>aU E (ws' (d:=13) E rfl rfl rfl rfl b) rfl rfl (bP E rfl rfl rfl (Qq _)) (I1 H B)<|?_
      rintro _ w ⟨rfl,H⟩ a E
      refine nt<|?_
      refine ⟨⟨_,_,H,(aL),(aA m0 (aM))⟩,?_⟩
      refine fk 2 E (kc 13 rfl b) rfl fun a E=>bR<|?_
      clear hI
      exact aC<|⟨_,_,E.to rfl,H,(Y1 f),hm⟩
     ·refine fk 11 E (kc 13 rfl b) rfl fun a E=>bZ rfl<|pk 1 E (kc 13 rfl b) rfl fun a E=>nt<|?_
      refine ⟨⟨_,_,H,(aL),(aA m0 (aM))⟩,?_⟩
      refine bZ rfl<|pk 1 E (kc 13 rfl b) rfl fun a E=>nt<|?_
      refine ⟨⟨_,_,H,(aL),(aA m0 (aM))⟩,?_⟩
      refine fk 2 E (kc 13 rfl b) rfl fun a E=>bR<|?_
      clear hI
      exact aC<|⟨_,_,E.to rfl,H,(Y1 f),hm⟩
    ·clear E H hm
     rintro a w ⟨q,j,E,H,p,hm⟩
     unfold lM at hm
     refine wif E hm rfl (fun hm=>?_) fun hm=>?_
     ·refine sq<|pr 1 E rfl fun a E=>nt<|wp_ret<|bV<|aP<|aP<|bV<|aP<|?_
      refine aY E rfl rfl<|?_
      cases hm
      exact ⟨rfl,H.reads p⟩
     ·exact wp_skip<|bY<|aC<|wp_region_lit<|pr 2 E rfl fun a E=>nt<|⟨e,Nat.lt_succ_self e,_,_,E.to rfl,H,p,hm⟩
   ·refine wp_exit<|bH<|bH<|dG<|aC<|sq<|pr 1 E rfl fun a E=>nt<|wp_ret<|?_
    refine aY E rfl rfl<|?_
    cases hm
    exact ⟨rfl,H.reads f⟩

def tC(x1:Int)(b:Int)(x3:Int):Option Bool:=
  if (decide (x1 ≥ b))=true then (some (decide (x1 ≤ x3))) else (some (false))
theorem w3{x1 c x3:Int}(H:Sep w (Fo) rs){r:Bool}(hm:tC x1 c x3=some r) :
    Calls Tryz.prog 52 [.int .i64 x1,.int .i64 c,.int .i64 x3].toArray w (Ret fun v w'=>.bool r=v∧Sep w' (Fo) (rs)):=by
 unfold tC at hm
 refine ent Tryz.func52 rfl Tryz.ntmps52 rfl rfl fun a E=>sq<|pr 1 E rfl fun a E=>nx<|pr 4 E rfl fun a E=>cs hm (fun b hm=>?_) fun b hm=>?_
 ·refine pk 5 E (kc 10 rfl b) rfl fun a E=>nt<|wp_ret<|aY E rfl rfl<|?_
  cases hm
  exact ⟨rfl,H.reads Y0⟩
 ·refine pk 5 E (kc 10 rfl b) rfl fun a E=>nt<|wp_ret<|aY E rfl rfl<|?_
  cases hm
  exact ⟨rfl,H.reads Y0⟩

def xL(d:ByteArray)(e:ByteArray)(x3:Int)(f:Int)(g:Int):Option Bool:=
  (fA d).bind fun i=>if i=true then (if (decide ((e.size:Int) ≤ 256))=true then ((tC x3 f 281474976710656).bind fun b=>if b=true then ((tC g 0 1099511627776).bind fun c=>some (c)) else (some (false))) else (some (false))) else (some (false))
theorem L9{i j:ByteArray}{x3 k l:Int}(H:Sep w (Fo) rs){r:Bool}(hm:xL i j x3 k l=some r) :
    Calls Tryz.prog 48 [.string i,.string j,.int .i64 x3,.int .i64 k,.int .i64 l].toArray w (Ret fun v w'=>.bool r=v∧Sep w' (Fo) (rs)):=by
 unfold xL at hm
 refine ent Tryz.func48 rfl Tryz.ntmps48 rfl rfl fun a E=>sq<|pr 1 E rfl fun a E=>nx<|pr 1 E rfl fun a E=>bd hm fun p m hm=>xk E rfl rfl rfl rfl rfl yU (gC H m) fun w H a E=>pr 1 E rfl fun a E=>cs hm (fun e hm=>?_) fun e hm=>?_
 ·refine pk 5 E (kc 13 rfl e) rfl fun a E=>cs hm (fun c hm=>?_) fun c hm=>?_
  ·refine pk 2 E (kc 18 rfl c) rfl fun a E=>bd hm fun n f hm=>aU E (ws' (d:=18) E rfl rfl rfl rfl c) rfl rfl (cC E rfl rfl (Lp _)) (w3 H f)<|?_
   rintro _ w ⟨rfl,H⟩ a E
   refine pk 2 E (kc 18 rfl c) rfl fun a E=>cs hm (fun b hm=>?_) fun b hm=>?_
   ·refine pk 1 E (kc 23 rfl b) rfl fun a E=>bd hm fun o g hm=>aU E (ws' (d:=23) E rfl rfl rfl rfl b) rfl rfl (cC E rfl rfl (Lp _)) (w3 H g)<|?_
    rintro _ w ⟨rfl,H⟩ a E
    refine pk 2 E (kc 23 rfl b) rfl fun a E=>nt<|wp_ret<|aY E rfl rfl<|?_
    cases hm
    exact ⟨rfl,H.reads Y0⟩
   ·refine pk 4 E (kc 23 rfl b) rfl fun a E=>nt<|wp_ret<|aY E rfl rfl<|?_
    cases hm
    exact ⟨rfl,H.reads Y0⟩
  ·refine pk 9 E (kc 18 rfl c) rfl fun a E=>nt<|wp_ret<|aY E rfl rfl<|?_
   cases hm
   exact ⟨rfl,H.reads Y0⟩
 ·refine pk 14 E (kc 13 rfl e) rfl fun a E=>nt<|wp_ret<|aY E rfl rfl<|?_
  cases hm
  exact ⟨rfl,H.reads Y0⟩

def zW(x1:aE):Option Bool:=
  if (x1.Turn != 0)=true then (some (true)) else ((xL x1.Path x1.Data x1.Version 0 x1.Owner).bind fun b=>some (!b))
theorem Co{x1:aE}(H:Sep w (Fo) rs){r:Bool}(hm:zW x1=some r) :
    Calls Tryz.prog 47 [.agg (iQ x1).toArray].toArray w (Ret fun v w'=>.bool r=v∧Sep w' (Fo) (rs)):=by
 unfold zW at hm
 refine ent Tryz.func47 rfl Tryz.ntmps47 rfl rfl fun a E=>sq<|bS E H (wn rfl) rfl rfl rfl rfl rfl fun e w a H E=>pr 1 E rfl fun a E=>nx<|pr 1 E rfl fun a E=>lb E H 0 rfl rfl rfl rfl rfl rfl rfl U2 rfl fun a E=>pr 2 E rfl fun a E=>cs hm (fun b hm=>?_) fun b hm=>?_
 ·refine pk 12 E (kc 6 rfl b) rfl fun a E=>nt<|wp_ret<|aY E rfl rfl<|have H:=H.drop 0;?_
  cases hm
  exact ⟨rfl,H.reads Y0⟩
 ·refine pk 1 E (kc 6 rfl b) rfl fun a E=>aQ E (ws' (d:=6) E rfl rfl rfl rfl b) rfl rfl (cD (i:=0) E H rfl rfl rfl rfl U9 rfl) fun a E=>pk 1 E (kc 6 rfl b) rfl fun a E=>aQ E (ws' (d:=6) E rfl rfl rfl rfl b) rfl rfl (cD (i:=0) E H rfl rfl rfl rfl U9 rfl) fun a E=>pk 1 E (kc 6 rfl b) rfl fun a E=>aQ E (ws' (d:=6) E rfl rfl rfl rfl b) rfl rfl (cD (i:=0) E H rfl rfl rfl rfl U2 rfl) fun a E=>pk 1 E (kc 6 rfl b) rfl fun a E=>aQ E (ws' (d:=6) E rfl rfl rfl rfl b) rfl rfl (cD (i:=0) E H rfl rfl rfl rfl U2 rfl) fun a E=>bd hm fun f c hm=>?_
  refine aU E (ws' (d:=6) E rfl rfl rfl rfl b) rfl rfl (cC E rfl rfl (Qk _)) (L9 H c)<|?_
  rintro _ w ⟨rfl,H⟩ a E
  refine pk 3 E (kc 6 rfl b) rfl fun a E=>nt<|wp_ret<|aY E rfl rfl<|have H:=H.drop 0;?_
  cases hm
  exact ⟨rfl,H.reads Y0⟩

def fN(c:List aE):Nat→Int→Option Int
  | 0,_=>none
  | e+1,b=>
    if (decide (b < (c.length:Int)))=true then ((idx c b).bind fun f=>(zW f).bind fun d=>if d=true then (some (b)) else (fN c e (IntKind.i64.wrap (b+1)))) else (some ((-1)))
def jE(b:List aE):Option Int:=
  fN b (((b.length:Int) - 0:Int).toNat+1) 0
theorem uV{g:Value}{d:List aE}(H:Sep w (Fo) rs)(f:rSl aF g d ∈ rs){r:Int}(hm:jE d=some r) :
    Calls Tryz.prog 105 [g,.func (.func 47) #[] #[]].toArray w (Ret fun v w'=>.int .i64 r=v∧Sep w' (Fo) (rs)):=by
 unfold jE at hm
 refine ent Tryz.func105 rfl Tryz.ntmps105 rfl rfl fun a E=>sq<|pr 1 E rfl fun a E=>nt<|wp_seq<|sq<|pr 1 E rfl fun a E=>sv E rfl rfl rfl (cR E H rfl rfl f U22) fun a E=>pr 1 E rfl fun a E=>?_
 refine nt<|wp_block<|bX (fun c a w=>∃ i e,Env 19 a [(0,g),(1,.func (.func 47) #[] #[]),(7,.int .i64 (d.length:Int)),(8,.int .i64 i)]∧Sep w (Fo) e∧(∀ r,r ∈ rs→r ∈ e)∧fN d c i=some r) (((d.length:Int) - 0:Int).toNat+1) ?_ ?_
 ·exact ⟨_,_,E.to rfl,H,Y0,hm⟩
 ·clear E H hm
  rintro c a w ⟨i,e,E,H,b,hm⟩
  cases c with
  | zero=>exact (bT hm rfl).elim
  | succ c=>
   unfold fN at hm
   refine sq<|pr 1 E rfl fun a E=>nt<|wp_seq<|wif E hm rfl (fun hm=>?_) fun hm=>?_
   ·refine wp_skip<|aC<|wp_seq<|wp_block<|sq<|pr 2 E rfl fun a E=>nx<|pr 3 E rfl fun a E=>bd hm fun m k hm=>?_
    refine dE E H (wn rfl) rfl rfl rfl rfl rfl (b _ f) U22 iR k fun q9 a H E=>ldf cK E H rfl rfl rfl rfl rfl m0 U95 rfl iR fun a E=>bd hm fun l j hm=>aU E (wn rfl) rfl rfl (bP E rfl rfl rfl (Yp _)) (Co H j)<|?_
    rintro _ w ⟨rfl,H⟩ a E
    refine nt<|wif E hm rfl (fun hm=>?_) fun hm=>?_
    ·refine sq<|pr 2 E rfl fun a E=>nt<|wp_ret<|bV<|aP<|aP<|bV<|aP<|?_
     refine aY E rfl rfl<|?_
     cases hm
     exact ⟨rfl,H.reads (Y1 b)⟩
    ·exact wp_skip<|bY<|aC<|wp_region_lit<|pr 2 E rfl fun a E=>nt<|⟨c,Nat.lt_succ_self c,_,_,E.to rfl,H,(Y1 b),hm⟩
   ·refine wp_exit<|bH<|bH<|dG<|aC<|sq<|pr 1 E rfl fun a E=>nt<|wp_ret<|?_
    refine aY E rfl rfl<|?_
    cases hm
    exact ⟨rfl,H.reads b⟩

def hU(b:List aE):Option Bool:=
  (jE b).bind fun c=>some (decide (c ≥ 0))
theorem tD{b:Value}{c:List aE}(H:Sep w (Fo) rs)(d:rSl aF b c ∈ rs){r:Bool}(hm:hU c=some r) :
    Calls Tryz.prog 46 [b,.func (.func 47) #[] #[]].toArray w (Ret fun v w'=>.bool r=v∧Sep w' (Fo) (rs)):=by
 unfold hU at hm
 refine ent Tryz.func46 rfl Tryz.ntmps46 rfl rfl fun a E=>sq<|pr 1 E rfl fun a E=>nx<|pr 2 E rfl fun a E=>bd hm fun f e hm=>xk E rfl rfl rfl rfl rfl Hx (uV H d e) fun w H a E=>pr 2 E rfl fun a E=>nt<|?_
 refine wp_ret<|aY E rfl rfl<|?_
 cases hm
 exact ⟨rfl,H.reads Y0⟩

def zX(x1:aI):Option Bool:=
  (fA x1.Dir).bind fun b=>if (!b)=true then (some (true)) else ((tC x1.Next 1 10000).bind fun c=>some (!c))
theorem Cp{x1:aI}(H:Sep w (Fo) rs){r:Bool}(hm:zX x1=some r) :
    Calls Tryz.prog 50 [.agg #[.string x1.Dir,.int .i64 x1.Next]].toArray w (Ret fun v w'=>.bool r=v∧Sep w' (Fo) (rs)):=by
 unfold zX at hm
 refine ent Tryz.func50 rfl Tryz.ntmps50 rfl rfl fun a E=>sq<|bS E H (wn rfl) rfl rfl rfl rfl rfl fun f w a H E=>pr 1 E rfl fun a E=>nx<|pr 1 E rfl fun a E=>lb E H 0 rfl rfl rfl rfl rfl rfl rfl U9 rfl fun a E=>bd hm fun g c hm=>xk E rfl rfl rfl rfl rfl yU (gC H c) fun w H a E=>?_
 refine pr 2 E rfl fun a E=>cs hm (fun b hm=>?_) fun b hm=>?_
 ·refine pk 6 E (kc 7 rfl b) rfl fun a E=>nt<|wp_ret<|aY E rfl rfl<|have H:=H.drop 0;?_
  cases hm
  exact ⟨rfl,H.reads Y0⟩
 ·refine pk 1 E (kc 7 rfl b) rfl fun a E=>aQ E (ws' (d:=7) E rfl rfl rfl rfl b) rfl rfl (cD (i:=0) E H rfl rfl rfl rfl U2 rfl) fun a E=>bd hm fun j e hm=>aU E (ws' (d:=7) E rfl rfl rfl rfl b) rfl rfl (cC E rfl rfl (Lp _)) (w3 H e)<|?_
  rintro _ w ⟨rfl,H⟩ a E
  refine pk 3 E (kc 7 rfl b) rfl fun a E=>nt<|wp_ret<|aY E rfl rfl<|have H:=H.drop 0;?_
  cases hm
  exact ⟨rfl,H.reads Y0⟩

def fO(c:List aI):Nat→Int→Option Int
  | 0,_=>none
  | e+1,b=>
    if (decide (b < (c.length:Int)))=true then ((idx c b).bind fun f=>(zX f).bind fun d=>if d=true then (some (b)) else (fO c e (IntKind.i64.wrap (b+1)))) else (some ((-1)))
def jF(b:List aI):Option Int:=
  fO b (((b.length:Int) - 0:Int).toNat+1) 0
theorem uW{g:Value}{d:List aI}(H:Sep w (Fo) rs)(f:rSl aJ g d ∈ rs){r:Int}(hm:jF d=some r) :
    Calls Tryz.prog 106 [g,.func (.func 50) #[] #[]].toArray w (Ret fun v w'=>.int .i64 r=v∧Sep w' (Fo) (rs)):=by
 unfold jF at hm
 refine ent Tryz.func106 rfl Tryz.ntmps106 rfl rfl fun a E=>sq<|pr 1 E rfl fun a E=>nt<|wp_seq<|sq<|pr 1 E rfl fun a E=>sv E rfl rfl rfl (cR E H rfl rfl f U23) fun a E=>pr 1 E rfl fun a E=>?_
 refine nt<|wp_block<|bX (fun c a w=>∃ i e,Env 19 a [(0,g),(1,.func (.func 50) #[] #[]),(7,.int .i64 (d.length:Int)),(8,.int .i64 i)]∧Sep w (Fo) e∧(∀ r,r ∈ rs→r ∈ e)∧fO d c i=some r) (((d.length:Int) - 0:Int).toNat+1) ?_ ?_
 ·exact ⟨_,_,E.to rfl,H,Y0,hm⟩
 ·clear E H hm
  rintro c a w ⟨i,e,E,H,b,hm⟩
  cases c with
  | zero=>exact (bT hm rfl).elim
  | succ c=>
   unfold fO at hm
   refine sq<|pr 1 E rfl fun a E=>nt<|wp_seq<|wif E hm rfl (fun hm=>?_) fun hm=>?_
   ·refine wp_skip<|aC<|wp_seq<|wp_block<|sq<|pr 2 E rfl fun a E=>nx<|pr 3 E rfl fun a E=>bd hm fun m k hm=>?_
    refine dE E H (wn rfl) rfl rfl rfl rfl rfl (b _ f) U23 oK k fun q9 a H E=>ldf dI E H rfl rfl rfl rfl rfl m0 U77 rfl oK fun a E=>bd hm fun l j hm=>aU E (wn rfl) rfl rfl (bP E rfl rfl rfl (Yr _)) (Cp H j)<|?_
    rintro _ w ⟨rfl,H⟩ a E
    refine nt<|wif E hm rfl (fun hm=>?_) fun hm=>?_
    ·refine sq<|pr 2 E rfl fun a E=>nt<|wp_ret<|bV<|aP<|aP<|bV<|aP<|?_
     refine aY E rfl rfl<|?_
     cases hm
     exact ⟨rfl,H.reads (Y1 b)⟩
    ·exact wp_skip<|bY<|aC<|wp_region_lit<|pr 2 E rfl fun a E=>nt<|⟨c,Nat.lt_succ_self c,_,_,E.to rfl,H,(Y1 b),hm⟩
   ·refine wp_exit<|bH<|bH<|dG<|aC<|sq<|pr 1 E rfl fun a E=>nt<|wp_ret<|?_
    refine aY E rfl rfl<|?_
    cases hm
    exact ⟨rfl,H.reads b⟩

def hX(b:List aI):Option Bool:=
  (jF b).bind fun c=>some (decide (c ≥ 0))
theorem tE{b:Value}{c:List aI}(H:Sep w (Fo) rs)(d:rSl aJ b c ∈ rs){r:Bool}(hm:hX c=some r) :
    Calls Tryz.prog 49 [b,.func (.func 50) #[] #[]].toArray w (Ret fun v w'=>.bool r=v∧Sep w' (Fo) (rs)):=by
 unfold hX at hm
 refine ent Tryz.func49 rfl Tryz.ntmps49 rfl rfl fun a E=>sq<|pr 1 E rfl fun a E=>nx<|pr 2 E rfl fun a E=>bd hm fun f e hm=>xk E rfl rfl rfl rfl rfl Va (uW H d e) fun w H a E=>pr 2 E rfl fun a E=>nt<|?_
 refine wp_ret<|aY E rfl rfl<|?_
 cases hm
 exact ⟨rfl,H.reads Y0⟩

def pM(x1:bB):Option Bool:=
  (hU x1.Nodes).bind fun d=>(hX x1.Turns).bind fun e=>if (!d)=true then (if (!e)=true then ((rF x1.Nodes).bind fun b=>if b=true then ((rG x1.Turns).bind fun c=>some (c)) else (some (false))) else (some (false))) else (some (false))
theorem yX{x1:bB}{m n:Value}(H:Sep w (Fo) rs)(f:rSl aF m x1.Nodes ∈ rs)(g:rSl aJ n x1.Turns ∈ rs){r:Bool}(hm:pM x1=some r) :
    Calls Tryz.prog 20 [.agg #[m,n]].toArray w (Ret fun v w'=>.bool r=v∧Sep w' (Fo) (rs)):=by
 unfold pM at hm
 refine ent Tryz.func20 rfl Tryz.ntmps20 rfl rfl fun a E=>sq<|bS E H (wn rfl) rfl rfl rfl rfl rfl fun s w a H E=>pr 1 E rfl fun a E=>nx<|pr 1 E rfl fun a E=>lb E H 0 rfl rfl rfl rfl rfl rfl rfl U22 rfl fun a E=>bd hm fun t o hm=>xk E rfl rfl rfl rfl rfl Qe (tD H f o) fun w H a E=>?_
 refine pr 1 E rfl fun a E=>nx<|pr 1 E rfl fun a E=>lb E H 0 rfl rfl rfl rfl rfl rfl rfl U23 rfl fun a E=>bd hm fun u j hm=>xk E rfl rfl rfl rfl rfl Yq (tE H g j) fun w H a E=>pr 1 E rfl fun a E=>nx<|pr 3 E rfl fun a E=>cs hm (fun e hm=>?_) fun e hm=>?_
 ·refine pk 4 E (kc 13 rfl e) rfl fun a E=>cs hm (fun b hm=>?_) fun b hm=>?_
  ·refine pk 1 E (kc 17 rfl b) rfl fun a E=>aQ E (ws' (d:=17) E rfl rfl rfl rfl b) rfl rfl (cD (i:=0) E H rfl rfl rfl rfl U22 rfl) fun a E=>bd hm fun p k hm=>aU E (ws' (d:=17) E rfl rfl rfl rfl b) rfl rfl (cC E rfl rfl (Ys _)) (F2 H f k)<|?_
   rintro _ w ⟨rfl,H⟩ a E
   refine pk 2 E (kc 17 rfl b) rfl fun a E=>cs hm (fun c hm=>?_) fun c hm=>?_
   ·refine pk 1 E (kc 22 rfl c) rfl fun a E=>aQ E (ws' (d:=22) E rfl rfl rfl rfl c) rfl rfl (cD (i:=0) E H rfl rfl rfl rfl U23 rfl) fun a E=>bd hm fun q l hm=>aU E (ws' (d:=22) E rfl rfl rfl rfl c) rfl rfl (cC E rfl rfl (Yt _)) (F3 H g l)<|?_
    rintro _ w ⟨rfl,H⟩ a E
    refine pk 2 E (kc 22 rfl c) rfl fun a E=>nt<|wp_ret<|aY E rfl rfl<|have H:=H.drop 0;?_
    cases hm
    exact ⟨rfl,H.reads Y0⟩
   ·refine pk 5 E (kc 22 rfl c) rfl fun a E=>nt<|wp_ret<|aY E rfl rfl<|have H:=H.drop 0;?_
    cases hm
    exact ⟨rfl,H.reads Y0⟩
  ·refine pk 10 E (kc 17 rfl b) rfl fun a E=>nt<|wp_ret<|aY E rfl rfl<|have H:=H.drop 0;?_
   cases hm
   exact ⟨rfl,H.reads Y0⟩
 ·refine pk 14 E (kc 13 rfl e) rfl fun a E=>nt<|wp_ret<|aY E rfl rfl<|have H:=H.drop 0;?_
  cases hm
  exact ⟨rfl,H.reads Y0⟩

def vV(x1:bB)(c:List aH)(b:Bool):Option (Option ((List aE)×(List aI)×(List aH))):=
  if b=true then (some none) else (some (some (x1.Nodes,x1.Turns,c)))
def q8(x1:bB)(b:List aH):Option (Option ((List aE)×(List aI)×(List aH))):=
  (pM x1).bind fun c=>if (!c)=true then (vV x1 b true) else ((oL b).bind fun d=>vV x1 b (!d))
theorem V4{x1:bB}{n o x:Value}{u:List aH}(H:Sep w (Fo) rs)(p:rSl aF n x1.Nodes ∈ rs)(q:rSl aJ o x1.Turns ∈ rs)(s:rSl aS x u ∈ rs){r:Option ((List aE)×(List aI)×(List aH))}(hm:q8 x1 u=some r) :
    Calls Tryz.prog 7 [.agg #[n,o],x].toArray w (Ret fun v w'=>(r=none∧.pointer none=v∧Sep w' (Fo) rs)∨∃ y,r=some y∧∃ f B C D j l m,pt f 0=v∧Sep w' (Blk f 75 [B,C,D,.slice none 0 0,.slice none 0 0,.slice none 0 0,.map (some j),.map (some l),.map (some m)]::cB Tryz.prog 2 (kyI .i64) bI true j []::cB Tryz.prog 2 (kyI .i64) cQ true l []::cB Tryz.prog 2 (kyI .i64) bI true m []::Fo) (rSl aF B y.1::rSl aJ C y.2.1::rSl aS D y.2.2::rs)):=by
 unfold q8 at hm
 refine ent Tryz.func7 rfl Tryz.ntmps7 rfl rfl fun a E=>sq<|bS E H (wn rfl) rfl rfl rfl rfl rfl fun F w a H E=>pr 1 E rfl fun a E=>nt<|wp_seq<|aT (fun a w=>∃ t e,Env 20 a [(1,x),(2,pt F 0),(12,.bool t)]∧Sep w (Blk F 25 [n,o]::Fo) e∧(∀ r,r ∈ rs→r ∈ e)∧vV x1 u t=some r) ?_ ?_
 ·refine wp_region_lit<|sv E rfl rfl rfl (cA (i:=0) (us:=[n,o]) E H rfl rfl rfl rfl U25 rfl dA) fun a E=>bd hm fun O z hm=>xk E rfl rfl rfl rfl rfl Hw (yX H p q z) fun w H a E=>pr 2 E rfl fun a E=>cs hm (fun c hm=>?_) fun c hm=>?_
  ·exact pk 4 E (kc 8 rfl c) rfl fun a E=>nt<|⟨_,_,E.to rfl,H,Y0,hm⟩
  ·refine pk 1 E (kc 8 rfl c) rfl fun a E=>bd hm fun P A hm=>aU E (ws' (d:=8) E rfl rfl rfl rfl c) rfl rfl (cC E rfl rfl (Fk _)) (tB H s A)<|?_
   rintro _ w ⟨rfl,H⟩ a E
   exact pk 2 E (kc 8 rfl c) rfl fun a E=>nt<|⟨_,_,E.to rfl,H,Y0,hm⟩
 ·clear E H hm
  rintro a w ⟨t,e,E,H,b,hm⟩
  unfold vV at hm
  refine wif E hm rfl (fun hm=>?_) fun hm=>?_
  ·refine sq<|pr 1 E rfl fun a E=>nt<|wp_ret<|aP<|aY E rfl rfl<|have H:=H.drop 0;?_
   cases hm
   exact .inl ⟨rfl,rfl,H.reads (b)⟩
  ·refine wp_skip<|aC<|sq<|sv E rfl rfl rfl (cA (i:=0) (us:=[n,o]) E H rfl rfl rfl rfl U25 rfl dA) fun a E=>pr 1 E rfl fun a E=>tK (k:=2) (K:=(kyI .i64)) (d:=bI) (g:=true) E H (wn rfl) rfl rfl rfl fun G w a H E=>tK (k:=2) (K:=(kyI .i64)) (d:=cQ) (g:=true) E H (wn rfl) rfl rfl rfl fun I w a H E=>tK (k:=2) (K:=(kyI .i64)) (d:=bI) (g:=true) E H (wn rfl) rfl rfl rfl fun J w a H E=>?_
   obtain ⟨q16,L,rfl⟩:=H.slform (b _ p)
   obtain ⟨q18,M,rfl⟩:=H.slform (b _ q)
   obtain ⟨q20,N,rfl⟩:=H.slform (b _ s)
   refine sv E rfl rfl rfl (cI E rfl (E.evs rfl) (v:=.agg #[(.slice q16 x1.Nodes.length L),(.slice q18 x1.Turns.length M),(.slice q20 u.length N),.slice none 0 0,.slice none 0 0,.slice none 0 0,.map (some G),.map (some I),.map (some J)]) (by kernel_rfl)) fun a E=>bS E H (wn rfl) rfl rfl rfl rfl rfl fun Q w a H E=>pr 1 E rfl fun a E=>nt<|wp_ret<|aY E rfl rfl<|have H:=H.drop 4;have H:=H.frs [1,2,3,3] rfl;?_
   cases hm
   exact .inr ⟨_,rfl,X7 ⟨rfl,H.reads (aA (b _ p) (aA (b _ q) (aA (b _ s) (b))))⟩⟩

def uX:Option (Option ((List aE)×(List aI)×(List aH))):=
  (q8 (⟨([(⟨(ByteArray.mk #[47]),(ByteArray.mk #[]),0,0,0⟩:aE)]:List aE),[]⟩:bB) ([(⟨(ByteArray.mk #[47]),1,1⟩:aH)]:List aH)).bind fun c=>W5 c (some none) fun b=>some (some (b.1,b.2.1,b.2.2))
theorem r9(H:Sep w (Fo) rs){r:Option ((List aE)×(List aI)×(List aH))}(hm:uX=some r) :
    Calls Tryz.prog 15 [].toArray w (Ret fun v w'=>(r=none∧.pointer none=v∧Sep w' (Fo) rs)∨∃ y,r=some y∧∃ b j k l c f g,pt b 0=v∧Sep w' (Blk b 75 [j,k,l,.slice none 0 0,.slice none 0 0,.slice none 0 0,.map (some c),.map (some f),.map (some g)]::cB Tryz.prog 2 (kyI .i64) bI true c []::cB Tryz.prog 2 (kyI .i64) cQ true f []::cB Tryz.prog 2 (kyI .i64) bI true g []::Fo) (rSl aF j y.1::rSl aJ k y.2.1::rSl aS l y.2.2::rs)):=by
 unfold uX at hm
 refine ent Tryz.func15 rfl Tryz.ntmps15 rfl rfl fun a E=>sq<|pr 1 E rfl fun a E=>nx<|sv E rfl rfl rfl (cI E rfl (E.evs rfl) (v:=.agg #[.string (ByteArray.mk #[47]),.string (ByteArray.mk #[]),.int .i64 0,.int .i64 0,.int .i64 0]) (by kernel_rfl)) fun a E=>fY (e:=95) (d:=aF) (cs:=[.string (ByteArray.mk #[47]),.string (ByteArray.mk #[]),.int .i64 0,.int .i64 0,.int .i64 0]) (xs:=[(⟨(ByteArray.mk #[47]),(ByteArray.mk #[]),0,0,0⟩:aE)]) E H (wn rfl) rfl rfl rfl (E.evs rfl) (by kernel_rfl) rfl rfl (fun ok hr=>(Rows.single (d:=aF) (cs:=[.string (ByteArray.mk #[47]),.string (ByteArray.mk #[]),.int .i64 0,.int .i64 0,.int .i64 0]) (x:=(⟨(ByteArray.mk #[47]),(ByteArray.mk #[]),0,0,0⟩:aE)) sZ)) fun t w a H E=>?_
 obtain ⟨q2,x3,rfl⟩:=H.rowform (i:=0) rfl
 refine sv E rfl rfl rfl (cI E rfl (E.evs rfl) (v:=.agg #[(.slice q2 ([(⟨(ByteArray.mk #[47]),(ByteArray.mk #[]),0,0,0⟩:aE)]:List aE).length x3),.slice none 0 0]) (by kernel_rfl)) fun a E=>sv E rfl rfl rfl (cI E rfl (E.evs rfl) (v:=.agg #[.string (ByteArray.mk #[47]),.int .i64 1,.int .i64 1]) (by kernel_rfl)) fun a E=>fY (e:=31) (d:=aS) (cs:=[.string (ByteArray.mk #[47]),.int .i64 1,.int .i64 1]) (xs:=[(⟨(ByteArray.mk #[47]),1,1⟩:aH)]) E H (wn rfl) rfl rfl rfl (E.evs rfl) (by kernel_rfl) rfl rfl (fun ok hr=>(Rows.single (d:=aS) (cs:=[.string (ByteArray.mk #[47]),.int .i64 1,.int .i64 1]) (x:=(⟨(ByteArray.mk #[47]),1,1⟩:aH)) rR)) fun u w a H E=>have H:=H.thaw (i:=1) rfl;have H:=H.nilSl aJ;have H:=H.thaw (i:=0) rfl;bd hm fun z m hm=>cG E rfl rfl rfl rfl rfl cf7 (V4 (x1:=(⟨([(⟨(ByteArray.mk #[47]),(ByteArray.mk #[]),0,0,0⟩:aE)]:List aE),[]⟩:bB)) H mm2 mm1 m0 m)<|?_
 rintro _ w (⟨rfl,rfl,H⟩ | ⟨n,rfl,A,B,C,o,p,q,s,rfl,H⟩) a E
 ·replace hm:=As hm
  refine pr 1 E rfl fun a E=>nt<|wp_ret<|aY E rfl rfl<|?_
  cases hm
  exact .inl ⟨rfl,rfl,H.reads (fun r hr=>(t3 hr))⟩
 ·replace hm:=Au hm
  refine pr 1 E rfl fun a E=>nt<|wp_ret<|aY E rfl rfl<|?_
  cases hm
  exact .inr ⟨_,rfl,X7 ⟨rfl,H.reads (aA m0 (aA mm1 (aA mm2 (fun r hr=>(t6 hr)))))⟩⟩

def qP(b:ByteArray):Option Bool:=
  if (sEq b (ByteArray.mk #[]))=true then (some (true)) else ((fA b).bind fun c=>some (c))
theorem D6{c:ByteArray}(H:Sep w (Fo) rs){r:Bool}(hm:qP c=some r) :
    Calls Tryz.prog 95 [.string c].toArray w (Ret fun v w'=>.bool r=v∧Sep w' (Fo) (rs)):=by
 unfold qP at hm
 refine ent Tryz.func95 rfl Tryz.ntmps95 rfl rfl fun a E=>sq<|pr 1 E rfl fun a E=>nx<|pr 3 E rfl fun a E=>cs hm (fun b hm=>?_) fun b hm=>?_
 ·refine pk 4 E (kc 5 rfl b) rfl fun a E=>nt<|wp_ret<|aY E rfl rfl<|?_
  cases hm
  exact ⟨rfl,H.reads Y0⟩
 ·refine pk 1 E (kc 5 rfl b) rfl fun a E=>bd hm fun f e hm=>aU E (ws' (d:=5) E rfl rfl rfl rfl b) rfl rfl (cC E rfl rfl (yU _)) (gC H e)<|?_
  rintro _ w ⟨rfl,H⟩ a E
  refine pk 2 E (kc 5 rfl b) rfl fun a E=>nt<|wp_ret<|aY E rfl rfl<|?_
  cases hm
  exact ⟨rfl,H.reads Y0⟩

def kH(rec_1:Int→Option Bool)(c:Int)(b:Bool):Option Bool:=
  if b=true then (some (false)) else (rec_1 (IntKind.i64.wrap (c+1)))
def gM(b:List Int):Nat→Int→Option Bool
  | 0,_=>none
  | d+1,c=>
    if (decide (c < (b.length:Int)))=true then ((idx b c).bind fun e=>if (decide (e < 0))=true then (kH (gM b d) c true) else (kH (gM b d) c (decide (e > 281474976710656)))) else (some (true))
def pN(b:List Int):Option Bool:=
  gM b (((b.length:Int) - 0:Int).toNat+1) 0
theorem Ae{l:Value}{b:List Int}(H:Sep w (Fo) rs)(m:rSl (kI .i64) l b ∈ rs){r:Bool}(hm:pN b=some r) :
    Calls Tryz.prog 94 [l].toArray w (Ret fun v w'=>.bool r=v∧Sep w' (Fo) (rs)):=by
 unfold pN at hm
 refine ent Tryz.func94 rfl Tryz.ntmps94 rfl rfl fun a E=>sq<|pr 1 E rfl fun a E=>nt<|wp_seq<|sq<|pr 1 E rfl fun a E=>sv E rfl rfl rfl (cR E H rfl rfl m U46) fun a E=>pr 1 E rfl fun a E=>?_
 refine nt<|wp_block<|bX (fun c a w=>∃ g i,Env 18 a [(5,l),(6,.int .i64 (b.length:Int)),(7,.int .i64 g)]∧Sep w (Fo) i∧(∀ r,r ∈ rs→r ∈ i)∧gM b c g=some r) (((b.length:Int) - 0:Int).toNat+1) ?_ ?_
 ·exact ⟨_,_,E.to rfl,H,Y0,hm⟩
 ·clear E H hm
  rintro c a w ⟨g,i,E,H,f,hm⟩
  cases c with
  | zero=>exact (bT hm rfl).elim
  | succ c=>
   unfold gM at hm
   refine sq<|pr 1 E rfl fun a E=>nt<|wp_seq<|wif E hm rfl (fun hm=>?_) fun hm=>?_
   ·refine wp_skip<|aC<|wp_seq<|wp_block<|sq<|bd hm fun o n hm=>dE E H (wn rfl) rfl rfl rfl rfl rfl (f _ m) U46 sz2 n fun q9 a H E=>sv E rfl rfl rfl (nT E H rfl rfl m0 U2 rfl) fun a E=>pr 1 E rfl fun a E=>?_
    refine nt<|aT (fun a w=>∃ j d,Env 18 a [(5,l),(6,.int .i64 (b.length:Int)),(7,.int .i64 g),(16,.bool j)]∧Sep w (Fo) d∧(∀ r,r ∈ rs→r ∈ d)∧kH (gM b c) g j=some r) ?_ ?_
    ·refine wp_region_lit<|pr 3 E rfl fun a E=>cs hm (fun e hm=>?_) fun e hm=>?_
     ·exact pk 3 E (kc 13 rfl e) rfl fun a E=>nt<|⟨_,_,E.to rfl,H,(Y1 f),hm⟩
     ·exact pk 3 E (kc 13 rfl e) rfl fun a E=>nt<|⟨_,_,E.to rfl,H,(Y1 f),hm⟩
    ·clear E H hm
     rintro a w ⟨j,d,E,H,k,hm⟩
     unfold kH at hm
     refine wif E hm rfl (fun hm=>?_) fun hm=>?_
     ·refine sq<|pr 1 E rfl fun a E=>nt<|wp_ret<|bV<|aP<|aP<|bV<|aP<|?_
      refine aY E rfl rfl<|?_
      cases hm
      exact ⟨rfl,H.reads k⟩
     ·exact wp_skip<|bY<|aC<|wp_region_lit<|pr 2 E rfl fun a E=>nt<|⟨c,Nat.lt_succ_self c,_,_,E.to rfl,H,k,hm⟩
   ·refine wp_exit<|bH<|bH<|dG<|aC<|sq<|pr 1 E rfl fun a E=>nt<|wp_ret<|?_
    refine aY E rfl rfl<|?_
    cases hm
    exact ⟨rfl,H.reads f⟩

def xM(x1:bJ)(b:ByteArray):Option Bool:=
  (xL x1.Path x1.Data x1.Version (-1) x1.Owner).bind fun c=>if c=true then (if (sEq x1.Dir b)=true then (if (decide (x1.Kind ≥ 1))=true then (if (decide (x1.Kind ≤ 10))=true then (if (x1.Kind != 2)=true then (some (true)) else (some (!(sEq x1.Path (ByteArray.mk #[47]))))) else (some (false))) else (some (false))) else (some (false))) else (some (false))
def tF(x1:bJ)(c:ByteArray)(b:Bool):Option Bool:=
  if b=true then (xM x1 x1.Path) else (xM x1 c)
def y2(x1:bJ):Option Bool:=
  (r8 x1.Path).bind fun b=>if (x1.Kind == 4)=true then (tF x1 b true) else (if (x1.Kind == 9)=true then (tF x1 b true) else (tF x1 b (x1.Kind == 10)))
theorem Bq{x1:bJ}(H:Sep w (Fo) rs){r:Bool}(hm:y2 x1=some r) :
    Calls Tryz.prog 92 [.agg (cH x1).toArray].toArray w (Ret fun v w'=>.bool r=v∧Sep w' (Fo) (rs)):=by
 unfold y2 at hm
 refine ent Tryz.func92 rfl Tryz.ntmps92 rfl rfl fun a E=>sq<|bS E H (wn rfl) rfl rfl rfl rfl rfl fun q w a H E=>pr 1 E rfl fun a E=>nx<|pr 1 E rfl fun a E=>lb E H 0 rfl rfl rfl rfl rfl rfl rfl U9 rfl fun a E=>bd hm fun t u hm=>xk E rfl rfl rfl rfl rfl Ib (O9 H u) fun w H a E=>?_
 refine pr 1 E rfl fun a E=>nt<|aT (fun a w=>∃ s n,Env 57 a [(1,pt q 0),(3,.string s)]∧Sep w (Blk q 85 (cH x1)::Fo) n∧(∀ r,r ∈ rs→r ∈ n)∧xM x1 s=some r) ?_ ?_
 ·refine aT (fun a w=>∃ o m,Env 57 a [(1,pt q 0),(3,.string t),(19,.bool o)]∧Sep w (Blk q 85 (cH x1)::Fo) m∧(∀ r,r ∈ rs→r ∈ m)∧tF x1 t o=some r) ?_ ?_
  ·refine wp_region_lit<|pr 1 E rfl fun a E=>lb E H 0 rfl rfl rfl rfl rfl rfl rfl U3 rfl fun a E=>pr 2 E rfl fun a E=>cs hm (fun c hm=>?_) fun c hm=>?_
   ·exact pk 9 E (kc 10 rfl c) rfl fun a E=>nt<|⟨_,_,E.to rfl,H,Y0,hm⟩
   ·refine pk 1 E (kc 10 rfl c) rfl fun a E=>aQ E (ws' (d:=10) E rfl rfl rfl rfl c) rfl rfl (cD (i:=0) E H rfl rfl rfl rfl U3 rfl) fun a E=>pk 3 E (kc 10 rfl c) rfl fun a E=>cs hm (fun e hm=>?_) fun e hm=>?_
    ·exact pk 4 E (kc 15 rfl e) rfl fun a E=>nt<|⟨_,_,E.to rfl,H,Y0,hm⟩
    ·exact pk 1 E (kc 15 rfl e) rfl fun a E=>aQ E (ws' (d:=15) E rfl rfl rfl rfl e) rfl rfl (cD (i:=0) E H rfl rfl rfl rfl U3 rfl) fun a E=>pk 2 E (kc 15 rfl e) rfl fun a E=>nt<|⟨_,_,E.to rfl,H,Y0,hm⟩
  ·clear E H hm
   rintro a w ⟨o,m,E,H,p,hm⟩
   unfold tF at hm
   refine wif E hm rfl (fun hm=>?_) fun hm=>?_
   ·exact wp_region_lit<|pr 1 E rfl fun a E=>lb E H 0 rfl rfl rfl rfl rfl rfl rfl U9 rfl fun a E=>pr 1 E rfl fun a E=>nt<|⟨_,_,E.to rfl,H,p,hm⟩
   ·exact wp_skip<|aC<|⟨_,_,E.to rfl,H,p,hm⟩
 ·clear E H hm
  rintro a w ⟨s,n,E,H,l,hm⟩
  unfold xM at hm
  refine sq<|pr 1 E rfl fun a E=>lb E H 0 rfl rfl rfl rfl rfl rfl rfl U9 rfl fun a E=>pr 1 E rfl fun a E=>lb E H 0 rfl rfl rfl rfl rfl rfl rfl U9 rfl fun a E=>pr 1 E rfl fun a E=>lb E H 0 rfl rfl rfl rfl rfl rfl rfl U2 rfl fun a E=>pr 1 E rfl fun a E=>lb E H 0 rfl rfl rfl rfl rfl rfl rfl U2 rfl fun a E=>?_
  refine bd hm fun y x hm=>xk E rfl rfl rfl rfl rfl Qk (L9 H x) fun w H a E=>pr 1 E rfl fun a E=>cs hm (fun f hm=>?_) fun f hm=>?_
  ·refine pk 1 E (kc 31 rfl f) rfl fun a E=>aQ E (ws' (d:=31) E rfl rfl rfl rfl f) rfl rfl (cD (i:=0) E H rfl rfl rfl rfl U9 rfl) fun a E=>pk 4 E (kc 31 rfl f) rfl fun a E=>cs hm (fun g hm=>?_) fun g hm=>?_
   ·refine pk 1 E (kc 37 rfl g) rfl fun a E=>aQ E (ws' (d:=37) E rfl rfl rfl rfl g) rfl rfl (cD (i:=0) E H rfl rfl rfl rfl U3 rfl) fun a E=>pk 3 E (kc 37 rfl g) rfl fun a E=>cs hm (fun j hm=>?_) fun j hm=>?_
    ·refine pk 1 E (kc 42 rfl j) rfl fun a E=>aQ E (ws' (d:=42) E rfl rfl rfl rfl j) rfl rfl (cD (i:=0) E H rfl rfl rfl rfl U3 rfl) fun a E=>pk 3 E (kc 42 rfl j) rfl fun a E=>cs hm (fun b hm=>?_) fun b hm=>?_
     ·refine pk 1 E (kc 47 rfl b) rfl fun a E=>aQ E (ws' (d:=47) E rfl rfl rfl rfl b) rfl rfl (cD (i:=0) E H rfl rfl rfl rfl U3 rfl) fun a E=>pk 2 E (kc 47 rfl b) rfl fun a E=>cs hm (fun k hm=>?_) fun k hm=>?_
      ·refine pk 6 E (kc' (kc 51 rfl k) 47 rfl b) rfl fun a E=>nt<|wp_ret<|aY E rfl rfl<|have H:=H.drop 0;?_
       cases hm
       exact ⟨rfl,H.reads l⟩
      ·refine pk 1 E (kc 51 rfl k) rfl fun a E=>aQ E (ws' (d:=51) E rfl rfl rfl rfl k) rfl rfl (cD (i:=0) E H rfl rfl rfl rfl U9 rfl) fun a E=>pk 4 E (kc' (kc 51 rfl k) 47 rfl b) rfl fun a E=>nt<|wp_ret<|aY E rfl rfl<|have H:=H.drop 0;?_
       cases hm
       exact ⟨rfl,H.reads l⟩
     ·refine pk 10 E (kc 47 rfl b) rfl fun a E=>nt<|wp_ret<|aY E rfl rfl<|have H:=H.drop 0;?_
      cases hm
      exact ⟨rfl,H.reads l⟩
    ·refine pk 15 E (kc 42 rfl j) rfl fun a E=>nt<|wp_ret<|aY E rfl rfl<|have H:=H.drop 0;?_
     cases hm
     exact ⟨rfl,H.reads l⟩
   ·refine pk 20 E (kc 37 rfl g) rfl fun a E=>nt<|wp_ret<|aY E rfl rfl<|have H:=H.drop 0;?_
    cases hm
    exact ⟨rfl,H.reads l⟩
  ·refine pk 26 E (kc 31 rfl f) rfl fun a E=>nt<|wp_ret<|aY E rfl rfl<|have H:=H.drop 0;?_
   cases hm
   exact ⟨rfl,H.reads l⟩

def lA(b:ByteArray)(c:ByteArray):Option Bool:=
  if (decide ((b.size:Int) ≥ (c.size:Int)))=true then ((ck (0 ≤ (IntKind.i64.wrap ((b.size:Int) - (c.size:Int)))∧(IntKind.i64.wrap ((b.size:Int) - (c.size:Int))) ≤ b.size)).bind fun d=>some (sEq (b.extract (IntKind.i64.wrap ((b.size:Int) - (c.size:Int))).toNat b.size) c)) else (some (false))
theorem xZ{c e:ByteArray}(H:Sep w (Fo) rs){r:Bool}(hm:lA c e=some r) :
    Calls Tryz.prog 287 [.string c,.string e].toArray w (Ret fun v w'=>.bool r=v∧Sep w' (Fo) (rs)):=by
 unfold lA at hm
 refine ent Tryz.func287 rfl Tryz.ntmps287 rfl rfl fun a E=>sq<|pr 1 E rfl fun a E=>nx<|pr 6 E rfl fun a E=>cs hm (fun b hm=>?_) fun b hm=>?_
 ·refine pk 6 E (kc 10 rfl b) rfl fun a E=>bk hm fun f hm=>aQ E (ws' (d:=10) E rfl rfl rfl rfl b) rfl rfl (G3 E rfl rfl rfl U9 f) fun a E=>pk 4 E (kc 10 rfl b) rfl fun a E=>nt<|wp_ret<|aY E rfl rfl<|?_
  cases hm
  exact ⟨rfl,H.reads Y0⟩
 ·refine pk 11 E (kc 10 rfl b) rfl fun a E=>nt<|wp_ret<|aY E rfl rfl<|?_
  cases hm
  exact ⟨rfl,H.reads Y0⟩

def kQ(b:ByteArray)(c:ByteArray):Option ByteArray:=
  (lA b c).bind fun d=>if d=true then ((ck (0 ≤ (IntKind.i64.wrap ((b.size:Int) - (c.size:Int)))∧(IntKind.i64.wrap ((b.size:Int) - (c.size:Int))) ≤ b.size)).bind fun e=>some (b.extract 0 (IntKind.i64.wrap ((b.size:Int) - (c.size:Int))).toNat)) else (some (b))
theorem xD{b c:ByteArray}(H:Sep w (Fo) rs){r:ByteArray}(hm:kQ b c=some r) :
    Calls Tryz.prog 237 [.string b,.string c].toArray w (Ret fun v w'=>.string r=v∧Sep w' (Fo) (rs)):=by
 unfold kQ at hm
 refine ent Tryz.func237 rfl Tryz.ntmps237 rfl rfl fun a E=>sq<|pr 1 E rfl fun a E=>nt<|wp_seq<|sq<|pr 2 E rfl fun a E=>bd hm fun f d hm=>xk E rfl rfl rfl rfl rfl Vm (xZ H d) fun w H a E=>?_
 refine nt<|wif E hm rfl (fun hm=>?_) fun hm=>?_
 ·refine sq<|pr 6 E rfl fun a E=>bk hm fun e hm=>sv E rfl rfl rfl (N6 E rfl rfl rfl U9 e) fun a E=>pr 1 E rfl fun a E=>nt<|wp_ret<|aP<|aY E rfl rfl<|?_
  cases hm
  exact ⟨rfl,H.reads Y0⟩
 ·refine wp_skip<|aC<|sq<|pr 2 E rfl fun a E=>nt<|wp_ret<|aY E rfl rfl<|?_
  cases hm
  exact ⟨rfl,H.reads Y0⟩

def oT(b:ByteArray)(c:ByteArray):Option ByteArray:=
  (kQ b c).bind fun d=>some (d)
theorem yY{b c:ByteArray}(H:Sep w (Fo) rs){r:ByteArray}(hm:oT b c=some r) :
    Calls Tryz.prog 173 [.string b,.string c].toArray w (Ret fun v w'=>.string r=v∧Sep w' (Fo) (rs)):=by
 unfold oT at hm
 refine ent Tryz.func173 rfl Tryz.ntmps173 rfl rfl fun a E=>sq<|pr 1 E rfl fun a E=>nx<|pr 2 E rfl fun a E=>bd hm fun e d hm=>xk E rfl rfl rfl rfl rfl Vl (xD H d) fun w H a E=>pr 1 E rfl fun a E=>nt<|?_
 refine wp_ret<|aY E rfl rfl<|?_
 cases hm
 exact ⟨rfl,H.reads Y0⟩

def yZ(d:ByteArray)(e:ByteArray)(f:Bool):Option Bool:=
  if f=true then (some (false)) else ((oT d (ByteArray.mk #[47])).bind fun g=>(pT e g).bind fun b=>if b.2=true then (if (sEq b.1 (ByteArray.mk #[]))=true then (some (true)) else ((idx b.1.data.toList 0).bind fun c=>some ((c.toNat:Int) == 47))) else (some (false)))
def s0(b:ByteArray)(c:ByteArray):Option Bool:=
  (fA b).bind fun d=>if (!d)=true then (yZ c b true) else ((fA c).bind fun e=>yZ c b (!e))
theorem P2{i j:ByteArray}(H:Sep w (Fo) rs){r:Bool}(hm:s0 i j=some r) :
    Calls Tryz.prog 93 [.string i,.string j].toArray w (Ret fun v w'=>.bool r=v∧Sep w' (Fo) (rs)):=by
 unfold s0 at hm
 refine ent Tryz.func93 rfl Tryz.ntmps93 rfl rfl fun a E=>sq<|pr 1 E rfl fun a E=>nt<|wp_seq<|aT (fun a w=>∃ k g,Env 32 a [(0,.string i),(1,.string j),(14,.bool k)]∧Sep w (Fo) g∧(∀ r,r ∈ rs→r ∈ g)∧yZ j i k=some r) ?_ ?_
 ·refine wp_region_lit<|pr 1 E rfl fun a E=>bd hm fun q l hm=>xk E rfl rfl rfl rfl rfl yU (gC H l) fun w H a E=>pr 2 E rfl fun a E=>cs hm (fun b hm=>?_) fun b hm=>?_
  ·exact pk 4 E (kc 10 rfl b) rfl fun a E=>nt<|⟨_,_,E.to rfl,H,Y0,hm⟩
  ·refine pk 1 E (kc 10 rfl b) rfl fun a E=>bd hm fun s m hm=>aU E (ws' (d:=10) E rfl rfl rfl rfl b) rfl rfl (cC E rfl rfl (yU _)) (gC H m)<|?_
   rintro _ w ⟨rfl,H⟩ a E
   exact pk 2 E (kc 10 rfl b) rfl fun a E=>nt<|⟨_,_,E.to rfl,H,Y0,hm⟩
 ·clear E H hm
  rintro a w ⟨k,g,E,H,f,hm⟩
  unfold yZ at hm
  refine wif E hm rfl (fun hm=>?_) fun hm=>?_
  ·refine sq<|pr 1 E rfl fun a E=>nt<|wp_ret<|aP<|aY E rfl rfl<|?_
   cases hm
   exact ⟨rfl,H.reads f⟩
  ·refine wp_skip<|aC<|sq<|pr 2 E rfl fun a E=>bd hm fun u o hm=>xk E rfl rfl rfl rfl rfl Mq (yY H o) fun w H a E=>bd hm fun x p hm=>xk E rfl rfl rfl rfl rfl Mn (zJ H p) fun w H a E=>pr 5 E rfl fun a E=>?_
   refine nx<|pr 2 E rfl fun a E=>cs hm (fun c hm=>?_) fun c hm=>?_
   ·refine pk 3 E (kc 23 rfl c) rfl fun a E=>cs hm (fun e hm=>?_) fun e hm=>?_
    ·refine pk 6 E (kc' (kc 26 rfl e) 23 rfl c) rfl fun a E=>nt<|wp_ret<|aY E rfl rfl<|?_
     cases hm
     exact ⟨rfl,H.reads f⟩
    ·refine pk 1 E (kc 26 rfl e) rfl fun a E=>bd hm fun t n hm=>aQ E (ws' (d:=26) E rfl rfl rfl rfl e) rfl rfl (Et E rfl rfl rfl U9 n) fun a E=>pk 4 E (kc' (kc 26 rfl e) 23 rfl c) rfl fun a E=>nt<|wp_ret<|aY E rfl rfl<|?_
     cases hm
     exact ⟨rfl,H.reads f⟩
   ·refine pk 9 E (kc 23 rfl c) rfl fun a E=>nt<|wp_ret<|aY E rfl rfl<|?_
    cases hm
    exact ⟨rfl,H.reads f⟩

def lF(rec_1:Int→Int→Option Bool)(b:cF)(c:Int)(d:Bool):Option Bool:=
  if d=true then (some (false)) else (rec_1 b.Op (IntKind.i64.wrap (c+1)))
def lG(rec_2:Int→Option Bool)(b:Int)(c:Bool):Option Bool:=
  if c=true then (some (false)) else (rec_2 (IntKind.i64.wrap (b+1)))
def jG(x1:bA)(b:Bool):Option Bool:=
  if b=true then (if (decide ((x1.Gone.length:Int) ≤ 32))=true then ((pM x1.Store).bind fun c=>if c=true then (if (decide ((x1.Store.Nodes.length:Int) ≤ 512))=true then (some (decide ((x1.Store.Turns.length:Int) ≤ 512))) else (some (false))) else (some (false))) else (some (false))) else (some (false))
def gW(x1:bA)(b:Bool):Option Bool:=
  if b=true then ((pN ([x1.Id,x1.Txn,x1.Age,x1.Epoch,x1.Watch.Session,x1.Watch.Num]:List Int)).bind fun c=>if c=true then ((qP x1.Prefix).bind fun d=>if d=true then ((qP x1.Watch.Path).bind fun e=>jG x1 e) else (jG x1 false)) else (jG x1 false)) else (jG x1 false)
def gD(x1:bA):Nat→Int→Option Bool
  | 0,_=>none
  | d+1,b=>
    if (decide (b < (x1.Gone.length:Int)))=true then ((idx x1.Gone b).bind fun c=>(s0 c x1.Prefix).bind fun e=>if (!e)=true then (lG (gD x1 d) b true) else (if (sEq c x1.Prefix)=true then (lG (gD x1 d) b true) else (if (decide (b > 0))=true then ((idx x1.Gone (IntKind.i64.wrap (b - 1))).bind fun f=>lG (gD x1 d) b (!(sLt f c))) else (lG (gD x1 d) b false)))) else (if (decide (x1.Kind ≥ 1))=true then (if (decide (x1.Kind ≤ 13))=true then (if (decide (x1.To ≥ 0))=true then (if (decide (x1.To < 4))=true then (gW x1 (decide ((x1.Pieces.length:Int) ≤ 16))) else (gW x1 false)) else (gW x1 false)) else (gW x1 false)) else (gW x1 false))
def gE(x1:bA):Nat→Int→Int→Option Bool
  | 0,_,_=>none
  | d+1,e,c=>
    if (decide (c < (x1.Pieces.length:Int)))=true then ((idx x1.Pieces c).bind fun b=>if (decide (b.Op < e))=true then (lF (gE x1 d) b c true) else (if (decide (b.Op ≥ 8))=true then (lF (gE x1 d) b c true) else ((y2 b.Part).bind fun f=>if (!f)=true then (lF (gE x1 d) b c true) else (lF (gE x1 d) b c (decide (b.Part.Version ≥ 281474976710656)))))) else (gD x1 (((x1.Gone.length:Int) - 0:Int).toNat+1) 0)
def qQ(x1:bA):Option Bool:=
  gE x1 (((x1.Pieces.length:Int) - 0:Int).toNat+1) 0 0
theorem Br{x1:bA}{F I J G:Value}(H:Sep w (Fo) rs)(W:rSl cE F x1.Pieces ∈ rs)(b5:rSl aF I x1.Store.Nodes ∈ rs)(b6:rSl aJ J x1.Store.Turns ∈ rs)(V:rSl kS G x1.Gone ∈ rs){r:Bool}(hm:qQ x1=some r) :
    Calls Tryz.prog 35 [.agg (aR x1 F I J G).toArray].toArray w (Ret fun v w'=>.bool r=v∧Sep w' (Fo) (rs)):=by
 unfold qQ at hm
 refine ent Tryz.func35 rfl Tryz.ntmps35 rfl rfl fun a E=>sq<|bS E H (wn rfl) rfl rfl rfl rfl rfl fun g w a H E=>pr 1 E rfl fun a E=>nx<|pr 1 E rfl fun a E=>nt<|wp_seq<|sq<|?_
 refine pr 1 E rfl fun a E=>lb E H 0 rfl rfl rfl rfl rfl rfl rfl U26 rfl fun a E=>sv E rfl rfl rfl (cR E H rfl rfl W U26) fun a E=>pr 1 E rfl fun a E=>nt<|wp_block<|bX (fun N a w=>∃ X L O,Env 154 a [(1,pt g 0),(3,.int .i64 X),(10,F),(11,.int .i64 (x1.Pieces.length:Int)),(12,.int .i64 L)]∧Sep w (Blk g 37 (aR x1 F I J G)::Fo) O∧(∀ r,r ∈ rs→r ∈ O)∧gE x1 N X L=some r) (((x1.Pieces.length:Int) - 0:Int).toNat+1) ?_ ?_
 ·exact X3 ⟨E.to rfl,H,Y0,hm⟩
 ·clear E H hm
  rintro N a w ⟨X,L,O,E,H,k,hm⟩
  cases N with
  | zero=>exact (bT hm rfl).elim
  | succ N=>
   unfold gE at hm
   refine sq<|pr 1 E rfl fun a E=>nt<|wp_seq<|wif E hm rfl (fun hm=>?_) fun hm=>?_
   ·refine wp_skip<|aC<|wp_seq<|wp_block<|sq<|bd hm fun Y b8 hm=>dE E H (wn rfl) rfl rfl rfl rfl rfl (k _ W) U26 s8 b8 fun q17 a H E=>ldf sJ E H rfl rfl rfl rfl rfl m0 U87 rfl s8 fun a E=>al E H rfl rfl rfl rfl Ig fun b7 w a H E=>?_
    refine aZ (i:=0) E H (wn rfl) rfl rfl rfl rfl rfl rfl s8 rfl rfl fun w H=>nt<|wp_seq<|aT (fun a w=>∃ Z P,Env 154 a [(1,pt g 0),(5,pt b7 0),(10,F),(11,.int .i64 (x1.Pieces.length:Int)),(12,.int .i64 L),(36,.bool Z)]∧Sep w (Blk g 37 (aR x1 F I J G)::Blk b7 87 (U8 Y)::Fo) P∧(∀ r,r ∈ rs→r ∈ P)∧lF (gE x1 N) Y L Z=some r) ?_ ?_
    ·refine wp_region_lit<|pr 1 E rfl fun a E=>lb E H 0 rfl rfl rfl rfl rfl rfl rfl U3 rfl fun a E=>pr 3 E rfl fun a E=>cs hm (fun u hm=>?_) fun u hm=>?_
     ·exact pk 16 E (kc 20 rfl u) rfl fun a E=>nt<|have H:=H.frs [0,1] rfl;⟨_,_,E.to rfl,H,(Y1 k),hm⟩
     ·refine pk 1 E (kc 20 rfl u) rfl fun a E=>aQ E (ws' (d:=20) E rfl rfl rfl rfl u) rfl rfl (cD (i:=0) E H rfl rfl rfl rfl U3 rfl) fun a E=>pk 3 E (kc 20 rfl u) rfl fun a E=>cs hm (fun l hm=>?_) fun l hm=>?_
      ·exact pk 11 E (kc 25 rfl l) rfl fun a E=>nt<|have H:=H.frs [0,1] rfl;⟨_,_,E.to rfl,H,(Y1 k),hm⟩
      ·refine pk 1 E (kc 25 rfl l) rfl fun a E=>aQ E (ws' (d:=25) E rfl rfl rfl rfl l) rfl rfl (cA (i:=0) (us:=(cH Y.Part)) E H rfl rfl rfl rfl U85 rfl hP) fun a E=>bd hm fun c7 b9 hm=>aU E (ws' (d:=25) E rfl rfl rfl rfl l) rfl rfl (cC E rfl rfl (Rj _)) (Bq H b9)<|?_
       rintro _ w ⟨rfl,H⟩ a E
       refine pk 3 E (kc 25 rfl l) rfl fun a E=>cs hm (fun y hm=>?_) fun y hm=>?_
       ·exact pk 5 E (kc 31 rfl y) rfl fun a E=>nt<|have H:=H.frs [0,1] rfl;⟨_,_,E.to rfl,H,(Y1 k),hm⟩
       ·exact pk 2 E (kc 31 rfl y) rfl fun a E=>aQ E (ws' (d:=31) E rfl rfl rfl rfl y) rfl rfl (cD (i:=0) E H rfl rfl rfl rfl U2 rfl) fun a E=>pk 2 E (kc 31 rfl y) rfl fun a E=>nt<|have H:=H.frs [0,1] rfl;⟨_,_,E.to rfl,H,(Y1 k),hm⟩
    ·clear E H hm
     rintro a w ⟨Z,P,E,H,b0,hm⟩
     unfold lF at hm
     refine wif E hm rfl (fun hm=>?_) fun hm=>?_
     ·refine sq<|pr 1 E rfl fun a E=>nt<|wp_ret<|aP<|bV<|aP<|aP<|bV<|?_
      refine aP<|aY E rfl rfl<|have H:=H.drs [0,0];?_
      cases hm
      exact ⟨rfl,H.reads b0⟩
     ·refine wp_skip<|aC<|wp_region_lit<|pr 1 E rfl fun a E=>lb E H 1 rfl rfl rfl rfl rfl rfl rfl U3 rfl fun a E=>pr 1 E rfl fun a E=>wpList_nil<|bY<|aC<|?_
      exact wp_region_lit<|pr 2 E rfl fun a E=>nt<|have H:=H.drop 1;⟨N,Nat.lt_succ_self N,X3 ⟨E.to rfl,H,b0,hm⟩⟩
   ·refine wp_exit<|bH<|bH<|dG<|aC<|wp_seq<|sq<|pr 1 E rfl fun a E=>lb E H 0 rfl rfl rfl rfl rfl rfl rfl U33 rfl fun a E=>?_
    refine sv E rfl rfl rfl (cR E H rfl rfl (k _ V) U33) fun a E=>pr 1 E rfl fun a E=>nt<|wp_block<|bX (fun Q a w=>∃ M R,Env 154 a [(1,pt g 0),(41,G),(42,.int .i64 (x1.Gone.length:Int)),(43,.int .i64 M)]∧Sep w (Blk g 37 (aR x1 F I J G)::Fo) R∧(∀ r,r ∈ rs→r ∈ R)∧gD x1 Q M=some r) (((x1.Gone.length:Int) - 0:Int).toNat+1) ?_ ?_
    ·exact ⟨_,_,E.to rfl,H,k,hm⟩
    ·clear E H hm
     rintro Q a w ⟨M,R,E,H,c,hm⟩
     cases Q with
     | zero=>exact (bT hm rfl).elim
     | succ Q=>
      unfold gD at hm
      refine sq<|pr 1 E rfl fun a E=>nt<|wp_seq<|wif E hm rfl (fun hm=>?_) fun hm=>?_
      ·refine wp_skip<|aC<|wp_seq<|wp_block<|sq<|pr 1 E rfl fun a E=>bd hm fun c8 c0 hm=>dE E H (wn rfl) rfl rfl rfl rfl rfl (c _ V) U33 sz9 c0 fun q32 a H E=>sv E rfl rfl rfl (nT E H rfl rfl m0 U9 rfl) fun a E=>?_
       refine pr 2 E rfl fun a E=>nt<|aT (fun a w=>∃ b1 S,Env 154 a [(1,pt g 0),(41,G),(42,.int .i64 (x1.Gone.length:Int)),(43,.int .i64 M),(72,.bool b1)]∧Sep w (Blk g 37 (aR x1 F I J G)::Fo) S∧(∀ r,r ∈ rs→r ∈ S)∧lG (gD x1 Q) M b1=some r) ?_ ?_
       ·refine wp_region_lit<|pr 2 E rfl fun a E=>lb E H 0 rfl rfl rfl rfl rfl rfl rfl U9 rfl fun a E=>bd hm fun c9 c1 hm=>xk E rfl rfl rfl rfl rfl Lq (P2 H c1) fun w H a E=>pr 2 E rfl fun a E=>cs hm (fun z hm=>?_) fun z hm=>?_
        ·exact pk 19 E (kc 53 rfl z) rfl fun a E=>nt<|⟨_,_,E.to rfl,H,(Y1 c),hm⟩
        ·refine pk 2 E (kc 53 rfl z) rfl fun a E=>aQ E (ws' (d:=53) E rfl rfl rfl rfl z) rfl rfl (cD (i:=0) E H rfl rfl rfl rfl U9 rfl) fun a E=>pk 3 E (kc 53 rfl z) rfl fun a E=>cs hm (fun A hm=>?_) fun A hm=>?_
         ·exact pk 13 E (kc 59 rfl A) rfl fun a E=>nt<|⟨_,_,E.to rfl,H,(Y1 c),hm⟩
         ·refine pk 3 E (kc 59 rfl A) rfl fun a E=>cs hm (fun j hm=>?_) fun j hm=>?_
          ·exact pk 1 E (kc 62 rfl j) rfl fun a E=>aQ E (ws' (d:=62) E rfl rfl rfl rfl j) rfl rfl (cD (i:=0) E H rfl rfl rfl rfl U33 rfl) fun a E=>pk 2 E (kc 62 rfl j) rfl fun a E=>bd hm fun d0 c2 hm=>dE E H (ws' (d:=62) E rfl rfl rfl rfl j) rfl rfl rfl rfl rfl (t1 (c _ V)) U33 sz9 c2 fun q43 a H E=>aQ E (ws' (d:=62) E rfl rfl rfl rfl j) rfl rfl (nT E H rfl rfl m0 U9 rfl) fun a E=>pk 4 E (kc' (kc 62 rfl j) 59 rfl A) rfl fun a E=>nt<|⟨_,_,E.to rfl,H,(Y2 c),hm⟩
          ·exact pk 10 E (kc' (kc 62 rfl j) 59 rfl A) rfl fun a E=>nt<|⟨_,_,E.to rfl,H,(Y1 c),hm⟩
       ·clear E H hm
        rintro a w ⟨b1,S,E,H,b2,hm⟩
        unfold lG at hm
        refine wif E hm rfl (fun hm=>?_) fun hm=>?_
        ·refine sq<|pr 1 E rfl fun a E=>nt<|wp_ret<|bV<|aP<|aP<|bV<|aP<|?_
         refine aY E rfl rfl<|have H:=H.drop 0;?_
         cases hm
         exact ⟨rfl,H.reads b2⟩
        ·exact wp_skip<|bY<|aC<|wp_region_lit<|pr 2 E rfl fun a E=>nt<|⟨Q,Nat.lt_succ_self Q,_,_,E.to rfl,H,b2,hm⟩
      ·refine wp_exit<|bH<|bH<|dG<|aC<|aT (fun a w=>∃ b3 T,Env 154 a [(1,pt g 0),(8,.bool b3)]∧Sep w (Blk g 37 (aR x1 F I J G)::Fo) T∧(∀ r,r ∈ rs→r ∈ T)∧gW x1 b3=some r) ?_ ?_
       ·refine wp_region_lit<|pr 1 E rfl fun a E=>lb E H 0 rfl rfl rfl rfl rfl rfl rfl U3 rfl fun a E=>pr 2 E rfl fun a E=>cs hm (fun B hm=>?_) fun B hm=>?_
        ·refine pk 1 E (kc 77 rfl B) rfl fun a E=>aQ E (ws' (d:=77) E rfl rfl rfl rfl B) rfl rfl (cD (i:=0) E H rfl rfl rfl rfl U3 rfl) fun a E=>pk 3 E (kc 77 rfl B) rfl fun a E=>cs hm (fun C hm=>?_) fun C hm=>?_
         ·refine pk 1 E (kc 82 rfl C) rfl fun a E=>aQ E (ws' (d:=82) E rfl rfl rfl rfl C) rfl rfl (cD (i:=0) E H rfl rfl rfl rfl U3 rfl) fun a E=>pk 3 E (kc 82 rfl C) rfl fun a E=>cs hm (fun D hm=>?_) fun D hm=>?_
          ·refine pk 1 E (kc 87 rfl D) rfl fun a E=>aQ E (ws' (d:=87) E rfl rfl rfl rfl D) rfl rfl (cD (i:=0) E H rfl rfl rfl rfl U3 rfl) fun a E=>pk 3 E (kc 87 rfl D) rfl fun a E=>cs hm (fun m hm=>?_) fun m hm=>?_
           ·exact pk 1 E (kc 92 rfl m) rfl fun a E=>aQ E (ws' (d:=92) E rfl rfl rfl rfl m) rfl rfl (cD (i:=0) E H rfl rfl rfl rfl U26 rfl) fun a E=>aQ E (ws' (d:=92) E rfl rfl rfl rfl m) rfl rfl (cR E H rfl rfl (c _ W) U26) fun a E=>pk 3 E (kc 92 rfl m) rfl fun a E=>nt<|⟨_,_,E.to rfl,H,c,hm⟩
           ·exact pk 6 E (kc 92 rfl m) rfl fun a E=>nt<|⟨_,_,E.to rfl,H,c,hm⟩
          ·exact pk 11 E (kc 87 rfl D) rfl fun a E=>nt<|⟨_,_,E.to rfl,H,c,hm⟩
         ·exact pk 16 E (kc 82 rfl C) rfl fun a E=>nt<|⟨_,_,E.to rfl,H,c,hm⟩
        ·exact pk 21 E (kc 77 rfl B) rfl fun a E=>nt<|⟨_,_,E.to rfl,H,c,hm⟩
       ·clear E H hm
        rintro a w ⟨b3,T,E,H,K,hm⟩
        unfold gW at hm
        refine aT (fun a w=>∃ b4 U,Env 154 a [(1,pt g 0),(8,.bool b4)]∧Sep w (Blk g 37 (aR x1 F I J G)::Fo) U∧(∀ r,r ∈ rs→r ∈ U)∧jG x1 b4=some r) ?_ ?_
        ·refine wp_region_lit<|pr 2 E rfl fun a E=>cs hm (fun b hm=>?_) fun b hm=>?_
         ·refine pk 1 E (kc 99 rfl b) rfl fun a E=>aQ E (ws' (d:=99) E rfl rfl rfl rfl b) rfl rfl (cD (i:=0) E H rfl rfl rfl rfl U2 rfl) fun a E=>pk 1 E (kc 99 rfl b) rfl fun a E=>aQ E (ws' (d:=99) E rfl rfl rfl rfl b) rfl rfl (cD (i:=0) E H rfl rfl rfl rfl U2 rfl) fun a E=>pk 1 E (kc 99 rfl b) rfl fun a E=>aQ E (ws' (d:=99) E rfl rfl rfl rfl b) rfl rfl (cD (i:=0) E H rfl rfl rfl rfl U2 rfl) fun a E=>pk 1 E (kc 99 rfl b) rfl fun a E=>aQ E (ws' (d:=99) E rfl rfl rfl rfl b) rfl rfl (cD (i:=0) E H rfl rfl rfl rfl U2 rfl) fun a E=>pk 2 E (kc 99 rfl b) rfl fun a E=>?_
          refine aQ E (ws' (d:=99) E rfl rfl rfl rfl b) rfl rfl (cD (i:=0) E H rfl rfl rfl rfl U2 rfl) fun a E=>pk 2 E (kc 99 rfl b) rfl fun a E=>aQ E (ws' (d:=99) E rfl rfl rfl rfl b) rfl rfl (cD (i:=0) E H rfl rfl rfl rfl U2 rfl) fun a E=>fY (e:=2) (d:=(kI .i64)) (cs:=[.int .i64 x1.Id,.int .i64 x1.Txn,.int .i64 x1.Age,.int .i64 x1.Epoch,.int .i64 x1.Watch.Session,.int .i64 x1.Watch.Num]) (xs:=[x1.Id,x1.Txn,x1.Age,x1.Epoch,x1.Watch.Session,x1.Watch.Num]) E H (ws' (d:=99) E rfl rfl rfl rfl b) rfl rfl rfl (E.evs rfl) (by kernel_rfl) rfl rfl (fun ok hr=>(Rows.append (Rows.append (Rows.append (Rows.append (Rows.append (Rows.single (d:=(kI .i64)) (cs:=[.int .i64 x1.Id]) (x:=x1.Id) rfl) (Rows.single (d:=(kI .i64)) (cs:=[.int .i64 x1.Txn]) (x:=x1.Txn) rfl)) (Rows.single (d:=(kI .i64)) (cs:=[.int .i64 x1.Age]) (x:=x1.Age) rfl)) (Rows.single (d:=(kI .i64)) (cs:=[.int .i64 x1.Epoch]) (x:=x1.Epoch) rfl)) (Rows.single (d:=(kI .i64)) (cs:=[.int .i64 x1.Watch.Session]) (x:=x1.Watch.Session) rfl)) (Rows.single (d:=(kI .i64)) (cs:=[.int .i64 x1.Watch.Num]) (x:=x1.Watch.Num) rfl))) fun d1 w a H E=>have H:=H.thaw (i:=0) rfl;bd hm fun d2 c3 hm=>aU E (ws' (d:=99) E rfl rfl rfl rfl b) rfl rfl (cC E rfl rfl (Zf _)) (Ae H m0 c3)<|?_
          rintro _ w ⟨rfl,H⟩ a E
          refine pk 2 E (kc 99 rfl b) rfl fun a E=>cs hm (fun n hm=>?_) fun n hm=>?_
          ·refine pk 1 E (kc 117 rfl n) rfl fun a E=>aQ E (ws' (d:=117) E rfl rfl rfl rfl n) rfl rfl (cD (i:=0) E H rfl rfl rfl rfl U9 rfl) fun a E=>bd hm fun d3 c4 hm=>aU E (ws' (d:=117) E rfl rfl rfl rfl n) rfl rfl (cC E rfl rfl (Rs _)) (D6 H c4)<|?_
           rintro _ w ⟨rfl,H⟩ a E
           refine pk 2 E (kc 117 rfl n) rfl fun a E=>cs hm (fun o hm=>?_) fun o hm=>?_
           ·refine pk 2 E (kc 122 rfl o) rfl fun a E=>aQ E (ws' (d:=122) E rfl rfl rfl rfl o) rfl rfl (cD (i:=0) E H rfl rfl rfl rfl U9 rfl) fun a E=>bd hm fun d4 c5 hm=>aU E (ws' (d:=122) E rfl rfl rfl rfl o) rfl rfl (cC E rfl rfl (Rs _)) (D6 H c5)<|?_
            rintro _ w ⟨rfl,H⟩ a E
            exact pk 2 E (kc 122 rfl o) rfl fun a E=>nt<|⟨_,_,E.to rfl,H,(Y1 K),hm⟩
           ·exact pk 6 E (kc 122 rfl o) rfl fun a E=>nt<|⟨_,_,E.to rfl,H,(Y1 K),hm⟩
          ·exact pk 11 E (kc 117 rfl n) rfl fun a E=>nt<|⟨_,_,E.to rfl,H,(Y1 K),hm⟩
         ·exact pk 29 E (kc 99 rfl b) rfl fun a E=>nt<|⟨_,_,E.to rfl,H,K,hm⟩
        ·clear E H hm
         rintro a w ⟨b4,U,E,H,f,hm⟩
         unfold jG at hm
         refine sq<|pr 2 E rfl fun a E=>cs hm (fun p hm=>?_) fun p hm=>?_
         ·refine pk 1 E (kc 129 rfl p) rfl fun a E=>aQ E (ws' (d:=129) E rfl rfl rfl rfl p) rfl rfl (cD (i:=0) E H rfl rfl rfl rfl U33 rfl) fun a E=>aQ E (ws' (d:=129) E rfl rfl rfl rfl p) rfl rfl (cR E H rfl rfl (f _ V) U33) fun a E=>pk 3 E (kc 129 rfl p) rfl fun a E=>cs hm (fun q hm=>?_) fun q hm=>?_
          ·refine pk 1 E (kc 135 rfl q) rfl fun a E=>aQ E (ws' (d:=135) E rfl rfl rfl rfl q) rfl rfl (cA (i:=0) (us:=[I,J]) E H rfl rfl rfl rfl U25 rfl dA) fun a E=>bd hm fun d5 c6 hm=>aU E (ws' (d:=135) E rfl rfl rfl rfl q) rfl rfl (cC E rfl rfl (Hw _)) (yX H (f _ b5) (f _ b6) c6)<|?_
           rintro _ w ⟨rfl,H⟩ a E
           refine pk 2 E (kc 135 rfl q) rfl fun a E=>cs hm (fun s hm=>?_) fun s hm=>?_
           ·refine pk 2 E (kc 140 rfl s) rfl fun a E=>aQ E (ws' (d:=140) E rfl rfl rfl rfl s) rfl rfl (cD (i:=0) E H rfl rfl rfl rfl U22 rfl) fun a E=>aQ E (ws' (d:=140) E rfl rfl rfl rfl s) rfl rfl (cR E H rfl rfl (f _ b5) U22) fun a E=>pk 3 E (kc 140 rfl s) rfl fun a E=>cs hm (fun t hm=>?_) fun t hm=>?_
            ·refine pk 2 E (kc 147 rfl t) rfl fun a E=>aQ E (ws' (d:=147) E rfl rfl rfl rfl t) rfl rfl (cD (i:=0) E H rfl rfl rfl rfl U23 rfl) fun a E=>aQ E (ws' (d:=147) E rfl rfl rfl rfl t) rfl rfl (cR E H rfl rfl (f _ b6) U23) fun a E=>pk 3 E (kc 147 rfl t) rfl fun a E=>nt<|wp_ret<|aY E rfl rfl<|have H:=H.drop 0;?_
             cases hm
             exact ⟨rfl,H.reads f⟩
            ·refine pk 7 E (kc 147 rfl t) rfl fun a E=>nt<|wp_ret<|aY E rfl rfl<|have H:=H.drop 0;?_
             cases hm
             exact ⟨rfl,H.reads f⟩
           ·refine pk 14 E (kc 140 rfl s) rfl fun a E=>nt<|wp_ret<|aY E rfl rfl<|have H:=H.drop 0;?_
            cases hm
            exact ⟨rfl,H.reads f⟩
          ·refine pk 19 E (kc 135 rfl q) rfl fun a E=>nt<|wp_ret<|aY E rfl rfl<|have H:=H.drop 0;?_
           cases hm
           exact ⟨rfl,H.reads f⟩
         ·refine pk 25 E (kc 129 rfl p) rfl fun a E=>nt<|wp_ret<|aY E rfl rfl<|have H:=H.drop 0;?_
          cases hm
          exact ⟨rfl,H.reads f⟩

def dM(x1:Int):Option aG:=
  some ((⟨x1,0,false,0,[],(⟨[],[]⟩:bB),[],[],[]⟩:aG))
theorem dT{x1:Int}(H:Sep w (Fo) rs){r:aG}(hm:dM x1=some r) :
    Calls Tryz.prog 36 [.int .i64 x1].toArray w (Ret fun v w'=>∃ b c d e f g,.agg (bC r b c d e f g).toArray=v∧Sep w' (Fo) (rSl bE b r.Results::rSl aF c r.Store.Nodes::rSl aJ d r.Store.Turns::rSl aV e r.Events::rSl bL f r.Mounts::rSl (kI .i64) g r.Wounded::rs)):=by
 unfold dM at hm
 refine ent Tryz.func36 rfl Tryz.ntmps36 rfl rfl fun a E=>sq<|al E H rfl rfl rfl rfl gN fun j w a H E=>nx<|pr 1 E rfl fun a E=>sv E rfl rfl rfl (cI E rfl (E.evs rfl) (v:=.agg #[.int .i64 x1,.int .i64 0,.bool false,.int .i64 0,.slice none 0 0,.slice none 0 0,.slice none 0 0,.slice none 0 0,.slice none 0 0,.slice none 0 0]) (by kernel_rfl)) fun a E=>aZ (i:=0) E H (wn rfl) rfl rfl rfl rfl rfl rfl bU rfl rfl fun w H=>nt<|wp_ret<|?_
 refine dH E rfl (cV (i:=0) (us:=[.int .i64 x1,.int .i64 0,.bool false,.int .i64 0,.slice none 0 0,.slice none 0 0,.slice none 0 0,.slice none 0 0,.slice none 0 0,.slice none 0 0]) H rfl rfl rfl U48 rfl bU)<|have H:=H.nilSl bE;have H:=H.nilSl aF;have H:=H.nilSl aJ;have H:=H.nilSl aV;have H:=H.nilSl bL;have H:=H.nilSl (kI .i64);have H:=H.drop 0;?_
 cases hm
 exact X6 ⟨rfl,H.reads (aA mm5 (aA mm4 (aA mm3 (aA mm2 (aA mm1 (aA m0 (fun r hr=>(t6 hr))))))))⟩

def gY(x20:bA)(b:(List ((Int)×aG))):Option (aG×(List ((Int)×aG))):=
  (Ay (kyI .i64) b x20.Txn nP).bind fun c=>some (c,b)
def jU(x20:bA)(b:List ((Int)×aG))(c:Bool):Option (aG×(List ((Int)×aG))):=
  if (!c)=true then (if ((b.length:Int) == 128)=true then ((dM 2).bind fun d=>some (d,b)) else ((mpt (kyI .i64) b x20.Txn (⟨0,0,x20.Yes,x20.Epoch,[],(⟨[],[]⟩:bB),[],[],[]⟩:aG)).bind fun e=>gY x20 e)) else (gY x20 b)
def fF(b:List ((Int)×aG))(x20:bA):Option (aG×(List ((Int)×aG))):=
  (A2 (kyI .i64) b x20.Txn nP).bind fun c=>jU x20 b c.2
theorem K4{d b:Nat}{y:List ((Int)×aG)}{x20:bA}{o p q s e f g j k l m n:Value}(H:Sep w (Blk d 75 [e,f,g,j,k,l,m,n,.map (some b)]::cB Tryz.prog 2 (kyI .i64) bI true b y::Fo) rs){r:aG×(List ((Int)×aG))}(hm:fF y x20=some r) :
    Calls Tryz.prog 28 [pt d 0,.agg (aR x20 o p q s).toArray].toArray w (Ret fun v w'=>∃ J L M N O P,.agg (bC r.1 J L M N O P).toArray=v∧Sep w' (Blk d 75 [e,f,g,j,k,l,m,n,.map (some b)]::cB Tryz.prog 2 (kyI .i64) bI true b r.2::Fo) (rSl bE J r.1.Results::rSl aF L r.1.Store.Nodes::rSl aJ M r.1.Store.Turns::rSl aV N r.1.Events::rSl bL O r.1.Mounts::rSl (kI .i64) P r.1.Wounded::rs)):=by
 unfold fF at hm
 refine ent Tryz.func28 rfl Tryz.ntmps28 rfl rfl fun a E=>sq<|bS E H (wn rfl) rfl rfl rfl rfl rfl fun c w a H E=>al E H rfl rfl rfl rfl gN fun z w a H E=>nt<|aT (fun a w=>∃ A t,Env 44 a [(0,pt d 0),(3,pt c 0),(4,pt z 0)]∧Sep w (Blk d 75 [e,f,g,j,k,l,m,n,.map (some b)]::Blk c 37 (aR x20 o p q s)::Blk z 48 bN::cB Tryz.prog 2 (kyI .i64) bI true b A::Fo) t∧(∀ r,r ∈ rs→r ∈ t)∧gY x20 A=some r) ?_ ?_
 ·refine aT (fun a w=>∃ B u,Env 44 a [(0,pt d 0),(3,pt c 0),(4,pt z 0),(6,.bool B)]∧Sep w (Blk d 75 [e,f,g,j,k,l,m,n,.map (some b)]::Blk c 37 (aR x20 o p q s)::Blk z 48 bN::cB Tryz.prog 2 (kyI .i64) bI true b y::Fo) u∧(∀ r,r ∈ rs→r ∈ u)∧jU x20 y B=some r) ?_ ?_
  ·refine bd hm fun c2 C hm=>?_
   have hI:dP [Blk c 37 (aR x20 o p q s),Blk d 75 [e,f,g,j,k,l,m,n,.map (some b)]] [] { w with drawn:=w.drawn+1 }:=⟨_,_,H.kept (Kp.drawn _ w _),(aB mm1 (aB mm2 (aL))),(aM)⟩
   refine jY _ (.go 0 0 (.go 1 0 (.go 2 0 (.go 3 0 (.go 4 0 (.go 5 0 (.alt 6 (.go 7 0 (.go 8 0 (.go 9 0 (.go 10 1 (.go 11 1 (.go 12 2 .nil)))))) 10 (.go 6 1 (.go 7 0 (.go 8 0 (.go 9 0 (.go 11 1 (.go 12 2 .nil))))))))))))) [12] kG (by kernel_rfl) (fun _ _ _ h=>False.elim h.2) hI<|have H:=H.kept (Kp.drawn _ w (w.drawn+1));?_
   generalize ({ w with drawn:=w.drawn+1 }:World)=w at H hI ⊢
   replace hI:∃ W,dP [Blk c 37 (aR x20 o p q s),Blk d 75 [e,f,g,j,k,l,m,n,.map (some b)]] [] W:=⟨_,hI⟩
   obtain ⟨W0,hI⟩:=hI
   refine aW E rfl (wn rfl) rfl rfl (fun w hW=>(bD E rfl rfl)) fun a E=>aW E rfl (wn rfl) rfl rfl (fun w hW=>(sF E rfl rfl)) fun a E=>aW E rfl (wn rfl) rfl rfl (fun w hW=>iY E rfl rfl (v:=pt d 8) (Kg _ _)) fun a E=>aW E rfl (wn rfl) rfl rfl (fun w hW=>eZ E rfl rfl (kD mm1 rfl U68 rfl w hW)) fun a E=>aW E rfl (wn rfl) rfl rfl (fun w hW=>iY E rfl rfl (v:=pt c 2) (Be _ _)) fun a E=>aW E rfl (wn rfl) rfl rfl (fun w hW=>eZ E rfl rfl (kD m0 rfl U2 rfl w hW)) fun a E=>?_
   refine kM rfl rfl ?_ ?_
   ·refine lR (i:=3) (K:=(kyI .i64)) E H (wn rfl) rfl rfl rfl rfl rfl rfl (dX U2) U68 yV A4 C fun c3 a H E=>?_
    obtain ⟨c4,c5,c6,c7,c8,c9,rfl,h⟩:=jC H;clear H;have H:=h
    refine nt<|?_
    refine ⟨⟨_,_,H,(aB mm1 (aB mm2 (aL))),(aM)⟩,?_⟩
    refine aW E rfl (wn rfl) rfl rfl (fun w hW=>(bD E rfl rfl)) fun a E=>aW E rfl (wn rfl) rfl rfl (fun w hW=>(cX E rfl rfl rfl)) fun a E=>aW E rfl (wn rfl) rfl rfl (fun w hW=>(cX E rfl rfl rfl)) fun a E=>cJ rfl<|al E H rfl rfl rfl rfl gN fun d0 w a H E=>nt<|?_
    refine ⟨⟨_,_,H,(aB mm2 (aB mm3 (aL))),(aM)⟩,?_⟩
    refine cJ rfl<|aZ (i:=0) E H (wn rfl) rfl rfl rfl rfl rfl rfl bU rfl (bF H mm5 mm4 mm3 mm2 mm1 m0) fun w H=>nt<|?_
    refine ⟨⟨_,_,H,(aB mm2 (aB mm3 (aL))),(aM)⟩,?_⟩
    refine cP rfl<|pr 1 E rfl fun a E=>nt<|dW<|?_
    clear hI
    exact aC<|have H:=H.drop 0;have H:=H.frs [3,1,2,3] rfl;⟨_,_,E.to rfl,H,(Y7 Y0),hm⟩
   ·refine al E H rfl rfl rfl rfl gN fun d1 w a H E=>nt<|?_
    refine ⟨⟨_,_,H,(aB mm2 (aB mm3 (aL))),(aM)⟩,?_⟩
    refine cJ rfl<|lR (i:=4) (K:=(kyI .i64)) E H (wn rfl) rfl rfl rfl rfl rfl rfl (dX U2) U68 yV A4 C fun b5 a H E=>?_
    obtain ⟨b6,b7,b8,b9,c0,c1,rfl,h⟩:=jC H;clear H;have H:=h
    refine nt<|?_
    refine ⟨⟨_,_,H,(aB mm2 (aB mm3 (aL))),(aM)⟩,?_⟩
    refine aW E rfl (wn rfl) rfl rfl (fun w hW=>(bD E rfl rfl)) fun a E=>aW E rfl (wn rfl) rfl rfl (fun w hW=>(cX E rfl rfl rfl)) fun a E=>aW E rfl (wn rfl) rfl rfl (fun w hW=>(cX E rfl rfl rfl)) fun a E=>cJ rfl<|aZ (i:=0) E H (wn rfl) rfl rfl rfl rfl rfl rfl bU rfl (bF H mm5 mm4 mm3 mm2 mm1 m0) fun w H=>nt<|?_
    refine ⟨⟨_,_,H,(aB mm2 (aB mm3 (aL))),(aM)⟩,?_⟩
    refine cP rfl<|pr 1 E rfl fun a E=>nt<|dW<|?_
    clear hI
    exact aC<|have H:=H.drop 0;have H:=H.frs [3,1,2,3] rfl;⟨_,_,E.to rfl,H,(Y7 Y0),hm⟩
  ·clear E H hm
   rintro a w ⟨B,u,E,H,x,hm⟩
   unfold jU at hm
   refine sq<|pr 2 E rfl fun a E=>nt<|wif E hm rfl (fun hm=>?_) fun hm=>?_
   ·refine wp_seq<|sq<|pr 3 E rfl fun a E=>lb E H 0 rfl rfl rfl rfl rfl rfl rfl U68 rfl fun a E=>sv E rfl rfl rfl (r7 (i:=3) E H rfl rfl rfl U68) fun a E=>pr 1 E rfl fun a E=>nt<|wif E hm rfl (fun hm=>?_) fun hm=>?_
    ·refine sq<|bd hm fun Q D hm=>cG E rfl rfl rfl rfl rfl tM (dT H D)<|?_
     rintro _ w ⟨R,S,T,U,V,X,rfl,H⟩ a E
     refine aZ (i:=2) E H (wn rfl) rfl rfl rfl rfl rfl rfl bU rfl (bF H m0 mm1 mm2 mm3 mm4 mm5) fun w H=>nt<|wp_ret<|aP<|aP<|dH E rfl (cV (i:=2) (us:=(bC Q R S T U V X)) H rfl rfl rfl U48 rfl bU)<|have H:=H.drs [1,1];?_
     cases hm
     exact X6 ⟨rfl,H.reads (aA m0 (aA mm1 (aA mm2 (aA mm3 (aA mm4 (aA mm5 (fun r hr=>(t6 (x r hr)))))))))⟩
    ·refine wp_skip<|aC<|dw [(0,0),(1,0),(2,0),(3,0),(4,0),(5,0),(6,0),(7,0),(8,0),(9,0),(10,0),(11,2)] [0,1] [] H (by kernel_rfl) (fun _ _ _ h=>False.elim h.2) fun w W0 hI H=>fn 3 E rfl fun a E=>fb E rfl (wn rfl) rfl rfl rfl rfl m0 rfl U68 rfl fun a E=>fn 1 E rfl fun a E=>fb E rfl (wn rfl) rfl rfl rfl rfl mm1 rfl U2 rfl fun a E=>fn 1 E rfl fun a E=>fb E rfl (wn rfl) rfl rfl rfl rfl mm1 rfl U4 rfl fun a E=>?_
     refine fn 1 E rfl fun a E=>fb E rfl (wn rfl) rfl rfl rfl rfl mm1 rfl U2 rfl fun a E=>bW E rfl (wn rfl) rfl rfl (fun w hW=>(cI E rfl (E.evs rfl) (v:=.agg #[.int .i64 0,.int .i64 0,.bool x20.Yes,.int .i64 x20.Epoch,.slice none 0 0,.slice none 0 0,.slice none 0 0,.slice none 0 0,.slice none 0 0,.slice none 0 0]) (by kernel_rfl))) fun a E=>?_
     refine bQ rfl<|bd hm fun d2 F hm=>zR (i:=3) (K:=(kyI .i64)) (v:=(⟨0,0,x20.Yes,x20.Epoch,[],(⟨[],[]⟩:bB),[],[],[]⟩:aG)) (cs:=[.int .i64 0,.int .i64 0,.bool x20.Yes,.int .i64 x20.Epoch,.slice none 0 0,.slice none 0 0,.slice none 0 0,.slice none 0 0,.slice none 0 0,.slice none 0 0]) E H (wn rfl) rfl rfl rfl rfl rfl rfl (dX U2) U68 F (fun ok hr=>(lS (Sl.nil _ _ _) (Sl.nil _ _ _) (Sl.nil _ _ _) (Sl.nil _ _ _) (Sl.nil _ _ _) (Sl.nil _ _ _))) fun w H=>nt<|bR<|?_
     clear hI
     exact aC<|⟨_,_,E.to rfl,H,x,hm⟩
   ·exact wp_skip<|aC<|⟨_,_,E.to rfl,H,x,hm⟩
 ·clear E H hm
  rintro a w ⟨A,t,E,H,G,hm⟩
  unfold gY at hm
  refine wp_seq<|dw [(0,0),(1,0),(2,0),(3,0),(4,0),(5,0),(6,1),(7,2)] [0,1] [] H (by kernel_rfl) (fun _ _ _ h=>False.elim h.2) fun w W0 hI H=>fn 3 E rfl fun a E=>fb E rfl (wn rfl) rfl rfl rfl rfl m0 rfl U68 rfl fun a E=>fn 1 E rfl fun a E=>fb E rfl (wn rfl) rfl rfl rfl rfl mm1 rfl U2 rfl fun a E=>bZ rfl<|bd hm fun Y I hm=>Jz (i:=3) (K:=(kyI .i64)) E H (wn rfl) rfl rfl rfl rfl rfl rfl (dX U2) U68 yV A4 I fun d3 a H E=>?_
  obtain ⟨Z,b0,b1,b2,b3,b4,rfl,h⟩:=jC H;clear H;have H:=h
  refine nt<|?_
  refine ⟨⟨_,_,H,(aB m0 (aB mm1 (aL))),(aM)⟩,?_⟩
  refine bQ rfl<|aZ (i:=2) E H (wn rfl) rfl rfl rfl rfl rfl rfl bU rfl (bF H mm5 mm4 mm3 mm2 mm1 m0) fun w H=>nt<|bR<|?_
  clear hI
  refine aC<|wp_ret<|dH E rfl (cV (i:=2) (us:=(bC Y Z b0 b1 b2 b3 b4)) H rfl rfl rfl U48 rfl bU)<|have H:=H.drs [1,1];?_
  cases hm
  exact X6 ⟨rfl,H.reads (aA mm5 (aA mm4 (aA mm3 (aA mm2 (aA mm1 (aA m0 (fun r hr=>(t7 (G r hr)))))))))⟩

def xN(rec_1:Int→Int→Option Int)(b:Int)(c:Int):Option Int:=
  rec_1 c (IntKind.i64.wrap (b+1))
def tG(rec_1:Int→Int→Option Int)(b:Int)(d:Int)(c:Bool):Option Int:=
  if c=true then (xN rec_1 b b) else (xN rec_1 b d)
def mD(b:List aH)(e:ByteArray):Nat→Int→Int→Option Int
  | 0,_,_=>none
  | g+1,c,d=>
    if (decide (d < (b.length:Int)))=true then ((idx b d).bind fun f=>(s0 e f.Prefix).bind fun i=>if i=true then (if (decide (c < 0))=true then (tG (mD b e g) d c true) else ((idx b c).bind fun j=>tG (mD b e g) d c (decide ((f.Prefix.size:Int) > (j.Prefix.size:Int))))) else (tG (mD b e g) d c false)) else ((oL b).bind fun k=>if (!k)=true then (some ((-1))) else (some (c)))
def oU(b:List aH)(c:ByteArray):Option Int:=
  mD b c (((b.length:Int) - 0:Int).toNat+1) (-1) 0
theorem sK{g:Value}{f:List aH}{j:ByteArray}(H:Sep w (Fo) rs)(p:rSl aS g f ∈ rs){r:Int}(hm:oU f j=some r) :
    Calls Tryz.prog 76 [g,.string j].toArray w (Ret fun v w'=>.int .i64 r=v∧Sep w' (Fo) (rs)):=by
 unfold oU at hm
 refine ent Tryz.func76 rfl Tryz.ntmps76 rfl rfl fun a E=>sq<|pr 1 E rfl fun a E=>nx<|pr 1 E rfl fun a E=>nt<|wp_seq<|sq<|pr 1 E rfl fun a E=>?_
 refine sv E rfl rfl rfl (cR E H rfl rfl p U32) fun a E=>pr 1 E rfl fun a E=>nt<|wp_block<|bX (fun l a w=>∃ q m s,Env 41 a [(0,g),(1,.string j),(5,.int .i64 q),(8,g),(9,.int .i64 (f.length:Int)),(10,.int .i64 m)]∧Sep w (Fo) s∧(∀ r,r ∈ rs→r ∈ s)∧mD f j l q m=some r) (((f.length:Int) - 0:Int).toNat+1) ?_ ?_
 ·exact X3 ⟨E.to rfl,H,Y0,hm⟩
 ·clear E H hm
  rintro l a w ⟨q,m,s,E,H,c,hm⟩
  cases l with
  | zero=>exact (bT hm rfl).elim
  | succ l=>
   unfold mD at hm
   refine sq<|pr 1 E rfl fun a E=>nt<|wp_seq<|wif E hm rfl (fun hm=>?_) fun hm=>?_
   ·refine wp_skip<|aC<|aT (fun a w=>∃ x n,Env 41 a [(0,g),(1,.string j),(5,.int .i64 x),(8,g),(9,.int .i64 (f.length:Int)),(10,.int .i64 m)]∧Sep w (Fo) n∧(∀ r,r ∈ rs→r ∈ n)∧xN (mD f j l) m x=some r) ?_ ?_
    ·refine wp_block<|sq<|pr 1 E rfl fun a E=>bd hm fun I y hm=>dE E H (wn rfl) rfl rfl rfl rfl rfl (c _ p) U32 gL y fun q14 a H E=>ldf gZ E H rfl rfl rfl rfl rfl m0 U31 rfl gL fun a E=>al E H rfl rfl rfl rfl Cg fun J w a H E=>pr 1 E rfl fun a E=>aZ (i:=0) E H (wn rfl) rfl rfl rfl rfl rfl rfl gL rfl rfl fun w H=>?_
     refine nt<|aT (fun a w=>∃ t o,Env 41 a [(0,g),(1,.string j),(5,.int .i64 q),(6,.int .i64 m),(8,g),(9,.int .i64 (f.length:Int)),(10,.int .i64 m),(34,.bool t)]∧Sep w (Fo) o∧(∀ r,r ∈ rs→r ∈ o)∧tG (mD f j l) m q t=some r) ?_ ?_
     ·obtain ⟨K,H⟩:=H.raw (t1 (c _ p))
      refine dw [(0,0),(1,0),(2,0),(3,1),(4,0),(5,0),(6,0),(7,0),(8,0),(9,0),(10,0),(11,0),(12,0),(13,0),(14,0),(15,0),(16,0),(17,0),(18,0),(19,0)] [0] [0] H (by kernel_rfl) (fun _ _ _ h=>False.elim h.2) fun w W0 hI H=>fn 2 E rfl fun a E=>fb E rfl (wn rfl) rfl rfl rfl rfl m0 rfl U9 rfl fun a E=>bZ rfl<|bd hm fun L z hm=>xk E rfl rfl rfl rfl rfl Lq (P2 H z) fun w H a E=>nt<|?_
      refine ⟨⟨_,_,H,(aB m0 (aL)),(aA m0 (aM))⟩,?_⟩
      refine fn 1 E rfl fun a E=>cs hm (fun e hm=>?_) fun e hm=>?_
      ·refine fk 3 E (kc 19 rfl e) rfl fun a E=>cs hm (fun b hm=>?_) fun b hm=>?_
       ·refine fk 12 E (kc' (kc 22 rfl b) 19 rfl e) rfl fun a E=>bR<|?_
        clear hI
        exact aC<|have H:=H.drop 0;⟨_,_,E.to rfl,H,(Y2 c),hm⟩
       ·refine fk 1 E (kc 22 rfl b) rfl fun a E=>fb E rfl (ws' (d:=22) E rfl rfl rfl rfl b) rfl rfl rfl rfl m0 rfl U9 rfl fun a E=>fk 3 E (kc 22 rfl b) rfl fun a E=>bd hm fun M A hm=>?_
        obtain ⟨q26,N,B,C⟩:=oO (P:=Tryz.prog) (k:=.i64) hI (oN (.head _)) U32 gL A
        refine bW E rfl (ws' (d:=22) E rfl rfl rfl rfl b) rfl rfl (fun w hW=>rI E rfl rfl rfl (B w)) fun a E=>?_
        have D:=uU C (fun _ _ _ h=>nV h)
        refine fk 1 E (kc 22 rfl b) rfl fun a E=>fa E rfl (ws' (d:=22) E rfl rfl rfl rfl b) rfl rfl rfl rfl D U9 rfl fun a E=>fk 4 E (kc' (kc 22 rfl b) 19 rfl e) rfl fun a E=>bR<|?_
        clear hI
        exact aC<|have H:=H.drop 0;⟨_,_,E.to rfl,H,(Y2 c),hm⟩
      ·refine fk 15 E (kc 19 rfl e) rfl fun a E=>bR<|?_
       clear hI
       exact aC<|have H:=H.drop 0;⟨_,_,E.to rfl,H,(Y2 c),hm⟩
     ·clear E H hm
      rintro a w ⟨t,o,E,H,u,hm⟩
      unfold tG at hm
      refine wif E hm rfl (fun hm=>?_) fun hm=>?_
      ·exact wp_region_lit<|pr 2 E rfl fun a E=>wpList_nil<|bY<|aC<|⟨_,_,E.to rfl,H,u,hm⟩
      ·exact wp_skip<|bY<|aC<|⟨_,_,E.to rfl,H,u,hm⟩
    ·clear E H hm
     rintro a w ⟨x,n,E,H,F,hm⟩
     unfold xN at hm
     exact wp_region_lit<|pr 2 E rfl fun a E=>nt<|⟨l,Nat.lt_succ_self l,X3 ⟨E.to rfl,H,F,hm⟩⟩
   ·refine wp_exit<|bH<|bH<|dG<|aC<|wp_seq<|sq<|pr 1 E rfl fun a E=>bd hm fun O G hm=>?_
    refine xk E rfl rfl rfl rfl rfl Fk (tB H (c _ p) G) fun w H a E=>pr 1 E rfl fun a E=>nt<|wif E hm rfl (fun hm=>?_) fun hm=>?_
    ·refine sq<|pr 1 E rfl fun a E=>nt<|wp_ret<|aP<|aY E rfl rfl<|?_
     cases hm
     exact ⟨rfl,H.reads c⟩
    ·refine wp_skip<|aC<|sq<|pr 2 E rfl fun a E=>nt<|wp_ret<|aY E rfl rfl<|?_
     cases hm
     exact ⟨rfl,H.reads c⟩

def xO(e:ByteArray)(b:List aH)(f:ByteArray):Option Bool:=
  (oU b e).bind fun c=>if (decide (c ≥ 0))=true then ((idx b c).bind fun d=>some (sEq d.Prefix f)) else (some (false))
theorem M1{o e:ByteArray}{f g:Nat}{i:Value}{p:List aH}(H:Sep w (Blk f 32 [i]::Blk g 9 [.string e]::Fo) rs)(c:rSl aS i p ∈ rs){r:Bool}(hm:xO o p e=some r) :
    Calls Tryz.prog 145 [.string o,pt f 0,pt g 0].toArray w (Ret fun v w'=>.bool r=v∧Sep w' (Blk f 32 [i]::Blk g 9 [.string e]::Fo) (rs)):=by
 unfold xO at hm
 refine ent Tryz.func145 rfl Tryz.ntmps145 rfl rfl fun a E=>sq<|pr 1 E rfl fun a E=>nx<|lb E H 0 rfl rfl rfl rfl rfl rfl rfl U32 rfl fun a E=>pr 1 E rfl fun a E=>bd hm fun x q hm=>xk E rfl rfl rfl rfl rfl Aa (sK H c q) fun w H a E=>pr 1 E rfl fun a E=>?_
 refine nt<|wp_seq<|?_
 obtain ⟨s,H⟩:=H.raw c
 refine dw [(0,0),(1,0),(2,0),(3,0),(4,0),(5,0),(6,0),(7,0),(8,0),(9,0),(10,0),(11,2)] [0,1] [0] H (by kernel_rfl) (fun _ _ _ h=>False.elim h.2) fun w W0 hI H=>fn 3 E rfl fun a E=>cs hm (fun b hm=>?_) fun b hm=>?_
 ·refine fb E rfl (ws' (d:=11) E rfl rfl rfl rfl b) rfl rfl rfl rfl m0 rfl U32 rfl fun a E=>fk 1 E (kc 11 rfl b) rfl fun a E=>bd hm fun t j hm=>?_
  obtain ⟨q14,u,l,m⟩:=oO (P:=Tryz.prog) (k:=.i64) hI (oN (.head _)) U32 gL j
  refine bW E rfl (ws' (d:=11) E rfl rfl rfl rfl b) rfl rfl (fun w hW=>rI E rfl rfl rfl (l w)) fun a E=>?_
  have n:=uU m (fun _ _ _ h=>nV h)
  refine fk 1 E (kc 11 rfl b) rfl fun a E=>fa E rfl (ws' (d:=11) E rfl rfl rfl rfl b) rfl rfl rfl rfl n U9 rfl fun a E=>fb E rfl (ws' (d:=11) E rfl rfl rfl rfl b) rfl rfl rfl rfl mm1 rfl U9 rfl fun a E=>fk 2 E (kc 11 rfl b) rfl fun a E=>bQ rfl<|pr 1 E rfl fun a E=>nt<|bR<|?_
  clear hI
  refine aC<|wp_ret<|aY E rfl rfl<|?_
  cases hm
  exact ⟨rfl,H.reads (Y1 Y0)⟩
 ·refine fk 8 E (kc 11 rfl b) rfl fun a E=>bQ rfl<|pr 1 E rfl fun a E=>nt<|bR<|?_
  clear hI
  refine aC<|wp_ret<|aY E rfl rfl<|?_
  cases hm
  exact ⟨rfl,H.reads (Y1 Y0)⟩

def sL(d:List aH)(e:ByteArray)(b:ByteArray):Option Bool:=
  (xO b d e).bind fun c=>some (c)
def w4(x1:aE)(c:List aH)(d:ByteArray):Option Bool:=
  (qM x1.Path).bind fun b=>if (!b.2)=true then (sL c d (ByteArray.mk #[47])) else (sL c d b.1)
theorem Do{x1:aE}{e c d:Nat}{j:Value}{k:List aH}{f:ByteArray}(H:Sep w (Blk e 109 [.func (.func 145) #[] #[pt c 0,pt d 0]]::Blk c 32 [j]::Blk d 9 [.string f]::Fo) rs)(n:rSl aS j k ∈ rs){r:Bool}(hm:w4 x1 k f=some r) :
    Calls Tryz.prog 147 [.agg (iQ x1).toArray,pt e 0].toArray w (Ret fun v w'=>.bool r=v∧Sep w' (Blk e 109 [.func (.func 145) #[] #[pt c 0,pt d 0]]::Blk c 32 [j]::Blk d 9 [.string f]::Fo) (rs)):=by
 unfold w4 at hm
 refine ent Tryz.func147 rfl Tryz.ntmps147 rfl rfl fun a E=>sq<|bS E H (wn rfl) rfl rfl rfl rfl rfl fun q w a H E=>pr 1 E rfl fun a E=>nx<|pr 1 E rfl fun a E=>lb E H 0 rfl rfl rfl rfl rfl rfl rfl U9 rfl fun a E=>bd hm fun o l hm=>xk E rfl rfl rfl rfl rfl Dw (xJ H l) fun w H a E=>?_
 refine pr 5 E rfl fun a E=>nt<|aT (fun a w=>∃ g b,Env 17 a [(1,pt e 0),(4,.string g)]∧Sep w (Blk e 109 [.func (.func 145) #[] #[pt c 0,pt d 0]]::Blk c 32 [j]::Blk d 9 [.string f]::Fo) b∧(∀ r,r ∈ rs→r ∈ b)∧sL k f g=some r) ?_ ?_
 ·refine sq<|pr 2 E rfl fun a E=>nt<|wif E hm rfl (fun hm=>?_) fun hm=>?_
  ·exact wp_region_lit<|pr 1 E rfl fun a E=>nt<|have H:=H.drop 0;⟨_,_,E.to rfl,H,Y0,hm⟩
  ·exact wp_skip<|aC<|have H:=H.drop 0;⟨_,_,E.to rfl,H,Y0,hm⟩
 ·clear E H hm
  rintro a w ⟨g,b,E,H,i,hm⟩
  unfold sL at hm
  refine sq<|lb E H 0 rfl rfl rfl rfl rfl rfl rfl Ss rfl fun a E=>pr 1 E rfl fun a E=>have H:=H.frs [0,2,2] rfl;bd hm fun p m hm=>aU E (wn rfl) rfl rfl (bP E rfl rfl rfl (Nf _)) (M1 H (i _ n) m)<|?_
  rintro _ w ⟨rfl,H⟩ a E
  refine pr 1 E rfl fun a E=>nt<|wp_ret<|aY E rfl rfl<|have H:=H.frs [1,1,2] rfl;?_
  cases hm
  exact ⟨rfl,H.reads i⟩

def kU(rec_1:(List aE)→(List aE)→Int→Option ((List aE)×(List aE)))(b:Int)(c:(List aE))(d:(List aE)):Option ((List aE)×(List aE)):=
  rec_1 c d (IntKind.i64.wrap (b+1))
def fV(f:List aE)(g:List aH)(i:ByteArray):Nat→(List aE)→(List aE)→Int→Option ((List aE)×(List aE))
  | 0,_,_,_=>none
  | j+1,c,d,e=>
    if (decide (e < (f.length:Int)))=true then ((idx f e).bind fun b=>(w4 b g i).bind fun k=>if k=true then ((ck (c.length+([b]:List aE).length ≤ LIM)).bind fun l=>kU (fV f g i j) e (c ++ ([b]:List aE)) d) else ((ck (d.length+([b]:List aE).length ≤ LIM)).bind fun m=>kU (fV f g i j) e c (d ++ ([b]:List aE)))) else (some (c,d))
def qB(b:List aE)(c:List aH)(d:ByteArray):Option ((List aE)×(List aE)):=
  fV b c d (((b.length:Int) - 0:Int).toNat+1) [] [] 0
theorem C2{D q:Value}{k:List aE}{l f g:Nat}{F:List aH}{m:ByteArray}(H:Sep w (Blk l 109 [.func (.func 145) #[] #[pt f 0,pt g 0]]::Blk f 32 [q]::Blk g 9 [.string m]::Fo) rs)(G:rSl aF D k ∈ rs)(I:rSl aS q F ∈ rs){r:(List aE)×(List aE)}(hm:qB k F m=some r) :
    Calls Tryz.prog 146 [D,.func (.func 147) #[] #[pt l 0]].toArray w (Ret fun v w'=>∃ O P,.tuple #[O,P]=v∧Sep w' (Row 95 aF O r.1::Row 95 aF P r.2::Blk l 109 [.func (.func 145) #[] #[pt f 0,pt g 0]]::Blk f 32 [q]::Blk g 9 [.string m]::Fo) (rs)):=by
 unfold qB at hm
 refine ent Tryz.func146 rfl Tryz.ntmps146 rfl rfl fun a E=>sq<|pr 2 E rfl fun a E=>nx<|pr 2 E rfl fun a E=>nt<|wp_seq<|sq<|pr 1 E rfl fun a E=>?_
 refine sv E rfl rfl rfl (cR E H rfl rfl G U22) fun a E=>pr 1 E rfl fun a E=>nt<|wp_block<|bX (fun n a w=>∃ s t u y j o,Env 30 a [(1,.func (.func 147) #[] #[pt l 0]),(6,s),(7,t),(10,D),(11,.int .i64 (k.length:Int)),(12,.int .i64 j)]∧Sep w (Blk l 109 [.func (.func 145) #[] #[pt f 0,pt g 0]]::Row 95 aF s u::Row 95 aF t y::Blk f 32 [q]::Blk g 9 [.string m]::Fo) o∧(∀ r,r ∈ rs→r ∈ o)∧fV k F m n u y j=some r) (((k.length:Int) - 0:Int).toNat+1) ?_ ?_
 ·exact have H:=H.nilRow 95 aF;have H:=H.nilRow 95 aF;have H:=H.frs [4,4,2,3,4] rfl;X6 ⟨E.to rfl,H,Y0,hm⟩
 ·clear E H hm
  rintro n a w ⟨s,t,u,y,j,o,E,H,c,hm⟩
  cases n with
  | zero=>exact (bT hm rfl).elim
  | succ n=>
   unfold fV at hm
   refine sq<|pr 1 E rfl fun a E=>nt<|wp_seq<|wif E hm rfl (fun hm=>?_) fun hm=>?_
   ·refine wp_skip<|aC<|aT (fun a w=>∃ z A B C p,Env 30 a [(1,.func (.func 147) #[] #[pt l 0]),(6,z),(7,A),(10,D),(11,.int .i64 (k.length:Int)),(12,.int .i64 j)]∧Sep w (Blk l 109 [.func (.func 145) #[] #[pt f 0,pt g 0]]::Row 95 aF z B::Row 95 aF A C::Blk f 32 [q]::Blk g 9 [.string m]::Fo) p∧(∀ r,r ∈ rs→r ∈ p)∧kU (fV k F m n) j B C=some r) ?_ ?_
    ·refine wp_block<|sq<|bd hm fun b J hm=>dE E H (wn rfl) rfl rfl rfl rfl rfl (c _ G) U22 iR J fun q26 a H E=>ldf cK E H rfl rfl rfl rfl rfl m0 U95 rfl iR fun a E=>al E H rfl rfl rfl rfl Lu fun Q w a H E=>aZ (i:=0) E H (wn rfl) rfl rfl rfl rfl rfl rfl iR rfl rfl fun w H=>nx<|pr 1 E rfl fun a E=>?_
     refine sv E rfl rfl rfl (cA (i:=0) (us:=(iQ b)) E H rfl rfl rfl rfl U95 rfl iR) fun a E=>have H:=H.frs [3,3,2,5,5,5] rfl;bd hm fun R K hm=>aU E (wn rfl) rfl rfl (bP E rfl rfl rfl (Xr _)) (Do H (t1 (c _ I)) K)<|?_
     rintro _ w ⟨rfl,H⟩ a E
     refine nt<|wif E hm rfl (fun hm=>?_) fun hm=>?_
     ·refine wp_region_lit<|pr 1 E rfl fun a E=>sv E rfl rfl rfl (cA (i:=3) (us:=(iQ b)) E H rfl rfl rfl rfl U95 rfl iR) fun a E=>pI (e:=95) (d:=aF) (cs:=[.string b.Path,.string b.Data,.int .i64 b.Version,.int .i64 b.Turn,.int .i64 b.Owner]) (xs:=[b]) E H (wn rfl) rfl rfl rfl (E.evs rfl) (by kernel_rfl) rfl (fun ok hr=>(Rows.single (d:=aF) (cs:=[.string b.Path,.string b.Data,.int .i64 b.Version,.int .i64 b.Turn,.int .i64 b.Owner]) (x:=b) sZ)) fun S w a H E=>bk hm fun L hm=>dV (i:=4) E H (wn rfl) rfl rfl rfl rfl rfl rfl (jA m0) U22 Ec rfl L rfl fun T w a H E=>pr 1 E rfl fun a E=>wpList_nil<|bY<|?_
      exact aC<|have H:=H.drop 3;have H:=H.frs [2,2,4,4,4] rfl;X5 ⟨E.to rfl,H,(Y2 c),hm⟩
     ·refine wp_region_lit<|pr 1 E rfl fun a E=>sv E rfl rfl rfl (cA (i:=3) (us:=(iQ b)) E H rfl rfl rfl rfl U95 rfl iR) fun a E=>pI (e:=95) (d:=aF) (cs:=[.string b.Path,.string b.Data,.int .i64 b.Version,.int .i64 b.Turn,.int .i64 b.Owner]) (xs:=[b]) E H (wn rfl) rfl rfl rfl (E.evs rfl) (by kernel_rfl) rfl (fun ok hr=>(Rows.single (d:=aF) (cs:=[.string b.Path,.string b.Data,.int .i64 b.Version,.int .i64 b.Turn,.int .i64 b.Owner]) (x:=b) sZ)) fun U w a H E=>bk hm fun M hm=>dV (i:=5) E H (wn rfl) rfl rfl rfl rfl rfl rfl (jA m0) U22 Ec rfl M rfl fun V w a H E=>pr 1 E rfl fun a E=>wpList_nil<|bY<|?_
      exact aC<|have H:=H.drop 3;have H:=H.frs [2,2,4,4,4] rfl;X5 ⟨E.to rfl,H,(Y2 c),hm⟩
    ·clear E H hm
     rintro a w ⟨z,A,B,C,p,E,H,N,hm⟩
     unfold kU at hm
     exact wp_region_lit<|pr 2 E rfl fun a E=>nt<|⟨n,Nat.lt_succ_self n,X6 ⟨E.to rfl,H,N,hm⟩⟩
   ·refine wp_exit<|bH<|bH<|dG<|aC<|sq<|pr 4 E rfl fun a E=>nt<|wp_ret<|?_
    refine fX E rfl rfl rfl<|have H:=H.frs [4,4,2,4,4] rfl;?_
    cases hm
    exact ⟨_,_,rfl,H.reads c⟩

def w5(x1:aI)(c:List aH)(d:ByteArray):Option Bool:=
  (xO x1.Dir c d).bind fun b=>some (b)
theorem Dp{x1:aI}{d b c:Nat}{e:Value}{i:List aH}{f:ByteArray}(H:Sep w (Blk d 109 [.func (.func 145) #[] #[pt b 0,pt c 0]]::Blk b 32 [e]::Blk c 9 [.string f]::Fo) rs)(j:rSl aS e i ∈ rs){r:Bool}(hm:w5 x1 i f=some r) :
    Calls Tryz.prog 150 [.agg #[.string x1.Dir,.int .i64 x1.Next],pt d 0].toArray w (Ret fun v w'=>.bool r=v∧Sep w' (Blk d 109 [.func (.func 145) #[] #[pt b 0,pt c 0]]::Blk b 32 [e]::Blk c 9 [.string f]::Fo) (rs)):=by
 unfold w5 at hm
 refine ent Tryz.func150 rfl Tryz.ntmps150 rfl rfl fun a E=>sq<|bS E H (wn rfl) rfl rfl rfl rfl rfl fun l w a H E=>pr 1 E rfl fun a E=>nx<|lb E H 1 rfl rfl rfl rfl rfl rfl rfl Ss rfl fun a E=>pr 1 E rfl fun a E=>lb E H 0 rfl rfl rfl rfl rfl rfl rfl U9 rfl fun a E=>have H:=H.frs [1,1,3,3] rfl;?_
 refine bd hm fun k g hm=>aU E (wn rfl) rfl rfl (bP E rfl rfl rfl (Nf _)) (M1 H j g)<|?_
 rintro _ w ⟨rfl,H⟩ a E
 refine pr 1 E rfl fun a E=>nt<|wp_ret<|aY E rfl rfl<|have H:=H.drop 2;have H:=H.frs [1,1,2] rfl;?_
 cases hm
 exact ⟨rfl,H.reads Y0⟩

def kV(rec_1:(List aI)→(List aI)→Int→Option ((List aI)×(List aI)))(b:Int)(c:(List aI))(d:(List aI)):Option ((List aI)×(List aI)):=
  rec_1 c d (IntKind.i64.wrap (b+1))
def fW(f:List aI)(g:List aH)(i:ByteArray):Nat→(List aI)→(List aI)→Int→Option ((List aI)×(List aI))
  | 0,_,_,_=>none
  | j+1,c,d,e=>
    if (decide (e < (f.length:Int)))=true then ((idx f e).bind fun b=>(w5 b g i).bind fun k=>if k=true then ((ck (c.length+([b]:List aI).length ≤ LIM)).bind fun l=>kV (fW f g i j) e (c ++ ([b]:List aI)) d) else ((ck (d.length+([b]:List aI).length ≤ LIM)).bind fun m=>kV (fW f g i j) e c (d ++ ([b]:List aI)))) else (some (c,d))
def qC(b:List aI)(c:List aH)(d:ByteArray):Option ((List aI)×(List aI)):=
  fW b c d (((b.length:Int) - 0:Int).toNat+1) [] [] 0
theorem C3{D q:Value}{k:List aI}{l f g:Nat}{F:List aH}{m:ByteArray}(H:Sep w (Blk l 109 [.func (.func 145) #[] #[pt f 0,pt g 0]]::Blk f 32 [q]::Blk g 9 [.string m]::Fo) rs)(G:rSl aJ D k ∈ rs)(I:rSl aS q F ∈ rs){r:(List aI)×(List aI)}(hm:qC k F m=some r) :
    Calls Tryz.prog 149 [D,.func (.func 150) #[] #[pt l 0]].toArray w (Ret fun v w'=>∃ O P,.tuple #[O,P]=v∧Sep w' (Row 77 aJ O r.1::Row 77 aJ P r.2::Blk l 109 [.func (.func 145) #[] #[pt f 0,pt g 0]]::Blk f 32 [q]::Blk g 9 [.string m]::Fo) (rs)):=by
 unfold qC at hm
 refine ent Tryz.func149 rfl Tryz.ntmps149 rfl rfl fun a E=>sq<|pr 2 E rfl fun a E=>nx<|pr 2 E rfl fun a E=>nt<|wp_seq<|sq<|pr 1 E rfl fun a E=>?_
 refine sv E rfl rfl rfl (cR E H rfl rfl G U23) fun a E=>pr 1 E rfl fun a E=>nt<|wp_block<|bX (fun n a w=>∃ s t u y j o,Env 30 a [(1,.func (.func 150) #[] #[pt l 0]),(6,s),(7,t),(10,D),(11,.int .i64 (k.length:Int)),(12,.int .i64 j)]∧Sep w (Blk l 109 [.func (.func 145) #[] #[pt f 0,pt g 0]]::Row 77 aJ s u::Row 77 aJ t y::Blk f 32 [q]::Blk g 9 [.string m]::Fo) o∧(∀ r,r ∈ rs→r ∈ o)∧fW k F m n u y j=some r) (((k.length:Int) - 0:Int).toNat+1) ?_ ?_
 ·exact have H:=H.nilRow 77 aJ;have H:=H.nilRow 77 aJ;have H:=H.frs [4,4,2,3,4] rfl;X6 ⟨E.to rfl,H,Y0,hm⟩
 ·clear E H hm
  rintro n a w ⟨s,t,u,y,j,o,E,H,c,hm⟩
  cases n with
  | zero=>exact (bT hm rfl).elim
  | succ n=>
   unfold fW at hm
   refine sq<|pr 1 E rfl fun a E=>nt<|wp_seq<|wif E hm rfl (fun hm=>?_) fun hm=>?_
   ·refine wp_skip<|aC<|aT (fun a w=>∃ z A B C p,Env 30 a [(1,.func (.func 150) #[] #[pt l 0]),(6,z),(7,A),(10,D),(11,.int .i64 (k.length:Int)),(12,.int .i64 j)]∧Sep w (Blk l 109 [.func (.func 145) #[] #[pt f 0,pt g 0]]::Row 77 aJ z B::Row 77 aJ A C::Blk f 32 [q]::Blk g 9 [.string m]::Fo) p∧(∀ r,r ∈ rs→r ∈ p)∧kV (fW k F m n) j B C=some r) ?_ ?_
    ·refine wp_block<|sq<|bd hm fun b J hm=>dE E H (wn rfl) rfl rfl rfl rfl rfl (c _ G) U23 oK J fun q26 a H E=>ldf dI E H rfl rfl rfl rfl rfl m0 U77 rfl oK fun a E=>al E H rfl rfl rfl rfl Zt fun Q w a H E=>aZ (i:=0) E H (wn rfl) rfl rfl rfl rfl rfl rfl oK rfl rfl fun w H=>nx<|pr 1 E rfl fun a E=>?_
     refine sv E rfl rfl rfl (cA (i:=0) (us:=[.string b.Dir,.int .i64 b.Next]) E H rfl rfl rfl rfl U77 rfl oK) fun a E=>have H:=H.frs [3,3,2,5,5,5] rfl;bd hm fun R K hm=>aU E (wn rfl) rfl rfl (bP E rfl rfl rfl (Xt _)) (Dp H (t1 (c _ I)) K)<|?_
     rintro _ w ⟨rfl,H⟩ a E
     refine nt<|wif E hm rfl (fun hm=>?_) fun hm=>?_
     ·refine wp_region_lit<|pr 1 E rfl fun a E=>sv E rfl rfl rfl (cA (i:=3) (us:=[.string b.Dir,.int .i64 b.Next]) E H rfl rfl rfl rfl U77 rfl oK) fun a E=>pI (e:=77) (d:=aJ) (cs:=[.string b.Dir,.int .i64 b.Next]) (xs:=[b]) E H (wn rfl) rfl rfl rfl (E.evs rfl) (by kernel_rfl) rfl (fun ok hr=>(Rows.single (d:=aJ) (cs:=[.string b.Dir,.int .i64 b.Next]) (x:=b) qL)) fun S w a H E=>bk hm fun L hm=>dV (i:=4) E H (wn rfl) rfl rfl rfl rfl rfl rfl (jA m0) U23 Ed rfl L rfl fun T w a H E=>pr 1 E rfl fun a E=>wpList_nil<|bY<|?_
      exact aC<|have H:=H.drop 3;have H:=H.frs [2,2,4,4,4] rfl;X5 ⟨E.to rfl,H,(Y2 c),hm⟩
     ·refine wp_region_lit<|pr 1 E rfl fun a E=>sv E rfl rfl rfl (cA (i:=3) (us:=[.string b.Dir,.int .i64 b.Next]) E H rfl rfl rfl rfl U77 rfl oK) fun a E=>pI (e:=77) (d:=aJ) (cs:=[.string b.Dir,.int .i64 b.Next]) (xs:=[b]) E H (wn rfl) rfl rfl rfl (E.evs rfl) (by kernel_rfl) rfl (fun ok hr=>(Rows.single (d:=aJ) (cs:=[.string b.Dir,.int .i64 b.Next]) (x:=b) qL)) fun U w a H E=>bk hm fun M hm=>dV (i:=5) E H (wn rfl) rfl rfl rfl rfl rfl rfl (jA m0) U23 Ed rfl M rfl fun V w a H E=>pr 1 E rfl fun a E=>wpList_nil<|bY<|?_
      exact aC<|have H:=H.drop 3;have H:=H.frs [2,2,4,4,4] rfl;X5 ⟨E.to rfl,H,(Y2 c),hm⟩
    ·clear E H hm
     rintro a w ⟨z,A,B,C,p,E,H,N,hm⟩
     unfold kV at hm
     exact wp_region_lit<|pr 2 E rfl fun a E=>nt<|⟨n,Nat.lt_succ_self n,X6 ⟨E.to rfl,H,N,hm⟩⟩
   ·refine wp_exit<|bH<|bH<|dG<|aC<|sq<|pr 4 E rfl fun a E=>nt<|wp_ret<|?_
    refine fX E rfl rfl rfl<|have H:=H.frs [4,4,2,4,4] rfl;?_
    cases hm
    exact ⟨_,_,rfl,H.reads c⟩

def vW(x1:bB)(d:List aH)(e:ByteArray)(f:Bool):Option ((List aE)×(List aI)×(List aE)×(List aI)):=
  if f=true then (some ([],[],[],[])) else ((qB x1.Nodes d e).bind fun b=>(qC x1.Turns d e).bind fun c=>some (b.1,c.1,b.2,c.2))
def tL(x1:bB)(b:List aH)(c:ByteArray):Option ((List aE)×(List aI)×(List aE)×(List aI)):=
  (pM x1).bind fun d=>if (!d)=true then (vW x1 b c true) else ((oL b).bind fun e=>vW x1 b c (!e))
theorem jL{x1:bB}{l m L:Value}{n:List aH}{o:ByteArray}(H:Sep w (Fo) rs)(p:rSl aF l x1.Nodes ∈ rs)(q:rSl aJ m x1.Turns ∈ rs)(f:rSl aS L n ∈ rs){r:(List aE)×(List aI)×(List aE)×(List aI)}(hm:tL x1 n o=some r) :
    Calls Tryz.prog 78 [.agg #[l,m],L,.string o].toArray w (Ret fun v w'=>∃ M N O P,.tuple #[.agg #[M,N],.agg #[O,P]]=v∧Sep w' (Row 95 aF M r.1::Row 77 aJ N r.2.1::Row 95 aF O r.2.2.1::Row 77 aJ P r.2.2.2::Fo) (rs)):=by
 unfold tL at hm
 refine ent Tryz.func78 rfl Tryz.ntmps78 rfl rfl fun a E=>sq<|bS E H (wn rfl) rfl rfl rfl rfl rfl fun s w a H E=>?_
 obtain ⟨q12,Q,rfl⟩:=H.slform f
 refine bS E H (wn rfl) rfl rfl rfl rfl rfl fun t w a H E=>bS E H (wn rfl) rfl rfl rfl rfl rfl fun u w a H E=>al E H rfl rfl rfl rfl jN fun x w a H E=>al E H rfl rfl rfl rfl jN fun y w a H E=>nx<|al E H rfl rfl rfl rfl jN fun z w a H E=>al E H rfl rfl rfl rfl jN fun A w a H E=>nt<|wp_seq<|aT (fun a w=>∃ k e,Env 42 a [(3,pt s 0),(4,pt t 0),(5,pt u 0),(6,pt x 0),(7,pt y 0),(8,pt z 0),(9,pt A 0),(18,.bool k)]∧Sep w (Blk s 25 [l,m]::Blk t 32 [(.slice q12 n.length Q)]::Blk u 9 [.string o]::Blk x 25 [.slice none 0 0,.slice none 0 0]::Blk y 25 [.slice none 0 0,.slice none 0 0]::Blk z 25 [.slice none 0 0,.slice none 0 0]::Blk A 25 [.slice none 0 0,.slice none 0 0]::Fo) e∧(∀ r,r ∈ rs→r ∈ e)∧vW x1 n o k=some r) ?_ ?_
 ·refine wp_region_lit<|sv E rfl rfl rfl (cA (i:=6) (us:=[l,m]) E H rfl rfl rfl rfl U25 rfl dA) fun a E=>bd hm fun R G hm=>xk E rfl rfl rfl rfl rfl Hw (yX H p q G) fun w H a E=>pr 2 E rfl fun a E=>cs hm (fun c hm=>?_) fun c hm=>?_
  ·exact pk 4 E (kc 14 rfl c) rfl fun a E=>nt<|have H:=H.frs [0,1,2,3,4,5,6] rfl;⟨_,_,E.to rfl,H,Y0,hm⟩
  ·refine aQ E (ws' (d:=14) E rfl rfl rfl rfl c) rfl rfl (cD (i:=5) E H rfl rfl rfl rfl U32 rfl) fun a E=>bd hm fun S I hm=>aU E (ws' (d:=14) E rfl rfl rfl rfl c) rfl rfl (cC E rfl rfl (Fk _)) (tB H f I)<|?_
   rintro _ w ⟨rfl,H⟩ a E
   exact pk 2 E (kc 14 rfl c) rfl fun a E=>nt<|have H:=H.frs [0,1,2,3,4,5,6] rfl;⟨_,_,E.to rfl,H,Y0,hm⟩
 ·clear E H hm
  rintro a w ⟨k,e,E,H,b,hm⟩
  unfold vW at hm
  refine wif E hm rfl (fun hm=>?_) fun hm=>?_
  ·refine wp_seq<|dw [(0,0),(1,0),(2,1),(3,2)] [5,6] [] H (by kernel_rfl) (fun _ _ _ h=>False.elim h.2) fun w W0 hI H=>fbn E [.slice none 0 0,.slice none 0 0] rfl (wn rfl) rfl rfl rfl rfl m0 rfl U25 rfl dA fun a E=>fbn E [.slice none 0 0,.slice none 0 0] rfl (wn rfl) rfl rfl rfl rfl mm1 rfl U25 rfl dA fun a E=>bZ rfl<|aZ (i:=3) E H (wn rfl) rfl rfl rfl rfl rfl rfl dA rfl rfl fun w H=>nt<|?_
   refine ⟨⟨_,_,H,(aB mm5 (aB mm6 (aL))),(aM)⟩,?_⟩
   refine bQ rfl<|aZ (i:=4) E H (wn rfl) rfl rfl rfl rfl rfl rfl dA rfl rfl fun w H=>nt<|bR<|?_
   clear hI
   refine aC<|wp_ret<|aP<|rJ E rfl (cV (i:=3) (us:=[.slice none 0 0,.slice none 0 0]) H rfl rfl rfl U25 rfl dA) (cV (i:=4) (us:=[.slice none 0 0,.slice none 0 0]) H rfl rfl rfl U25 rfl dA)<|have H:=H.nilRow 95 aF;have H:=H.nilRow 77 aJ;have H:=H.nilRow 95 aF;have H:=H.nilRow 77 aJ;have H:=H.drs [4,4,4,4,4,4,4];?_
   refine have H:=H.frs [0,1,2,3] rfl;?_
   cases hm
   exact X4 ⟨rfl,H.reads b⟩
  ·refine wp_skip<|aC<|sq<|sv E rfl rfl rfl (iP E rfl rfl rfl) fun a E=>al1 E H rfl rfl rfl rfl Xo rfl fun T w a H E=>aZ (i:=0) E H (wn rfl) rfl rfl rfl rfl rfl rfl Xp rfl rfl fun w H=>nx<|pr 1 E rfl fun a E=>lb E H 1 rfl rfl rfl rfl rfl rfl rfl U22 rfl fun a E=>?_
   refine sv E rfl rfl rfl (iP E rfl rfl rfl) fun a E=>have H:=H.frs [7,7,7,7,5,7,7,7] rfl;bd hm fun g J hm=>cG E rfl rfl rfl rfl rfl Xq (C2 H (b _ p) (b _ f) J)<|?_
   rintro _ w ⟨U,V,rfl,H⟩ a E
   refine pr 4 E rfl fun a E=>?_
   obtain ⟨q27,B,rfl⟩:=H.rowform (i:=0) rfl
   refine aZ (i:=8) E H (wn rfl) rfl rfl rfl rfl rfl rfl Cj rfl rfl fun w H=>pr 1 E rfl fun a E=>?_
   obtain ⟨q29,C,rfl⟩:=H.rowform (i:=1) rfl
   refine aZ (i:=9) E H (wn rfl) rfl rfl rfl rfl rfl rfl Cj rfl rfl fun w H=>nx<|pr 1 E rfl fun a E=>lb E H 5 rfl rfl rfl rfl rfl rfl rfl U23 rfl fun a E=>sv E rfl rfl rfl (iP E rfl rfl rfl) fun a E=>have H:=H.frs [9,9,9,9,9,6,6,9,9,9] rfl;bd hm fun j K hm=>cG E rfl rfl rfl rfl rfl Xs (C3 H (b _ q) (b _ f) K)<|?_
   rintro _ w ⟨W,X,rfl,H⟩ a E
   refine pr 4 E rfl fun a E=>?_
   obtain ⟨q35,D,rfl⟩:=H.rowform (i:=0) rfl
   refine aZ (i:=10) E H (wn rfl) rfl rfl rfl rfl rfl rfl K1 rfl rfl fun w H=>pr 1 E rfl fun a E=>?_
   obtain ⟨q37,F,rfl⟩:=H.rowform (i:=1) rfl
   refine aZ (i:=11) E H (wn rfl) rfl rfl rfl rfl rfl rfl K1 rfl rfl fun w H=>nt<|wp_seq<|dw [(0,0),(1,0),(2,1),(3,2)] [10,11] [] H (by kernel_rfl) (fun _ _ _ h=>False.elim h.2) fun w W0 hI H=>fbn E [(.slice q27 g.1.length B),(.slice q35 j.1.length D)] rfl (wn rfl) rfl rfl rfl rfl m0 rfl U25 rfl dA fun a E=>fbn E [(.slice q29 g.2.length C),(.slice q37 j.2.length F)] rfl (wn rfl) rfl rfl rfl rfl mm1 rfl U25 rfl dA fun a E=>bZ rfl<|aZ (i:=8) E H (wn rfl) rfl rfl rfl rfl rfl rfl dA rfl rfl fun w H=>nt<|?_
   refine ⟨⟨_,_,H,(aB (t4 mm6) (aB (t5 mm6) (aL))),(aM)⟩,?_⟩
   refine bQ rfl<|aZ (i:=9) E H (wn rfl) rfl rfl rfl rfl rfl rfl dA rfl rfl fun w H=>nt<|bR<|?_
   clear hI
   refine aC<|wp_ret<|rJ E rfl (cV (i:=8) (us:=[(.slice q27 g.1.length B),(.slice q35 j.1.length D)]) H rfl rfl rfl U25 rfl dA) (cV (i:=9) (us:=[(.slice q29 g.2.length C),(.slice q37 j.2.length F)]) H rfl rfl rfl U25 rfl dA)<|have H:=H.drs [2,2,2,4,4,4,4,4];have H:=H.frs [1,3,2,3] rfl;?_
   cases hm
   exact X4 ⟨rfl,H.reads b⟩

def lB(b:ByteArray)(c:ByteArray):Option Int:=
  some (Extern.BytealgCompare.cmp b c)
theorem yA{b c:ByteArray}(H:Sep w (Fo) rs){r:Int}(hm:lB b c=some r) :
    Calls Tryz.prog 158 [.string b,.string c].toArray w (Ret fun v w'=>.int .i64 r=v∧Sep w' (Fo) (rs)):=by
 unfold lB at hm
 refine ent Tryz.func158 rfl Tryz.ntmps158 rfl rfl fun a E=>sq<|pr 1 E rfl fun a E=>nx<|pr 2 E rfl fun a E=>sv E rfl rfl rfl (R4 E rfl rfl (Kf _ _ _)) fun a E=>pr 1 E rfl fun a E=>nt<|wp_ret<|?_
 refine aY E rfl rfl<|?_
 cases hm
 exact ⟨rfl,H.reads Y0⟩

def jZ(b:ByteArray)(c:ByteArray):Option Int:=
  (lB b c).bind fun d=>some (d)
theorem oP{b c:ByteArray}(H:Sep w (Fo) rs){r:Int}(hm:jZ b c=some r) :
    Calls Tryz.prog 84 [.string b,.string c].toArray w (Ret fun v w'=>.int .i64 r=v∧Sep w' (Fo) (rs)):=by
 unfold jZ at hm
 refine ent Tryz.func84 rfl Tryz.ntmps84 rfl rfl fun a E=>sq<|pr 1 E rfl fun a E=>nx<|pr 2 E rfl fun a E=>bd hm fun e d hm=>xk E rfl rfl rfl rfl rfl Wr (yA H d) fun w H a E=>pr 1 E rfl fun a E=>nt<|?_
 refine wp_ret<|aY E rfl rfl<|?_
 cases hm
 exact ⟨rfl,H.reads Y0⟩

def vX(x1:aH)(b:ByteArray):Option Int:=
  (jZ x1.Prefix b).bind fun c=>some (c)
theorem I2{x1:aH}{b:ByteArray}(H:Sep w (Fo) rs){r:Int}(hm:vX x1 b=some r) :
    Calls Tryz.prog 204 [.agg (kN x1).toArray,.string b].toArray w (Ret fun v w'=>.int .i64 r=v∧Sep w' (Fo) (rs)):=by
 unfold vX at hm
 refine ent Tryz.func204 rfl Tryz.ntmps204 rfl rfl fun a E=>sq<|bS E H (wn rfl) rfl rfl rfl rfl rfl fun d w a H E=>pr 1 E rfl fun a E=>nx<|pr 1 E rfl fun a E=>lb E H 0 rfl rfl rfl rfl rfl rfl rfl U9 rfl fun a E=>pr 1 E rfl fun a E=>bd hm fun e c hm=>?_
 refine xk E rfl rfl rfl rfl rfl Fu (oP H c) fun w H a E=>pr 1 E rfl fun a E=>nt<|wp_ret<|aY E rfl rfl<|have H:=H.drop 0;?_
 cases hm
 exact ⟨rfl,H.reads Y0⟩

def cZ(c:List aH)(e:ByteArray):Nat→Int→Int→Option (Int×Bool)
  | 0,_,_=>none
  | f+1,b,d=>
    if (decide (b < d))=true then ((idx c (IntKind.i64.wrap (pH .u64 (IntKind.u64.wrap (IntKind.i64.wrap (b+d))) 1))).bind fun k=>(vX k e).bind fun g=>if (decide (g < 0))=true then (cZ c e f (IntKind.i64.wrap ((IntKind.i64.wrap (pH .u64 (IntKind.u64.wrap (IntKind.i64.wrap (b+d))) 1))+1)) d) else (cZ c e f b (IntKind.i64.wrap (pH .u64 (IntKind.u64.wrap (IntKind.i64.wrap (b+d))) 1)))) else (if (decide (b < (c.length:Int)))=true then ((idx c b).bind fun i=>(vX i e).bind fun j=>some (b,j == 0)) else (some (b,false)))
def eM(b:List aH)(c:ByteArray):Option (Int×Bool):=
  cZ b c (((b.length:Int) - 0:Int).toNat+1) 0 (b.length:Int)
theorem oM{k:Value}{f:List aH}{j:ByteArray}(H:Sep w (Fo) rs)(g:rSl aS k f ∈ rs){r:Int×Bool}(hm:eM f j=some r) :
    Calls Tryz.prog 152 [k,.string j,.func (.func 204) #[] #[]].toArray w (Ret fun v w'=>.tuple #[.int .i64 r.1,.bool r.2]=v∧Sep w' (Fo) (rs)):=by
 unfold eM at hm
 refine ent Tryz.func152 rfl Tryz.ntmps152 rfl rfl fun a E=>sq<|pr 2 E rfl fun a E=>nx<|pr 1 E rfl fun a E=>sv E rfl rfl rfl (cR E H rfl rfl g U32) fun a E=>pr 1 E rfl fun a E=>nx<|pr 3 E rfl fun a E=>?_
 refine nt<|wp_seq<|wp_block<|bX (fun e a w=>∃ l m i,Env 49 a [(0,k),(1,.string j),(2,.func (.func 204) #[] #[]),(8,.int .i64 (f.length:Int)),(9,.int .i64 l),(10,.int .i64 m)]∧Sep w (Fo) i∧(∀ r,r ∈ rs→r ∈ i)∧cZ f j e l m=some r) (((f.length:Int) - 0:Int).toNat+1) ?_ ?_
 ·exact X3 ⟨E.to rfl,H,Y0,hm⟩
 ·clear E H hm
  rintro e a w ⟨l,m,i,E,H,c,hm⟩
  cases e with
  | zero=>exact (bT hm rfl).elim
  | succ e=>
   unfold cZ at hm
   refine wp_seq<|sq<|pr 3 E rfl fun a E=>nt<|wif E hm rfl (fun hm=>?_) fun hm=>?_
   ·refine wp_skip<|aC<|wp_block<|sq<|pr 4 E rfl fun a E=>sv E rfl rfl rfl (J4 E rfl rfl rfl (by decide)) fun a E=>pr 2 E rfl fun a E=>nx<|pr 3 E rfl fun a E=>?_
    refine bd hm fun y n hm=>dE E H (wn rfl) rfl rfl rfl rfl rfl (c _ g) U32 gL n fun q11 a H E=>ldf gZ E H rfl rfl rfl rfl rfl m0 U31 rfl gL fun a E=>pr 1 E rfl fun a E=>bd hm fun s o hm=>aU E (wn rfl) rfl rfl (bP E rfl rfl rfl (Nc _)) (I2 H o)<|?_
    rintro _ w ⟨rfl,H⟩ a E
    refine pr 1 E rfl fun a E=>nt<|wif E hm rfl (fun hm=>?_) fun hm=>?_
    ·exact wp_region_lit<|pr 3 E rfl fun a E=>wpList_nil<|bY<|aC<|⟨e,Nat.lt_succ_self e,X3 ⟨E.to rfl,H,(Y1 c),hm⟩⟩
    ·exact wp_region_lit<|pr 2 E rfl fun a E=>wpList_nil<|bY<|aC<|⟨e,Nat.lt_succ_self e,X3 ⟨E.to rfl,H,(Y1 c),hm⟩⟩
   ·refine wp_exit<|bH<|bH<|dG<|aC<|sq<|pr 5 E rfl fun a E=>cs hm (fun b hm=>?_) fun b hm=>?_
    ·refine pk 3 E (kc 39 rfl b) rfl fun a E=>bd hm fun t p hm=>dE E H (ws' (d:=39) E rfl rfl rfl rfl b) rfl rfl rfl rfl rfl (c _ g) U32 gL p fun q17 a H E=>N5 E H (ws' (d:=39) E rfl rfl rfl rfl b) rfl rfl rfl rfl m0 U31 rfl gL fun u a H E=>?_
     obtain ⟨_,hcs⟩:=H.rd (.head _)
     obtain rfl:=A3 hcs
     clear hcs
     refine pk 1 E (kc 39 rfl b) rfl fun a E=>bd hm fun x q hm=>aU E (ws' (d:=39) E rfl rfl rfl rfl b) rfl rfl (bP E rfl rfl rfl (Nc _)) (I2 H q)<|?_
     rintro _ w ⟨rfl,H⟩ a E
     refine pk 4 E (kc 39 rfl b) rfl fun a E=>nt<|wp_ret<|fX E rfl rfl rfl<|?_
     cases hm
     exact ⟨rfl,H.reads (Y2 c)⟩
    ·refine pk 11 E (kc 39 rfl b) rfl fun a E=>nt<|wp_ret<|fX E rfl rfl rfl<|?_
     cases hm
     exact ⟨rfl,H.reads c⟩

def uY(c:List aH)(d:ByteArray):Option (Int×Bool):=
  (eM c d).bind fun b=>some (b.1,b.2)
theorem A7{b:Value}{c:List aH}{d:ByteArray}(H:Sep w (Fo) rs)(e:rSl aS b c ∈ rs){r:Int×Bool}(hm:uY c d=some r) :
    Calls Tryz.prog 151 [b,.string d].toArray w (Ret fun v w'=>.tuple #[.int .i64 r.1,.bool r.2]=v∧Sep w' (Fo) (rs)):=by
 unfold uY at hm
 refine ent Tryz.func151 rfl Tryz.ntmps151 rfl rfl fun a E=>sq<|pr 2 E rfl fun a E=>nx<|pr 2 E rfl fun a E=>bd hm fun g f hm=>xk E rfl rfl rfl rfl rfl Nb (oM H e f) fun w H a E=>pr 4 E rfl fun a E=>nt<|?_
 refine wp_ret<|fX E rfl rfl rfl<|?_
 cases hm
 exact ⟨rfl,H.reads Y0⟩

def vY(c:Int×Bool)(x3:aH)(b:(List aH)):Option ((List aH)×Bool):=
  (idx b c.1).bind fun d=>some (b.set c.1.toNat x3,true)
def vZ(b:Int×Bool)(x3:aH)(c:List aH)(d:Bool):Option ((List aH)×Bool):=
  if d=true then (some ([],false)) else ((ck (c.length ≤ LIM)).bind fun e=>if (!b.2)=true then ((ck (0 ≤ b.1∧b.1 ≤ c.length∧c.length ≤ 1000000)).bind fun f=>vY b x3 (c.take b.1.toNat ++ x3::c.drop b.1.toNat)) else (vY b x3 c))
def xE(b:List aH)(x3:aH):Option ((List aH)×Bool):=
  (uY b x3.Prefix).bind fun c=>if (!c.2)=true then (vZ c x3 b ((b.length:Int) == 32)) else (vZ c x3 b false)
theorem F4{q:Value}{s:List aH}{x3:aH}(H:Sep w (Fo) rs)(j:rSl aS q s ∈ rs){r:(List aH)×Bool}(hm:xE s x3=some r) :
    Calls Tryz.prog 143 [q,.agg (kN x3).toArray].toArray w (Ret fun v w'=>∃ A,.tuple #[A,.bool r.2]=v∧Sep w' (Row 31 aS A r.1::Fo) (rs)):=by
 unfold xE at hm
 refine ent Tryz.func143 rfl Tryz.ntmps143 rfl rfl fun a E=>sq<|bS E H (wn rfl) rfl rfl rfl rfl rfl fun p w a H E=>pr 2 E rfl fun a E=>nx<|pr 2 E rfl fun a E=>lb E H 0 rfl rfl rfl rfl rfl rfl rfl U9 rfl fun a E=>bd hm fun k B hm=>xk E rfl rfl rfl rfl rfl Ja (A7 H j B) fun w H a E=>?_
 refine pr 5 E rfl fun a E=>nt<|wp_seq<|aT (fun a w=>∃ t l,Env 36 a [(0,q),(3,pt p 0),(6,.int .i64 k.1),(7,.bool k.2),(21,.bool t)]∧Sep w (Blk p 31 (kN x3)::Fo) l∧(∀ r,r ∈ rs→r ∈ l)∧vZ k x3 s t=some r) ?_ ?_
 ·refine wp_region_lit<|pr 3 E rfl fun a E=>cs hm (fun b hm=>?_) fun b hm=>?_
  ·exact pk 1 E (kc 17 rfl b) rfl fun a E=>aQ E (ws' (d:=17) E rfl rfl rfl rfl b) rfl rfl (cR E H rfl rfl j U32) fun a E=>pk 2 E (kc 17 rfl b) rfl fun a E=>nt<|⟨_,_,E.to rfl,H,Y0,hm⟩
  ·exact pk 4 E (kc 17 rfl b) rfl fun a E=>nt<|⟨_,_,E.to rfl,H,Y0,hm⟩
 ·clear E H hm
  rintro a w ⟨t,l,E,H,c,hm⟩
  unfold vZ at hm
  refine wif E hm rfl (fun hm=>?_) fun hm=>?_
  ·refine sq<|pr 2 E rfl fun a E=>nt<|wp_ret<|aP<|fX E rfl rfl rfl<|have H:=H.nilRow 31 aS;have H:=H.drop 1;?_
   cases hm
   exact ⟨_,rfl,H.reads c⟩
  ·refine wp_skip<|aC<|sq<|pr 1 E rfl fun a E=>bk hm fun u hm=>aU E (wn rfl) rfl rfl (cC E rfl rfl (Sr _)) (mC H (c _ j) u) fun C w H a E=>pr 1 E rfl fun a E=>nt<|aT (fun a w=>∃ m n f,Env 36 a [(0,m),(3,pt p 0),(6,.int .i64 k.1)]∧Sep w (Row 31 aS m n::Blk p 31 (kN x3)::Fo) f∧(∀ r,r ∈ rs→r ∈ f)∧vY k x3 n=some r) ?_ ?_
   ·refine sq<|pr 2 E rfl fun a E=>nt<|wif E hm rfl (fun hm=>?_) fun hm=>?_
    ·exact wp_region_lit<|pr 2 E rfl fun a E=>sv E rfl rfl rfl (cA (i:=1) (us:=(kN x3)) E H rfl rfl rfl rfl U31 rfl gL) fun a E=>fY (e:=31) (d:=aS) (cs:=[.string x3.Prefix,.int .i64 x3.Epoch,.int .i64 x3.State]) (xs:=[x3]) E H (wn rfl) rfl rfl rfl (E.evs rfl) (by kernel_rfl) rfl rfl (fun ok hr=>(Rows.single (d:=aS) (cs:=[.string x3.Prefix,.int .i64 x3.Epoch,.int .i64 x3.State]) (x:=x3) rR)) fun D w a H E=>bk hm fun y hm=>aU E (wn rfl) rfl rfl (cC E rfl rfl (Nd _)) (Ra.insert_a (ix:=1) (iu:=0) H rfl rfl (by decide) y) fun F w H a E=>pr 1 E rfl fun a E=>nt<|have H:=H.drop 0;X3 ⟨E.to rfl,H,c,hm⟩
    ·exact wp_skip<|aC<|X3 ⟨E.to rfl,H,c,hm⟩
   ·clear E H hm
    rintro a w ⟨m,n,f,E,H,z,hm⟩
    unfold vY at hm
    refine sq<|pr 2 E rfl fun a E=>sv E rfl rfl rfl (cA (i:=1) (us:=(kN x3)) E H rfl rfl rfl rfl U31 rfl gL) fun a E=>bd hm fun G g hm=>?_
    obtain ⟨I,J,o⟩:=H.rowformNE (i:=0) rfl g
    refine sv E rfl rfl rfl (cY (d:=aS) E o rfl rfl rfl rfl U32 gL g) fun a E=>yO (d:=aS) (i:=0) (us:=[.string x3.Prefix,.int .i64 x3.Epoch,.int .i64 x3.State]) (z':=x3) E H gZ (wn rfl) rfl o rfl rfl rfl rfl rfl rfl rfl g gL fun w H=>nx<|pr 3 E rfl fun a E=>nt<|wp_ret<|fX E rfl rfl rfl<|have H:=H.drop 1;?_
    cases hm
    exact ⟨_,rfl,H.reads z⟩

def qR(d:List aH)(e:ByteArray)(f:Int)(c:Bool):Option ((List aH)×Bool):=
  if c=true then (some ([],false)) else ((xE d (⟨e,f,3⟩:aH)).bind fun b=>some (b.1,b.2))
def A8(b:List aH)(c:ByteArray)(d:Int):Option ((List aH)×Bool):=
  (oL b).bind fun i=>if (!i)=true then (some ([],false)) else ((uY b c).bind fun e=>if (!e.2)=true then (qR b c d true) else ((idx b e.1).bind fun f=>if (f.State != 2)=true then (qR b c d true) else ((idx b e.1).bind fun g=>qR b c d (g.Epoch != d))))
theorem Fy{l:Value}{m:List aH}{i:ByteArray}{j:Int}(H:Sep w (Fo) rs)(e:rSl aS l m ∈ rs){r:(List aH)×Bool}(hm:A8 m i j=some r) :
    Calls Tryz.prog 87 [l,.string i,.int .i64 j].toArray w (Ret fun v w'=>∃ q,.tuple #[q,.bool r.2]=v∧Sep w' (Row 31 aS q r.1::Fo) (rs)):=by
 unfold A8 at hm
 refine ent Tryz.func87 rfl Tryz.ntmps87 rfl rfl fun a E=>sq<|pr 2 E rfl fun a E=>nt<|wp_seq<|sq<|pr 1 E rfl fun a E=>bd hm fun A s hm=>xk E rfl rfl rfl rfl rfl Fk (tB H e s) fun w H a E=>?_
 refine pr 1 E rfl fun a E=>nt<|wif E hm rfl (fun hm=>?_) fun hm=>?_
 ·refine sq<|pr 2 E rfl fun a E=>nt<|wp_ret<|aP<|fX E rfl rfl rfl<|have H:=H.nilRow 31 aS;?_
  cases hm
  exact ⟨_,rfl,H.reads Y0⟩
 ·refine wp_skip<|aC<|sq<|pr 2 E rfl fun a E=>bd hm fun B t hm=>xk E rfl rfl rfl rfl rfl Ja (A7 H e t) fun w H a E=>pr 5 E rfl fun a E=>nt<|wp_seq<|aT (fun a w=>∃ k f,Env 45 a [(0,l),(1,.string i),(2,.int .i64 j),(37,.bool k)]∧Sep w (Fo) f∧(∀ r,r ∈ rs→r ∈ f)∧qR m i j k=some r) ?_ ?_
  ·refine wp_region_lit<|pr 3 E rfl fun a E=>cs hm (fun b hm=>?_) fun b hm=>?_
   ·exact pk 16 E (kc 21 rfl b) rfl fun a E=>nt<|⟨_,_,E.to rfl,H,Y0,hm⟩
   ·refine pk 2 E (kc 21 rfl b) rfl fun a E=>bd hm fun u n hm=>dE E H (ws' (d:=21) E rfl rfl rfl rfl b) rfl rfl rfl rfl rfl e U32 gL n fun q19 a H E=>have H:=H.derive1 m0 (rAt (kI .i64) (q19.add 2) u.State) (fun ok h=>yT h);pk 1 E (kc 21 rfl b) rfl fun a E=>aQ E (ws' (d:=21) E rfl rfl rfl rfl b) rfl rfl (nT E H rfl rfl m0 U3 rfl) fun a E=>pk 3 E (kc 21 rfl b) rfl fun a E=>cs hm (fun c hm=>?_) fun c hm=>?_
    ·exact pk 8 E (kc 29 rfl c) rfl fun a E=>nt<|⟨_,_,E.to rfl,H,(Y2 Y0),hm⟩
    ·exact pk 2 E (kc 29 rfl c) rfl fun a E=>bd hm fun x o hm=>dE E H (ws' (d:=29) E rfl rfl rfl rfl c) rfl rfl rfl rfl rfl (t2 e) U32 gL o fun q23 a H E=>have H:=H.derive1 m0 (rAt (kI .i64) (q23.add 1) x.Epoch) (fun ok h=>yS h);pk 1 E (kc 29 rfl c) rfl fun a E=>aQ E (ws' (d:=29) E rfl rfl rfl rfl c) rfl rfl (nT E H rfl rfl m0 U2 rfl) fun a E=>pk 3 E (kc 29 rfl c) rfl fun a E=>nt<|⟨_,_,E.to rfl,H,(Y4 Y0),hm⟩
  ·clear E H hm
   rintro a w ⟨k,f,E,H,g,hm⟩
   unfold qR at hm
   refine wif E hm rfl (fun hm=>?_) fun hm=>?_
   ·refine sq<|pr 2 E rfl fun a E=>nt<|wp_ret<|aP<|fX E rfl rfl rfl<|have H:=H.nilRow 31 aS;?_
    cases hm
    exact ⟨_,rfl,H.reads g⟩
   ·refine wp_skip<|aC<|sq<|pr 3 E rfl fun a E=>sv E rfl rfl rfl (cI E rfl (E.evs rfl) (v:=.agg #[.string i,.int .i64 j,.int .i64 3]) (by kernel_rfl)) fun a E=>bd hm fun y p hm=>cG E rfl rfl rfl rfl rfl Jb (F4 (x3:=(⟨i,j,3⟩:aH)) H (g _ e) p)<|?_
    rintro _ w ⟨z,rfl,H⟩ a E
    refine pr 4 E rfl fun a E=>nt<|wp_ret<|fX E rfl rfl rfl<|?_
    cases hm
    exact ⟨_,rfl,H.reads g⟩

def nX(b:(List aE))(c:(List aI))(d:(List aH)):Option ((List aE)×(List aI)×(List aH)):=
  some (b,c,d)
def uZ(e:List aE)(f:List aI)(d:List aH)(x20:bA):Option ((List aE)×(List aI)×(List aH)):=
  (A8 d x20.Prefix x20.Epoch).bind fun b=>if b.2=true then ((tL (⟨e,f⟩:bB) d x20.Prefix).bind fun c=>nX c.2.2.1 c.2.2.2 b.1) else (nX e f d)
theorem P3{u:Nat}{y z K L M N O d e f g j k:Value}{A:List aE}{B:List aI}{P:List aH}{x20:bA}(H:Sep w (Blk u 75 [y,z,K,d,e,f,g,j,k]::Fo) rs)(l:rSl aF y A ∈ rs)(m:rSl aJ z B ∈ rs)(c:rSl aS K P ∈ rs){r:(List aE)×(List aI)×(List aH)}(hm:uZ A B P x20=some r) :
    Calls Tryz.prog 31 [pt u 0,.agg (aR x20 L M N O).toArray].toArray w (Ret fun v w'=>∃ Q R S,.agg bN.toArray=v∧Sep w' (Blk u 75 [Q,R,S,d,e,f,g,j,k]::Fo) (rSl aF Q r.1::rSl aJ R r.2.1::rSl aS S r.2.2::rs)):=by
 unfold uZ at hm
 refine ent Tryz.func31 rfl Tryz.ntmps31 rfl rfl fun a E=>sq<|bS E H (wn rfl) rfl rfl rfl rfl rfl fun T w a H E=>al E H rfl rfl rfl rfl gN fun x w a H E=>nt<|aT (fun a w=>∃ n o p q s t b,Env 42 a [(4,pt x 0)]∧Sep w (Blk x 48 bN::Blk u 75 [n,o,p,d,e,f,g,j,k]::Fo) b∧(∀ r,r ∈ rs→r ∈ b)∧rSl aF n q ∈ b∧rSl aJ o s ∈ b∧rSl aS p t ∈ b∧nX q s t=some r) ?_ ?_
 ·refine wp_seq<|dw [(0,0),(1,0),(2,0),(3,0),(4,0),(5,0),(6,0),(7,0),(8,1),(9,0),(10,0),(11,0),(12,1),(13,2)] [1,2] [] H (by kernel_rfl) (fun _ _ _ h=>False.elim h.2) fun w W0 hI H=>fn 3 E rfl fun a E=>fb E rfl (wn rfl) rfl rfl rfl rfl mm1 rfl U32 rfl fun a E=>fn 1 E rfl fun a E=>fb E rfl (wn rfl) rfl rfl rfl rfl m0 rfl U9 rfl fun a E=>fn 1 E rfl fun a E=>fb E rfl (wn rfl) rfl rfl rfl rfl m0 rfl U2 rfl fun a E=>bZ rfl<|?_
  refine bd hm fun U C hm=>cG E rfl rfl rfl rfl rfl Zs (Fy H c C)<|?_
  rintro _ w ⟨V,rfl,H⟩ a E
  refine nt<|?_
  refine ⟨⟨_,_,H,(aB mm2 (aB mm3 (aL))),(aM)⟩,?_⟩
  refine fn 3 E rfl fun a E=>bZ rfl<|pr 1 E rfl fun a E=>nt<|?_
  refine ⟨⟨_,_,H,(aB mm2 (aB mm3 (aL))),(aM)⟩,?_⟩
  refine bQ rfl<|pr 1 E rfl fun a E=>nt<|bR<|?_
  clear hI
  refine aC<|sq<|pr 1 E rfl fun a E=>nt<|wif E hm rfl (fun hm=>?_) fun hm=>?_
  ·refine wp_seq<|dw [(0,0),(1,0),(2,0),(3,0),(4,0),(5,0),(6,0),(7,0),(8,0),(9,0),(10,0),(11,1),(12,0),(13,0),(14,0),(15,2),(16,2),(17,2)] [2,3] [] H (by kernel_rfl) (fun _ _ _ h=>False.elim h.2) fun w W0 hI H=>fn 4 E rfl fun a E=>fbn E [y,z] rfl (wn rfl) rfl rfl rfl rfl mm1 rfl U25 rfl dA fun a E=>fn 3 E rfl fun a E=>fb E rfl (wn rfl) rfl rfl rfl rfl mm1 rfl U32 rfl fun a E=>fn 1 E rfl fun a E=>fb E rfl (wn rfl) rfl rfl rfl rfl m0 rfl U9 rfl fun a E=>bZ rfl<|?_
   refine bd hm fun W D hm=>cG E rfl rfl rfl rfl rfl u7 (jL (x1:=(⟨A,B⟩:bB)) H l m c D)<|?_
   rintro _ w ⟨X,Y,Z,b0,rfl,H⟩ a E
   refine nt<|?_
   refine ⟨⟨_,_,H,(aB mm6 (aB (t1 mm6) (aL))),(aM)⟩,?_⟩
   refine fn 3 E rfl fun a E=>bQ rfl<|pr 1 E rfl fun a E=>nt<|bQ rfl<|pr 1 E rfl fun a E=>nt<|bQ rfl<|?_
   obtain ⟨q60,b1,rfl⟩:=H.rowform (i:=2) rfl
   obtain ⟨q62,b2,rfl⟩:=H.rowform (i:=3) rfl
   refine aZ (i:=7) E H (wn rfl) rfl rfl rfl rfl rfl rfl dA rfl rfl fun w H=>nt<|bR<|?_
   clear hI
   refine aC<|wp_region_lit<|pr 4 E rfl fun a E=>?_
   obtain ⟨q64,b3,rfl⟩:=H.rowform (i:=4) rfl
   exact aZ (i:=7) E H (wn rfl) rfl rfl rfl rfl rfl rfl Lv rfl rfl fun w H=>nt<|have H:=H.thaw (i:=2) rfl;have H:=H.thaw (i:=2) rfl;have H:=H.thaw (i:=2) rfl;have H:=H.drs [0,0,1];X7 ⟨E.to rfl,H,(Y3 Y0),mm2,mm1,m0,hm⟩
  ·exact wp_skip<|aC<|have H:=H.drs [0,1];X7 ⟨E.to rfl,H,Y0,l,m,c,hm⟩
 ·clear E H hm
  rintro a w ⟨n,o,p,q,s,t,b,E,H,F,G,I,J,hm⟩
  unfold nX at hm
  refine sq<|sv E rfl rfl rfl (cI E rfl (E.evs rfl) (v:=.agg bN.toArray) (by kernel_rfl)) fun a E=>aZ (i:=0) E H (wn rfl) rfl rfl rfl rfl rfl rfl bU rfl rfl fun w H=>nt<|wp_ret<|dH E rfl (cV (i:=0) (us:=bN) H rfl rfl rfl U48 rfl bU)<|have H:=H.drop 0;?_
  cases hm
  exact X3 ⟨rfl,H.reads (aA G (aA I (aA J (F))))⟩

def wA(x1:aN)(x3:Int):Option Bool:=
  some (x1.Txn == x3)
theorem I3{x1:aN}{b:Nat}{x3:Int}(H:Sep w (Blk b 2 [.int .i64 x3]::Fo) rs){r:Bool}(hm:wA x1 x3=some r) :
    Calls Tryz.prog 140 [.agg (nG x1).toArray,pt b 0].toArray w (Ret fun v w'=>.bool r=v∧Sep w' (Blk b 2 [.int .i64 x3]::Fo) (rs)):=by
 unfold wA at hm
 refine ent Tryz.func140 rfl Tryz.ntmps140 rfl rfl fun a E=>sq<|bS E H (wn rfl) rfl rfl rfl rfl rfl fun c w a H E=>pr 1 E rfl fun a E=>nx<|pr 1 E rfl fun a E=>lb E H 0 rfl rfl rfl rfl rfl rfl rfl U2 rfl fun a E=>lb E H 1 rfl rfl rfl rfl rfl rfl rfl U2 rfl fun a E=>pr 2 E rfl fun a E=>?_
 refine nt<|wp_ret<|aY E rfl rfl<|have H:=H.drop 0;?_
 cases hm
 exact ⟨rfl,H.reads Y0⟩

def eQ(c:List aN)(d:Int):Nat→Int→Option Int
  | 0,_=>none
  | f+1,b=>
    if (decide (b < (c.length:Int)))=true then ((idx c b).bind fun g=>(wA g d).bind fun e=>if e=true then (some (b)) else (eQ c d f (IntKind.i64.wrap (b+1)))) else (some ((-1)))
def iG(b:List aN)(c:Int):Option Int:=
  eQ b c (((b.length:Int) - 0:Int).toNat+1) 0
theorem tS{e:Value}{b:List aN}{f:Nat}{g:Int}(H:Sep w (Row 103 bG e b::Blk f 2 [.int .i64 g]::Fo) rs){r:Int}(hm:iG b g=some r) :
    Calls Tryz.prog 120 [e,.func (.func 140) #[] #[pt f 0]].toArray w (Ret fun v w'=>.int .i64 r=v∧Sep w' (Blk f 2 [.int .i64 g]::Row 103 bG e b::Fo) (rs)):=by
 unfold iG at hm
 refine ent Tryz.func120 rfl Tryz.ntmps120 rfl rfl fun a E=>sq<|pr 1 E rfl fun a E=>nt<|wp_seq<|sq<|pr 1 E rfl fun a E=>sv E rfl rfl rfl (iZ (i:=0) E H rfl rfl rfl U62) fun a E=>pr 1 E rfl fun a E=>?_
 refine nt<|wp_block<|bX (fun c a w=>∃ n j,Env 19 a [(0,e),(1,.func (.func 140) #[] #[pt f 0]),(7,.int .i64 (b.length:Int)),(8,.int .i64 n)]∧Sep w (Row 103 bG e b::Blk f 2 [.int .i64 g]::Fo) j∧(∀ r,r ∈ rs→r ∈ j)∧eQ b g c n=some r) (((b.length:Int) - 0:Int).toNat+1) ?_ ?_
 ·exact ⟨_,_,E.to rfl,H,Y0,hm⟩
 ·clear E H hm
  rintro c a w ⟨n,j,E,H,k,hm⟩
  cases c with
  | zero=>exact (bT hm rfl).elim
  | succ c=>
   unfold eQ at hm
   refine sq<|pr 1 E rfl fun a E=>nt<|wp_seq<|wif E hm rfl (fun hm=>?_) fun hm=>?_
   ·refine wp_skip<|aC<|wp_seq<|wp_block<|sq<|pr 2 E rfl fun a E=>nx<|pr 3 E rfl fun a E=>bd hm fun o l hm=>?_
    obtain ⟨q,s,m⟩:=H.rowformNE (i:=0) rfl l
    refine sv E rfl rfl rfl (cY (d:=bG) E m rfl rfl rfl rfl U62 gQ l) fun a E=>sv E rfl rfl rfl (fZ (i:=0) E H eC m rfl rfl rfl l (us:=[.string o.Dir,.int .i64 o.Txn,.int .i64 o.Age]) rfl s9 rfl gQ) fun a E=>have H:=H.frs [0,1] rfl;bd hm fun t p hm=>aU E (wn rfl) rfl rfl (bP E rfl rfl rfl (Nh _)) (I3 H p)<|?_
    rintro _ w ⟨rfl,H⟩ a E
    refine nt<|wif E hm rfl (fun hm=>?_) fun hm=>?_
    ·refine sq<|pr 2 E rfl fun a E=>nt<|wp_ret<|bV<|aP<|aP<|bV<|aP<|?_
     refine aY E rfl rfl<|?_
     cases hm
     exact ⟨rfl,H.reads k⟩
    ·exact wp_skip<|bY<|aC<|wp_region_lit<|pr 2 E rfl fun a E=>nt<|have H:=H.frs [0,1] rfl;⟨c,Nat.lt_succ_self c,_,_,E.to rfl,H,k,hm⟩
   ·refine wp_exit<|bH<|bH<|dG<|aC<|sq<|pr 1 E rfl fun a E=>nt<|wp_ret<|?_
    refine aY E rfl rfl<|have H:=H.frs [0,1] rfl;?_
    cases hm
    exact ⟨rfl,H.reads k⟩

def fG(rec_1:(List aN)→Int→Int→Option (List aN))(d:Int)(b:(List aN))(c:Int):Option (List aN):=
  rec_1 b c (IntKind.i64.wrap (d+1))
def dQ(f:Int):Nat→(List aN)→Int→Int→Option (List aN)
  | 0,_,_,_=>none
  | g+1,c,b,d=>
    if (decide (d < (c.length:Int)))=true then ((idx c d).bind fun e=>(wA e f).bind fun i=>if (!i)=true then ((idx c b).bind fun j=>fG (dQ f g) d (c.set b.toNat e) (IntKind.i64.wrap (b+1))) else (fG (dQ f g) d c b)) else ((ck (0 ≤ b∧b ≤ c.length)).bind fun k=>(ck (0 ≤ b∧b ≤ (c.take b.toNat ++ List.replicate (c.length - b.toNat) (⟨⟨#[]⟩,0,0⟩:aN)).length)).bind fun l=>some ((c.take b.toNat ++ List.replicate (c.length - b.toNat) (⟨⟨#[]⟩,0,0⟩:aN)).take b.toNat))
def iT(b:List aN)(d:Int):Option (List aN):=
  (iG b d).bind fun c=>if (c == (-1))=true then (some (b)) else (dQ d (((b.length:Int) - (IntKind.i64.wrap (c+1)):Int).toNat+1) b c (IntKind.i64.wrap (c+1)))
theorem uP{n:Value}{x:List aN}{c:Nat}{e:Int}(H:Sep w (Row 103 bG n x::Blk c 2 [.int .i64 e]::Fo) rs){r:(List aN)}(hm:iT x e=some r) :
    Calls Tryz.prog 139 [n,.func (.func 140) #[] #[pt c 0]].toArray w (Ret fun v w'=>∃ D,D=v∧Sep w' (Row 103 bG D r::Blk c 2 [.int .i64 e]::Fo) (rs)):=by
 unfold iT at hm
 refine ent Tryz.func139 rfl Tryz.ntmps139 rfl rfl fun a E=>sq<|pr 1 E rfl fun a E=>nx<|pr 2 E rfl fun a E=>bd hm fun G F hm=>xk E rfl rfl rfl rfl rfl Bi (tS H F) fun w H a E=>pr 1 E rfl fun a E=>nt<|?_
 refine wp_seq<|sq<|pr 2 E rfl fun a E=>nt<|wif E hm rfl (fun hm=>?_) fun hm=>?_
 ·refine sq<|pr 2 E rfl fun a E=>nt<|wp_ret<|aP<|aY E rfl rfl<|have H:=H.frs [0,1] rfl;?_
  cases hm
  exact ⟨_,rfl,H.reads Y0⟩
 ·refine wp_skip<|aC<|wp_seq<|sq<|pr 3 E rfl fun a E=>nt<|wp_block<|bX (fun f a w=>∃ y z o g,Env 42 a [(0,n),(1,.func (.func 140) #[] #[pt c 0]),(5,.int .i64 z),(6,.int .i64 o)]∧Sep w (Row 103 bG n y::Blk c 2 [.int .i64 e]::Fo) g∧(∀ r,r ∈ rs→r ∈ g)∧dQ e f y z o=some r) (((x.length:Int) - (IntKind.i64.wrap (G+1)):Int).toNat+1) ?_ ?_
  ·exact have H:=H.frs [0,1] rfl;X4 ⟨E.to rfl,H,Y0,hm⟩
  ·clear E H hm
   rintro f a w ⟨y,z,o,g,E,H,j,hm⟩
   cases f with
   | zero=>exact (bT hm rfl).elim
   | succ f=>
    unfold dQ at hm
    refine wp_seq<|sq<|pr 2 E rfl fun a E=>sv E rfl rfl rfl (iZ (i:=0) E H rfl rfl rfl U62) fun a E=>pr 1 E rfl fun a E=>nt<|wif E hm rfl (fun hm=>?_) fun hm=>?_
    ·refine wp_skip<|aC<|aT (fun a w=>∃ p q k,Env 42 a [(0,n),(1,.func (.func 140) #[] #[pt c 0]),(5,.int .i64 q),(6,.int .i64 o)]∧Sep w (Row 103 bG n p::Blk c 2 [.int .i64 e]::Fo) k∧(∀ r,r ∈ rs→r ∈ k)∧fG (dQ e f) o p q=some r) ?_ ?_
     ·refine wp_block<|sq<|pr 2 E rfl fun a E=>bd hm fun b l hm=>?_
      obtain ⟨I,J,s⟩:=H.rowformNE (i:=0) rfl l
      refine sv E rfl rfl rfl (cY (d:=bG) E s rfl rfl rfl rfl U62 gQ l) fun a E=>sv E rfl rfl rfl (fZ (i:=0) E H eC s rfl rfl rfl l (us:=[.string b.Dir,.int .i64 b.Txn,.int .i64 b.Age]) rfl s9 rfl gQ) fun a E=>al E H rfl rfl rfl rfl Jd fun K w a H E=>aZ (i:=0) E H (wn rfl) rfl rfl rfl rfl rfl rfl gQ rfl rfl fun w H=>nx<|pr 1 E rfl fun a E=>sv E rfl rfl rfl (cA (i:=0) (us:=(nG b)) E H rfl rfl rfl rfl s9 rfl gQ) fun a E=>have H:=H.frs [1,1,2] rfl;bd hm fun L A hm=>?_
      refine aU E (wn rfl) rfl rfl (bP E rfl rfl rfl (Nh _)) (I3 H A)<|?_
      rintro _ w ⟨rfl,H⟩ a E
      refine pr 1 E rfl fun a E=>nt<|wif E hm rfl (fun hm=>?_) fun hm=>?_
      ·refine sq<|pr 2 E rfl fun a E=>sv E rfl rfl rfl (cA (i:=1) (us:=(nG b)) E H rfl rfl rfl rfl s9 rfl gQ) fun a E=>bd hm fun M m hm=>?_
       obtain ⟨N,O,t⟩:=H.rowformNE (i:=2) rfl m
       refine sv E rfl rfl rfl (cY (d:=bG) E t rfl rfl rfl rfl U62 gQ m) fun a E=>yO (d:=bG) (i:=2) (us:=[.string b.Dir,.int .i64 b.Txn,.int .i64 b.Age]) (z':=b) E H eC (wn rfl) rfl t rfl rfl rfl rfl rfl rfl rfl m gQ fun w H=>nt<|wp_region_lit<|pr 3 E rfl fun a E=>wpList_nil<|bY<|aC<|have H:=H.drop 1;?_
       exact have H:=H.frs [0,1] rfl;X3 ⟨E.to rfl,H,j,hm⟩
      ·exact wp_skip<|bY<|aC<|have H:=H.drop 1;have H:=H.frs [0,1] rfl;X3 ⟨E.to rfl,H,j,hm⟩
     ·clear E H hm
      rintro a w ⟨p,q,k,E,H,B,hm⟩
      unfold fG at hm
      exact wp_region_lit<|pr 3 E rfl fun a E=>nt<|⟨f,Nat.lt_succ_self f,X4 ⟨E.to rfl,H,B,hm⟩⟩
    ·refine wp_exit<|bH<|bH<|dG<|aC<|sq<|pr 2 E rfl fun a E=>bk hm fun u hm=>sv E rfl rfl rfl (J6 (d:=bG) (i:=0) E H rfl rfl rfl rfl U62 gQ u) fun a E=>?_
     refine q4 (i:=0) (z0:=(⟨⟨#[]⟩,0,0⟩:aN)) E H eC (wn rfl) rfl rfl rfl U62 Sw rfl rfl rfl u fun w H=>nx<|pr 2 E rfl fun a E=>bk hm fun C hm=>C8 (i:=0) E H eC (wn rfl) rfl rfl rfl rfl rfl rfl U62 gQ C fun P a H E=>pr 1 E rfl fun a E=>nt<|wp_ret<|aY E rfl rfl<|?_
     cases hm
     exact ⟨_,rfl,H.reads j⟩

def A9(b:List aN)(x3:Int):Option (List aN):=
  (ck (b.length ≤ LIM)).bind fun d=>(iT b x3).bind fun c=>some (c)
theorem Fz{c:Value}{d:List aN}{x3:Int}(H:Sep w (Fo) rs)(e:rSl bG c d ∈ rs){r:(List aN)}(hm:A9 d x3=some r) :
    Calls Tryz.prog 73 [c,.int .i64 x3].toArray w (Ret fun v w'=>∃ f,f=v∧Sep w' (Row 103 bG f r::Fo) (rs)):=by
 unfold A9 at hm
 refine ent Tryz.func73 rfl Tryz.ntmps73 rfl rfl fun a E=>sq<|bS E H (wn rfl) rfl rfl rfl rfl rfl fun j w a H E=>pr 1 E rfl fun a E=>nx<|pr 1 E rfl fun a E=>bk hm fun g hm=>aU E (wn rfl) rfl rfl (cC E rfl rfl (Lx _)) (iS H e g) fun k w H a E=>sv E rfl rfl rfl (iP E rfl rfl rfl) fun a E=>?_
 refine bd hm fun l b hm=>cG E rfl rfl rfl rfl rfl Xy (uP H b)<|?_
 rintro _ w ⟨i,rfl,H⟩ a E
 refine pr 1 E rfl fun a E=>nt<|wp_ret<|aY E rfl rfl<|have H:=H.drop 1;?_
 cases hm
 exact ⟨_,rfl,H.reads Y0⟩

end Go.Cb
